import Derived.Test.YtcdjaepgahbhfaaGreatZ5
set_option linter.unusedVariables false
set_option linter.unusedSimpArgs false
set_option maxRecDepth 100000
set_option maxHeartbeats 16000000
namespace Go.Proofs.YtcdjaepgahbhfaaGreat
section
open Go.RowKit
theorem yL(s:ByteArray)(w:World)(hs:s.size<=9223372036854775807):
  Calls Tryz.prog 75 #[.string s] w (gA (.int .u32 (bf s)) w):=by
 go_enter Tryz.func75,Tryz.ntmps75
 go_wp2
 go_loop [3,4,5] (fun x y v=>∃k:Nat,v= .int .i64 k/\k<=s.size/\x= .int .i64 (adl (s.data.toList.take k)).1/\y= .int .i64 (adl (s.data.toList.take k)).2) (fun _ _ v=>s.size-(intOf v).toNat)
 case atStart=>exact⟨0,rfl,Nat.zero_le _,rfl,rfl⟩
 case round=>
  obtain⟨k,rfl,hk,rfl,rfl⟩:=hrel
  have hlt:=xQ (s.data.toList.take k)
  rcases Nat.lt_or_ge k s.size with hk1|hk1
  ·have HS:=Lib.hid (yE s k hk1)
   obtain⟨a,ha⟩:∃a,a=(adl (s.data.toList.take k)).1:=⟨_,rfl⟩
   obtain⟨b,hb⟩:∃b,b=(adl (s.data.toList.take k)).2:=⟨_,rfl⟩
   rw[<-ha,<-hb] at HS hlt |-
   obtain⟨hlt1,hlt2⟩:=hlt
   have hcb:s[k].toNat<256:=UInt8.toNat_lt _
   clear ha hb
   obtain⟨c,hc⟩:∃c:UInt8,c=s[k]:=⟨_,rfl⟩
   have HC:=Lib.hid hc
   have hk2:(k:Int)<(s.size:Int):=by omega
   have hk3:(0:Int)<=(k:Int):=by omega
   clear hc
   go_wp2
   go_round
   case rel=>exact⟨k+1,by go_num,by omega,by rw[HS.out];congr 1,by rw[HS.out];congr 1⟩
   case measure=>simp[intOf];omega
  obtain rfl:k=s.size:=by omega
  have e:s.data.toList.take s.size=s.data.toList:=List.take_of_length_le (by simp)
  rw[e] at hlt |-
  obtain⟨a,ha⟩:∃a,a=(adl s.data.toList).1:=⟨_,rfl⟩
  obtain⟨b,hb⟩:∃b,b=(adl s.data.toList).2:=⟨_,rfl⟩
  rw[<-ha,<-hb] at hlt |-
  obtain⟨hlt1,hlt2⟩:=hlt
  have HF:=Lib.hid (show bf s=b*65536+a by rw[bf,<-ha,<-hb])
  clear e ha hb
  go_wp2
  go_ret
  exact gA.int (by rw[HF.out];omega) (Ext.refl _)
def shN(N:Int)(k:Nat):Int:=N / 256^k
theorem IG(N:Int):shN N 0=N:=by simp[shN]
theorem GK(N:Int)(k:Nat):(shN N k).fdiv (2^8)=shN N (k+1):=by
 rw[shN,shN,Int.fdiv_eq_ediv_of_nonneg _ (by decide),Int.pow_succ]
 exact Int.ediv_ediv_of_nonneg (Int.le_of_lt (Int.pow_pos (by decide)))
theorem DZ(N:Int):ah N 0=⟨#[]⟩:=rfl
theorem w5(N:Int){k:Nat}(h:k<8):ah N (k+1)=strOfNums [shN N k % 256]++ah N k:=by
 apply gX
 rw[cU]
 unfold ah bl
 rw[strOfNums_data,strOfNums_data,strOfNums_data,<-List.map_append]
 congr 1
 have hu:IntKind.u64.wrap N=N % 18446744073709551616:=by rw[IntKind.wrap_u64]
 unfold lu shN
 rw[hu]
 rcases(by omega:k=0\/k=1\/k=2\/k=3\/k=4\/k=5\/k=6\/k=7) with rfl|rfl|rfl|rfl|rfl|rfl|rfl|rfl<;>
  simp only[Nat.reduceSub,Nat.reduceAdd,Int.reducePow,List.drop_succ_cons,List.drop_zero,List.cons_append,List.nil_append,List.cons.injEq,and_true]<;>omega
theorem KW{x sl:Int}{s:ByteArray}(h:(decide (x<0)||decide (399<x))=true):false=edR (x,sl,s):=by
 have:inB x 0 399=false:=by
  simp only[Bool.or_eq_true,decide_eq_true_eq] at h
  unfold inB
  rcases h with h|h
  rw[decide_eq_false (by omega)];rfl
  rw[decide_eq_false (p:=x<=399) (by omega)];simp
 rw[kO,this];rfl
theorem Ep{x:Int}(h:(decide (x<0)||decide (399<x))=false):inB x 0 399=true:=by
 simp only[Bool.or_eq_false_iff,decide_eq_false_iff_not] at h
 unfold inB
 rw[decide_eq_true (by omega),decide_eq_true (by omega)];rfl
theorem JD{x sl:Int}{s:ByteArray}(h:(decide (x<0)||decide (399<x))=false)(h2:(sl== -1)=true):(((s.size:Int)==1)&&decide (bV (bl s) 0<=2))=edR (x,sl,s):=by
 rw[kO,Ep h,if_pos (by simpa using h2),Bool.true_and,eK,Bool.not_or]
 congr 1
 rw[Bool.eq_iff_iff];simp;omega
 rw[Bool.eq_iff_iff];simp
theorem KE{x sl:Int}{s:ByteArray}(h:(decide (x<0)||decide (399<x))=false)(h2:(sl== -1)=false):((decide (0<=sl)&&decide (sl<=23))&&decide ((s.size:Int)<=400))=edR (x,sl,s):=by
 rw[kO,Ep h,if_neg (by simpa using h2),Bool.true_and];rfl
theorem A7{r:RecM}(h:bz r=true->False):false=bz r:=by
 cases hr:bz r
 rfl
 exact(h hr).elim
theorem Hm{r:RecM}(h:RecOk r):true=bz r:=by
 symm
 simp only[bz,inB,Bool.and_eq_true,decide_eq_true_eq,List.all_eq_true]
 exact⟨h.kind,h.xid,h.tbl,by have:=h.many;omega,h.eds,by have:=h.note;omega⟩
theorem apn(s:ByteArray):s++(⟨#[]⟩:ByteArray)=s:=by apply gX;rw[cU];exact List.append_nil _
theorem KZ(a b c:ByteArray):(a++b)++c=b8 [a,b,c]:=by rw[bB,bB,bB,fL,apn,ByteArray.append_assoc]
theorem Nr(a b c:ByteArray):(a++b)++c=b8 [b8 [a,b],c]:=by rw[bB,bB,bB,bB,fL,apn,apn,ByteArray.append_assoc]
theorem Ny(a b c d:ByteArray):b8 [a,b,c,d]=((a++b)++c)++d:=by rw[bB,bB,bB,bB,fL,apn,ByteArray.append_assoc,ByteArray.append_assoc]
theorem NF(a b c d e f:ByteArray):((((a++b)++c)++d)++e)++f=b8 [a,b,c,d,e,f]:=by rw[bB,bB,bB,bB,bB,bB,fL,apn,ByteArray.append_assoc,ByteArray.append_assoc,ByteArray.append_assoc,ByteArray.append_assoc]
section
variable{P:Program}{o:Oper}{ρ:Operand->Value}{W:World}
theorem Kg{t t':TypeId}{x y:Operand}{k k':IntKind}{a b z:Int}(h:o.op= .binOp .shr t x y t')(hx:ρ x= .int k a)(hy:ρ y= .int k' b)(hb:0<=b)(hz:a.fdiv (2^min b.toNat k.bits)=z):(execOp ρ o).run P W= .ok (.value (.int k z)) W:=by
 subst hz
 unfold execOp;rw[h]
 have:¬b<0:=by omega
 simp[hx,hy,eqGuard,binOp,Op.shift,this]
end
theorem eX(N:Int)(m:Nat)(w:World)(hm:m<=8):
  Calls Tryz.prog 74 #[.int .i64 N,.int .i64 ((m:Int))] w (Ret (.string (ah N m)) w):=by
 go_enter Tryz.func74,Tryz.ntmps74
 have ak:=St.start w
 refine wq (sqr (sqp [.k 4 (.string ⟨#[]⟩)] ?_))
 refine aa (wq (sqr (sqp [.k 5 (.string ⟨#[]⟩)] ?_)))
 refine aa (wq (wq (sqr (sqp [.k 6 (vi 0)] ?_))))
 refine aa (wp_block ?_)
 refine aT (fun t_ mz az W=>∃k:Nat,k<=m/\mz=m-k/\az=⟨(ovr (jv az) [(0,0,0,[vi (shN N k)]),(4,5,0,[.string (ah N k),vi ((k:Int))]),(0,7,14,[])] t_).toArray,[]⟩/\St w [] [] W) (m-0) ?_ ?_
 exact⟨0,by omega,rfl,(by rw[IG,DZ];rfl),ak.pk []⟩
 rintro n4 a4 W4 ⟨k,hk,rfl,hj_,bb⟩
 refine ovz hj_ fun TP=>?_
 refine wq (wq (sqr (sqp [.m 7 6,.m 8 1,.k 9 (.bool (decide ((k:Int)<(m:Int))))] ?_)))
 refine aa (wds (fun Mp Ii=>?_) fun Mp Ii=>?_)
 refine wp_skip (aa (wq (wp_block (wq (sqr (sqp [.m 12 0,sAn 13 .i64 (shN N k) 255 ((shN N k) % 256) (wo (shN N k) 8 (by decide)),sW 14 .u8 ((shN N k) % 256) ((shN N k) % 256) (IntWalk.u8_in _ (by omega))] ?_))))))
 refine d9 (fun x_=>sA x_) (fun uY=> .slice uY 1 1) (fun uY=>eO 5 1 (.slice uY 1 1) 1 ([.int .u8 ((shN N k) % 256)])) bb (by
   refine svA fun a b W X cx=>?_
   have Pt:a (.tmp 14)= .int .u8 ((shN N k) % 256):=(cx.ou 14)
   exact dx (e:=5) (xs:=[.int .u8 ((shN N k) % 256)]) rfl (by simp[go_sem,Pt]) rfl (by decide) rfl rfl (fun _ _ _ _ _=> .intro)) fun uY Bv dh=>?_
 refine sql (.string (strOfNums ([((shN N k) % 256)]))) dh (fun cx=>kX (e:=5) rfl (by kernel_rfl) (by kernel_rfl) (by kernel_rfl) (cx.ou 15) (cx.ri 0 rfl)) ?_
 refine sqp [.m 17 5] ?_
 refine sql (.string (ah N (k+1))) dh (fun cx=>(by rw[w5 N (by omega)];exact uh rfl (cx.ou 16) (cx.ou 17) (by rw[strOfNums_size,aF N k (by omega)];first|omega|(simp only[List.length_cons,List.length_nil];omega)))) ?_
 refine sqp [.m 5 18] ?_
 refine aa (sqr (sqp [.m 19 0] ?_))
 refine sql (vi (shN N (k+1))) dh (fun cx=>Kg rfl (cx.ou 19) (cx.co _) (by decide) (GK N k)) ?_
 refine sqp [.m 0 20] ?_
 refine av (aa (sqr (sqp [.m 10 6,sI 11 ((k:Int)+1) (by omega),.m 6 11] ?_)))
 refine aa ?_
 refine⟨m-((k+1)),by omega,?_⟩
 exact⟨(k+1),by omega,rfl,(by kernel_rfl),dh.pk []⟩
 refine wp_exit (aq (aq (bj (aa (wq (sqr (sqp [.m 21 5,.m 4 21] ?_)))))))
 refine aa (wp_ret ?_)
 refine bpr (.string (ah N k)) (ag Tryz.results74 rpt) ?_
 exact Ret.of (by rw[show k=m by omega]) bb.ext
theorem kC(s:ByteArray)(w:World)(hs:s.size<=65535):
  Calls Tryz.prog 139 #[.string s] w (Ret (.string (aW s)) w):=by
 have hp:=aF (s.size:Int) 2 (by omega)
 go_enter Tryz.func139,Tryz.ntmps139
 have ak:=St.start w
 refine wq (sqr (sqp [.k 2 (.string ⟨#[]⟩)] ?_))
 refine aa (wq (sqr (sqp [.m 3 0,.k 4 (vi ((s.size:Int)))] ?_)))
 refine sqk (.string (ah (s.size:Int) 2)) ak (fun cx=>⟨_,eX (s.size:Int) 2 _ (by omega),(aN (cx.ou 4) (cx.co _))⟩) fun W4 bb=>?_
 refine sqp [.m 6 0,sS 7 (ah (s.size:Int) 2) s (by omega),.m 2 7] ?_
 refine aa (wp_ret ?_)
 refine bpr (.string ((ah (s.size:Int) 2)++s)) (ag Tryz.results139 rpt) ?_
 exact Ret.of rfl bb.ext
theorem Aw(x sl:Int)(s:ByteArray)(w:World)(hs:s.size<=9223372036854775807):
  Calls Tryz.prog 49 #[.agg #[.int .i64 x,.int .i64 sl,.string s]] w (Ret (.bool (edR (x,sl,s))) w):=by
 go_enter Tryz.func49,Tryz.ntmps49
 have ak:=St.start w
 refine wq (sqr ?_)
 refine bY #[vi x,vi sl,.string s] ak fun ay W1 aA=>?_
 refine sqp [.k 2 (.bool false)] ?_
 refine aa (wq (wq (sqr (sqp [.k 3 (vp ay)] ?_))))
 refine au 0 aA ?_
 refine sqp [.k 5 (.bool (decide (x<0))),.m 6 5] ?_
 refine dY 6 [7,8,9] ?_ rfl (fun hq=>?_) ?_
 rotate_left
 refine sqp [.k 7 (vp ay)] ?_
 refine au 0 aA ?_
 refine sqp [.k 9 (.bool (decide (399<x)))] ?_
 exact sqe
 refine cY ?_
 refine sqp [sPo 10 (decide (x<0)) (decide (399<x))] ?_
 refine aa (wbs (fun dm=>?_) fun dm=>?_)
 have gU:=dm
 simp only[zB] at gU
 refine wq (sqr (sqp [.k 2 (.bool false)] ?_))
 refine aa (wp_ret (aj ?_))
 refine bpr (.bool false) (ag Tryz.results49 rpt) ?_
 exact Ret.bool (KW dm) aA.ext
 have gU:=dm
 simp only[zB] at gU
 obtain⟨Mq,Mr⟩:=gU
 refine wp_skip (aa (wq (wq (sqr (sqp [.k 11 (po ay 1)] ?_)))))
 refine au 0 aA ?_
 refine sqp [.k 13 (.bool (sl==(-1)))] ?_
 refine aa (wbs (fun dd=>?_) fun dd=>?_)
 ·have lZ:=beq_iff_eq.1 dd
  refine wq (sqr (sqp [.k 14 (po ay 2)] ?_))
  refine au 0 aA ?_
  refine sqp [.k 16 (vi ((s.size:Int))),.k 17 (.bool ((s.size:Int)==1)),.m 18 17] ?_
  refine dY 18 [19,20,21,22] ?_ rfl (fun hq=>?_) ?_
  rotate_left
  have hq_:=hq
  try simp only[zB] at hq_
  refine sqp [.k 19 (po ay 2)] ?_
  refine au 0 aA ?_
  refine sql (.int .u8 (bV (bl s) 0)) aA (fun cx=>jV (m:=0) rfl (by kernel_rfl) (cx.ou 20) (cx.co _) (by omega) (by omega)) ?_
  refine sqp [.k 22 (.bool (decide (bV (bl s) 0<=2)))] ?_
  exact sqe
  refine cY ?_
  refine sqp [sPa 23 ((s.size:Int)==1) (decide (bV (bl s) 0<=2)),.m 2 23] ?_
  refine aa (wp_ret (aj ?_))
  refine bpr (.bool (((s.size:Int)==1)&&(decide (bV (bl s) 0<=2)))) (ag Tryz.results49 rpt) ?_
  exact Ret.bool (JD dm dd) aA.ext
 have lZ:=beq_eq_false_iff_ne.1 dd
 refine wp_skip (aa (wq (sqr (sqp [.k 24 (po ay 1)] ?_))))
 refine au 0 aA ?_
 refine sqp [.k 26 (.bool (decide (0<=sl))),.m 27 26] ?_
 refine dY 27 [28,29,30] ?_ rfl (fun hq=>?_) ?_
 rotate_left
 refine sqp [.k 28 (po ay 1)] ?_
 refine au 0 aA ?_
 refine sqp [.k 30 (.bool (decide (sl<=23)))] ?_
 exact sqe
 refine cY ?_
 refine sqp [sPa 31 (decide (0<=sl)) (decide (sl<=23)),.m 32 31] ?_
 refine dY 32 [33,34,35,36] ?_ rfl (fun hq=>?_) ?_
 rotate_left
 refine sqp [.k 33 (po ay 2)] ?_
 refine au 0 aA ?_
 refine sqp [.k 35 (vi ((s.size:Int))),.k 36 (.bool (decide ((s.size:Int)<=400)))] ?_
 exact sqe
 refine cY ?_
 refine sqp [sPa 37 ((decide (0<=sl))&&(decide (sl<=23))) (decide ((s.size:Int)<=400)),.m 2 37] ?_
 refine aa (wp_ret ?_)
 refine bpr (.bool (((decide (0<=sl))&&(decide (sl<=23)))&&(decide ((s.size:Int)<=400)))) (ag Tryz.results49 rpt) ?_
 exact Ret.bool (KE dm dd) aA.ext
theorem sr(w:World):
  Calls Tryz.prog 50 #[sn] w (Ret (.bool true) w):=by
 go_enter Tryz.func50,Tryz.ntmps50
 have ak:=St.start w
 refine wq (sqr (sqp [.k 2 (.bool false)] ?_))
 refine aa (wq (wq (sqr (sqp [.k 3 (vi 0)] ?_))))
 refine aa (wp_block ?_)
 refine aT (fun t_ mz az W=>∃j:Nat,j<=0/\mz=0-j/\az=⟨(ovr (jv az) [(2,2,1,[vi ((j:Int))]),(0,4,12,[])] t_).toArray,[]⟩/\St w [] [] W) (0-0) ?_ ?_
 exact⟨0,Nat.zero_le _,rfl,(by kernel_rfl),ak.pk []⟩
 rintro n3 a3 W3 ⟨j,hj,rfl,hj_,aV⟩
 refine ovz hj_ fun QL=>?_
 refine wq (wq (sqr ?_))
 have hd8:(decide ((j:Int)<0))=false:=(decide_eq_false (by omega))
 refine sqp [.m 4 3,.m 5 0,.k 6 (vi 0),.e 7 (.bool (decide ((j:Int)<0))) (.bool false) (congrArg Value.bool hd8)] ?_
 refine aa (wcf rfl (wp_exit (aq (aq (bj (aa (wq (sqr (sqp [.m 16 0,.k 17 (vi 0),.k 18 (.bool true),.k 2 (.bool true)] ?_)))))))))
 refine aa (wp_ret ?_)
 refine bpr (.bool true) (ag Tryz.results50 rpt) ?_
 exact Ret.bool (by decide) aV.ext
theorem HL(w:World):
  Calls Tryz.prog 170 #[.int .i64 0] w (Ret (.string ⟨#[0]⟩) w):=by
 go_enter Tryz.func170,Tryz.ntmps170
 have ak:=St.start w
 refine wq (sqr (sqp [.k 2 (.string ⟨#[]⟩)] ?_))
 refine aa (wq (sqr (sqp [.m 3 0,sW 4 .u8 0 0 (by decide)] ?_)))
 refine d9 (fun x_=>sA x_) (fun CS=> .slice CS 1 1) (fun CS=>eO 5 1 (.slice CS 1 1) 1 ([.int .u8 0])) ak (by
   refine svA fun a b W X cx=>?_
   have uN:a (.tmp 4)= .int .u8 0:=(cx.ou 4)
   exact dx (e:=5) (xs:=[.int .u8 0]) rfl (by simp[go_sem,uN]) rfl (by decide) rfl rfl (fun _ _ _ _ _=> .intro)) fun CS W4 bb=>?_
 refine sql (.string (strOfNums ([0]))) bb (fun cx=>kX (e:=5) rfl (by kernel_rfl) (by kernel_rfl) (by kernel_rfl) (cx.ou 5) (cx.ri 0 rfl)) ?_
 refine sqp [.m 2 6] ?_
 refine aa (wp_ret ?_)
 refine bpr (.string (strOfNums ([0]))) (ag Tryz.results170 rpt) ?_
 exact Ret.of rfl bb.ext
theorem tL(w:World):
  Calls Tryz.prog 140 #[sn] w (Ret (.string ⟨#[0]⟩) w):=by
 go_enter Tryz.func140,Tryz.ntmps140
 have ak:=St.start w
 refine wq (sqr (sqp [.k 2 (.string ⟨#[]⟩)] ?_))
 refine aa (wq (wq (sqr (sqp [.m 5 0] ?_))))
 refine sqk (.bool true) ak (fun cx=>⟨_,sr _,(aw (cx.ou 5))⟩) fun W3 aV=>?_
 refine sqp [.k 7 (.bool false)] ?_
 refine aa (wcf rfl (wp_skip (aa (wq (sqr (sqp [.m 8 0,.k 9 (vi 0)] ?_))))))
 refine sqk (.string ((⟨#[0]⟩:ByteArray))) aV (fun cx=>⟨_,HL _,(aw (cx.ou 9))⟩) fun W7 aY=>?_
 refine sqp [.m 3 10] ?_
 refine aa (wq (wq (sqr (sqp [.k 4 (vi 0)] ?_))))
 refine aa (wp_block ?_)
 refine aT (fun t_ mz az W=>∃j:Nat,j<=0/\mz=0-j/\az=⟨(ovr (jv az) [(4,4,0,[vi ((j:Int))]),(6,11,49,[])] t_).toArray,[]⟩/\St w [] [] W) (0-0) ?_ ?_
 exact⟨0,Nat.zero_le _,rfl,(by kernel_rfl),aY.pk []⟩
 rintro TQ a10 w6 ⟨j,hj,rfl,hj_,dL⟩
 refine ovz hj_ fun R5=>?_
 refine wq (wq (sqr ?_))
 have hd15:(decide ((j:Int)<0))=false:=(decide_eq_false (by omega))
 refine sqp [.m 11 4,.m 12 0,.k 13 (vi 0),.e 14 (.bool (decide ((j:Int)<0))) (.bool false) (congrArg Value.bool hd15)] ?_
 refine aa (wcf rfl (wp_exit (aq (aq (bj (aa (wq (sqr (sqp [.m 60 3,.m 2 60] ?_)))))))))
 refine aa (wp_ret ?_)
 refine bpr (.string ((⟨#[0]⟩:ByteArray))) (ag Tryz.results140 rpt) ?_
 exact Ret.of rfl dL.ext
theorem mH(k x t:Int)(A:Option Addr)(c:Nat)(l:List EdT)(note:ByteArray)(w:World)(hA:At w A (l.flatMap edC))(hl:l.length<=1000000)(hz:∀e∈l,e.2.2.size<=9223372036854775807)(hns:note.size<=9223372036854775807):
  Calls Tryz.prog 16 #[.agg #[.int .i64 k,.int .i64 x,.int .i64 t,sn,sn,.slice A l.length c,sn,.string note]] w (Ret (.bool (bz ⟨k,x,t,l,note⟩)) w):=by
 go_enter Tryz.func16,Tryz.ntmps16
 have ak:=St.start w
 refine wq (sqr ?_)
 refine bY #[vi k,vi x,vi t,sn,sn,.slice A l.length c,sn,.string note] ak fun ay W1 aA=>?_
 refine sqp [.k 2 (.bool false)] ?_
 refine aa (wq (wq (sqr (sqp [.k 6 (vp ay)] ?_))))
 refine au 0 aA ?_
 refine sqp [.k 8 (.bool (decide (k<1))),.m 9 8] ?_
 refine dY 9 [10,11,12] ?_ rfl (fun hq=>?_) ?_
 rotate_left
 refine sqp [.k 10 (vp ay)] ?_
 refine au 0 aA ?_
 refine sqp [.k 12 (.bool (decide (10<k)))] ?_
 exact sqe
 refine cY ?_
 refine sqp [sPo 13 (decide (k<1)) (decide (10<k)),.m 14 13] ?_
 refine dY 14 [15,16,17] ?_ rfl (fun hq=>?_) ?_
 rotate_left
 refine sqp [.k 15 (po ay 1)] ?_
 refine au 0 aA ?_
 refine sqp [.k 17 (.bool (decide (x<0)))] ?_
 exact sqe
 refine cY ?_
 refine sqp [sPo 18 ((decide (k<1))||(decide (10<k))) (decide (x<0)),.m 19 18] ?_
 refine dY 19 [20,21,22] ?_ rfl (fun hq=>?_) ?_
 rotate_left
 refine sqp [.k 20 (po ay 1)] ?_
 refine au 0 aA ?_
 refine sqp [.k 22 (.bool (decide (127<x)))] ?_
 exact sqe
 refine cY ?_
 refine sqp [sPo 23 (((decide (k<1))||(decide (10<k)))||(decide (x<0))) (decide (127<x)),.m 24 23] ?_
 refine dY 24 [25,26,27] ?_ rfl (fun hq=>?_) ?_
 rotate_left
 refine sqp [.k 25 (po ay 2)] ?_
 refine au 0 aA ?_
 refine sqp [.k 27 (.bool (decide (t<0)))] ?_
 exact sqe
 refine cY ?_
 refine sqp [sPo 28 ((((decide (k<1))||(decide (10<k)))||(decide (x<0)))||(decide (127<x))) (decide (t<0)),.m 29 28] ?_
 refine dY 29 [30,31,32] ?_ rfl (fun hq=>?_) ?_
 rotate_left
 refine sqp [.k 30 (po ay 2)] ?_
 refine au 0 aA ?_
 refine sqp [.k 32 (.bool (decide (65535<t)))] ?_
 exact sqe
 refine cY ?_
 refine sqp [sPo 33 (((((decide (k<1))||(decide (10<k)))||(decide (x<0)))||(decide (127<x)))||(decide (t<0))) (decide (65535<t)),.m 34 33] ?_
 refine dY 34 [35,36,37,38] ?_ rfl (fun hq=>?_) ?_
 rotate_left
 refine sqp [.k 35 (po ay 5)] ?_
 refine au 0 aA ?_
 refine sqp [.k 37 (vi ((l.length:Int))),.k 38 (.bool (decide (64<(l.length:Int))))] ?_
 exact sqe
 refine cY ?_
 refine sqp [sPo 39 ((((((decide (k<1))||(decide (10<k)))||(decide (x<0)))||(decide (127<x)))||(decide (t<0)))||(decide (65535<t))) (decide (64<(l.length:Int))),.m 40 39] ?_
 refine dY 40 [41,42,43,44] ?_ rfl (fun hq=>?_) ?_
 rotate_left
 refine sqp [.k 41 (po ay 6)] ?_
 refine au 0 aA ?_
 refine sqp [.k 43 (vi 0),.k 44 (.bool false)] ?_
 exact sqe
 refine cY ?_
 refine sqp [sPo 45 (((((((decide (k<1))||(decide (10<k)))||(decide (x<0)))||(decide (127<x)))||(decide (t<0)))||(decide (65535<t)))||(decide (64<(l.length:Int)))) false,.m 46 45] ?_
 refine dY 46 [47,48,49,50] ?_ rfl (fun hq=>?_) ?_
 rotate_left
 refine sqp [.k 47 (po ay 7)] ?_
 refine au 0 aA ?_
 refine sqp [.k 49 (vi ((note.size:Int))),.k 50 (.bool (decide (60000<(note.size:Int))))] ?_
 exact sqe
 refine cY ?_
 refine sqp [sPo 51 ((((((((decide (k<1))||(decide (10<k)))||(decide (x<0)))||(decide (127<x)))||(decide (t<0)))||(decide (65535<t)))||(decide (64<(l.length:Int))))||false) (decide (60000<(note.size:Int)))] ?_
 refine aa (wbs (fun zv=>?_) fun zv=>?_)
 have xB:=zv
 simp only[zB] at xB
 refine wq (sqr (sqp [.k 2 (.bool false)] ?_))
 refine aa (wp_ret (aj ?_))
 refine bpr (.bool false) (ag Tryz.results16 rpt) ?_
 exact Ret.bool (A7 fun hh=>by have h1:=em hh;have a1:=h1.kind;have a2:=h1.xid;have a3:=h1.tbl;have a4:=h1.many;have a5:=h1.note;dsimp only at a1 a2 a3 a4 a5;have h_:=zv;simp at h_;omega) aA.ext
 have xB:=zv
 simp only[zB] at xB
 obtain⟨⟨⟨⟨⟨⟨⟨⟨QM,QN⟩,QO⟩,QP⟩,QQ⟩,QR⟩,QS⟩,QT⟩,QU⟩:=xB
 refine wp_skip (aa (wq (wq (sqr (sqp [.k 3 (vi 0)] ?_)))))
 refine aa (wp_block ?_)
 refine aT (fun t_ mz az W=>∃j:Nat,j<=l.length/\(∀i x,i<j->l[i]? =some x->edR x=true)/\mz=l.length-j/\az=⟨(ovr (jv az) [(2,2,1,[vi ((j:Int))]),(0,4,1,[]),(47,52,15,[])] t_).toArray,[]⟩/\St w [] [eB ay 27 #[vi k,vi x,vi t,sn,sn,.slice A l.length c,sn,.string note]] W) (l.length-0) ?_ ?_
 exact⟨0,Nat.zero_le _,fun i x h=>absurd h (Nat.not_lt_zero i),rfl,(by kernel_rfl),aA.pk [0]⟩
 rintro QV a52 Bu ⟨j,hj,ha,rfl,hj_,cG⟩
 refine ovz hj_ fun Pu=>?_
 refine wq (wq (sqr (sqp [.m 52 3,.k 53 (po ay 5)] ?_)))
 refine au 0 cG ?_
 refine sqp [.k 55 (vi ((l.length:Int))),.k 56 (.bool (decide ((j:Int)<(l.length:Int))))] ?_
 refine aa (wds (fun Pv NZ=>?_) fun Pv NZ=>?_)
 refine wp_skip (aa (wq (wp_block (wq ?_))))
 obtain⟨ep,es,eb,hek⟩:=kP (l:=l) (k:=j) (by omega)
 have hez:eb.size<=9223372036854775807:=hz _ (List.mem_of_getElem? hek)
 refine sqr (sqp [.k 59 (po ay 5)] ?_)
 refine au 0 cG ?_
 refine sqp [.m 61 3] ?_
 refine sql (.pointer (some ((ad A).add (j*3)))) cG (fun cx=>aG (e:=84) (m:=j) (sz:=3) rfl (by kernel_rfl) (by kernel_rfl) (cx.ou 60) (cx.ou 61) (by omega) (by omega) (hA.ext cx.upd.to_ext) (bp (sz:=3) bH (by decide) (by omega))) ?_
 refine sql (.agg #[vi ep,vi es,.string eb]) cG (fun cx=>bQ (f:=edC) (m:=j) (sz:=3) (off:=0) (n:=3) rfl (by kernel_rfl) (by kernel_rfl) (cx.ou 62) rfl bH (hA.ext cx.upd.to_ext) hek (fun k hk=>match k,hk with|0,_=>rfl|1,_=>rfl|2,_=>rfl|k+3,hk=>absurd hk (by omega))) ?_
 refine sqk (.bool (edR (ep,es,eb))) cG (fun cx=>⟨_,Aw ep es eb _ hez,(aw (cx.ou 63))⟩) fun Ms iv=>?_
 refine sqp [.m 4 64] ?_
 refine aa (wq (sqr (sqp [.m 65 4,.k 66 (.bool (!(edR (ep,es,eb))))] ?_)))
 refine aa ?_
 rcases Bool.eq_false_or_eq_true (edR (ep,es,eb)) with zw|zw
 refine wp_cond_false (show Act.eval _ _= .bool false from(congrArg Value.bool (by rw[zw];rfl))) (wp_skip (av (aa (sqr (sqp [.m 57 3,sI 58 ((j:Int)+1) (by omega),.m 3 58] ?_)))))
 refine aa ?_
 refine⟨l.length-((j+1)),by omega,?_⟩
 exact⟨(j+1),by omega,xK ha hek (by simpa using zw),rfl,(by kernel_rfl),iv.pk [0]⟩
 refine wp_cond_true (show Act.eval _ _= .bool true from(congrArg Value.bool (by rw[zw];rfl))) (wq (sqr (sqp [.k 2 (.bool false)] ?_)))
 refine aa (wp_ret (ba (aj (aj (ba (aj ?_))))))
 refine bpr (.bool false) (ag Tryz.results16 rpt) ?_
 exact Ret.bool (A7 fun hh=>by have h1:=(em hh).eds _ (List.mem_of_getElem? hek);have h_:=zw;simp[h1] at h_) iv.ext
 refine wp_exit (aq (aq (bj (aa (wq (wq (sqr (sqp [.k 5 (vi 0)] ?_))))))))
 refine aa (wp_block ?_)
 refine aT (fun t_ mz az W=>∃j2:Nat,j2<=0/\mz=0-j2/\az=⟨(ovr (jv az) [(2,2,1,[]),(2,5,0,[vi ((j2:Int))]),(61,67,21,[])] t_).toArray,[]⟩/\St w [] [eB ay 27 #[vi k,vi x,vi t,sn,sn,.slice A l.length c,sn,.string note]] W) (0-0) ?_ ?_
 exact⟨0,Nat.zero_le _,rfl,(by kernel_rfl),cG.pk [0]⟩
 rintro TR a74 IP ⟨j2,hj2,rfl,hj_,gR⟩
 refine ovz hj_ fun R6=>?_
 refine wq (wq (sqr (sqp [.m 67 5,.k 68 (po ay 6)] ?_)))
 refine au 0 gR ?_
 have hd80:(decide ((j2:Int)<0))=false:=(decide_eq_false (by omega))
 refine sqp [.k 70 (vi 0),.e 71 (.bool (decide ((j2:Int)<0))) (.bool false) (congrArg Value.bool hd80)] ?_
 refine aa (wcf rfl (wp_exit (aq (aq (bj (aa (wq (sqr (sqp [.k 88 (po ay 3)] ?_)))))))))
 refine au 0 gR ?_
 refine sqk (.bool true) gR (fun cx=>⟨_,sr _,(aw (cx.ou 89))⟩) fun TS IZ=>?_
 refine sqp [.k 91 (.bool true)] ?_
 refine c9 91 [92,93,94] rfl rfl ?_
 refine sqp [.k 92 (po ay 4)] ?_
 refine au 0 IZ ?_
 refine sqk (.bool true) IZ (fun cx=>⟨_,sr _,(aw (cx.ou 93))⟩) fun OL pi=>?_
 refine sqp [.k 95 (.bool true),.k 2 (.bool true)] ?_
 refine aa (wp_ret ?_)
 refine bpr (.bool true) (ag Tryz.results16 rpt) ?_
 exact Ret.bool (Hm (by have h_:=zv;simp at h_;exact⟨by dsimp only;omega,by dsimp only;omega,by dsimp only;omega,by dsimp only;omega,fun y hy=>by obtain⟨i,hi,rfl⟩:=List.mem_iff_getElem.1 hy;exact ha i _ (by dsimp only at hi;omega) (List.getElem?_eq_getElem hi),by dsimp only;omega⟩)) pi.ext
theorem x1(k x t:Int)(A:Option Addr)(c:Nat)(l:List EdT)(note:ByteArray)(w:World)(hA:At w A (l.flatMap edC))(hl:l.length<=1000000)(hz:∀e∈l,e.2.2.size<=9223372036854775807)(hns:note.size<=9223372036854775807):
  Calls Tryz.prog 73 #[.agg #[.int .i64 k,.int .i64 x,.int .i64 t,sn,sn,.slice A l.length c,sn,.string note]] w (Ret (.string (ax ⟨k,x,t,l,note⟩)) w):=by
 go_enter Tryz.func73,Tryz.ntmps73
 have ak:=St.start w
 refine wq (sqr ?_)
 refine bY #[vi k,vi x,vi t,sn,sn,.slice A l.length c,sn,.string note] ak fun ay W1 aA=>?_
 refine sqp [.k 2 (.string ⟨#[]⟩)] ?_
 refine aa (wq (wq (sqr ?_)))
 refine bE 0 8 aA ?_
 refine sqk (.bool (bz ⟨k,x,t,l,note⟩)) aA (fun cx=>⟨_,mH k x t _ _ l note _ (hA.ext cx.upd.to_ext) hl hz hns,(aw (cx.ou 6))⟩) fun W4 bb=>?_
 refine sqp [.k 8 (.bool (!(bz ⟨k,x,t,l,note⟩)))] ?_
 refine aa ?_
 rcases Bool.eq_false_or_eq_true (bz ⟨k,x,t,l,note⟩) with dz|dz
 refine wp_cond_false (show Act.eval _ _= .bool false from(congrArg Value.bool (by rw[dz];rfl))) (wp_skip (aa (wq ?_)))
 have hrr:=dz
 have hro:=em hrr
 have hrm:l.length<=64:=hro.many
 have hrn:note.size<=60000:=hro.note
 have pI:∀z:Int,(ah z 1).size=1:=fun z=>aF z 1 (by omega)
 have og:∀z:Int,(ah z 2).size=2:=fun z=>aF z 2 (by omega)
 have htz:(aW ⟨#[0]⟩).size=3:=gL _
 refine bR [0,1,3,0,8,31,63,0,128,447,1023,0,2048,7103,15295,32767,0,65536,228287,490431,1048575,0,2097152,6291456,15694783,33554431,67108863] [[],[0],[],[],[0],[],[],[],[0],[],[],[],[0],[],[],[],[],[0],[],[],[],[],[0]] [.k 9 (vp ay),.c 10 (vi k),.c 11 (.string (ah k 1)),.k 12 (po ay 1),.c 13 (vi x),.c 14 (.string (ah x 1)),tS 15 (ah k 1) (ah x 1) (by simp only[ByteArray.size_append,pI,og,htz];omega),.k 16 (po ay 2),.c 17 (vi t),.c 18 (.string (ah t 2)),tS 19 ((ah k 1)++(ah x 1)) (ah t 2) (by simp only[ByteArray.size_append,pI,og,htz];omega),.k 20 (po ay 3),.c 21 (sn),.c 22 (.string ((⟨#[0]⟩:ByteArray))),.c 23 (.string (aW (⟨#[0]⟩:ByteArray))),tS 24 (((ah k 1)++(ah x 1))++(ah t 2)) (aW (⟨#[0]⟩:ByteArray)) (by simp only[ByteArray.size_append,pI,og,htz];omega),.k 25 (po ay 4),.c 26 (sn),.c 27 (.string ((⟨#[0]⟩:ByteArray))),.c 28 (.string (aW (⟨#[0]⟩:ByteArray))),tS 29 ((((ah k 1)++(ah x 1))++(ah t 2))++(aW (⟨#[0]⟩:ByteArray))) (aW (⟨#[0]⟩:ByteArray)) (by simp only[ByteArray.size_append,pI,og,htz];omega),.k 30 (po ay 5),.c 31 (.slice A l.length c),.k 32 (vi ((l.length:Int))),.c 33 (.string (ah (l.length:Int) 1)),tS 34 (((((ah k 1)++(ah x 1))++(ah t 2))++(aW (⟨#[0]⟩:ByteArray)))++(aW (⟨#[0]⟩:ByteArray))) (ah (l.length:Int) 1) (by simp only[ByteArray.size_append,pI,og,htz];omega),.k 3 (.string ((((((ah k 1)++(ah x 1))++(ah t 2))++(aW (⟨#[0]⟩:ByteArray)))++(aW (⟨#[0]⟩:ByteArray)))++(ah (l.length:Int) 1)))] [0] [1,2,4,5,8,9,12,13,14,17,18,19,22,24] [(3,26,1,4),(5,0,26,31)] bb ?_ fun W7 aY=>?_
 refine⟨?_,?_,?_,?_,?_,?_,?_,?_,?_,?_,?_,?_,?_,?_,trivial⟩
 exact xs4 rfl id fun cx=>ae rfl (by kernel_rfl) (cx.an 0) ((cx.bi 0 rfl).cell 0)
 exact xsc rfl id rfl rfl fun cx=>⟨_,eX k 1 _ (by omega),(aN (cx.an 1) (cx.co _))⟩
 exact xs4 rfl id fun cx=>ae rfl (by kernel_rfl) (cx.an 3) ((cx.bi 0 rfl).cell 1)
 exact xsc rfl id rfl rfl fun cx=>⟨_,eX x 1 _ (by omega),(aN (cx.an 4) (cx.co _))⟩
 exact xs4 rfl id fun cx=>ae rfl (by kernel_rfl) (cx.an 7) ((cx.bi 0 rfl).cell 2)
 exact xsc rfl id rfl rfl fun cx=>⟨_,eX t 2 _ (by omega),(aN (cx.an 8) (cx.co _))⟩
 exact xs4 rfl id fun cx=>ae rfl (by kernel_rfl) (cx.an 11) ((cx.bi 0 rfl).cell 3)
 exact xsc rfl id rfl rfl fun cx=>⟨_,tL _,(aw (cx.an 12))⟩
 exact xsc rfl id rfl rfl fun cx=>⟨_,kC (⟨#[0]⟩:ByteArray) _ (by decide),(aw (cx.an 13))⟩
 exact xs4 rfl id fun cx=>ae rfl (by kernel_rfl) (cx.an 16) ((cx.bi 0 rfl).cell 4)
 exact xsc rfl id rfl rfl fun cx=>⟨_,tL _,(aw (cx.an 17))⟩
 exact xsc rfl id rfl rfl fun cx=>⟨_,kC (⟨#[0]⟩:ByteArray) _ (by decide),(aw (cx.an 18))⟩
 exact xs4 rfl id fun cx=>ae rfl (by kernel_rfl) (cx.an 21) ((cx.bi 0 rfl).cell 5)
 exact xsc rfl id rfl rfl fun cx=>⟨_,eX (l.length:Int) 1 _ (by omega),(aN (cx.an 23) (cx.co _))⟩
 refine aa (wq (wq (sqr (sqp [.k 4 (vi 0)] ?_))))
 refine aa (wp_block ?_)
 refine aT (fun t_ mz az W=>∃j:Nat,∃sj:ByteArray,j<=l.length/\sj=cR (hdB ⟨k,x,t,l,note⟩) (l.take j)/\mz=l.length-j/\az=⟨(ovr (jv az) [(3,3,0,[.string sj,vi ((j:Int))]),(30,35,33,[])] t_).toArray,[]⟩/\St w [] [eB ay 27 #[vi k,vi x,vi t,sn,sn,.slice A l.length c,sn,.string note]] W) (l.length-0) ?_ ?_
 exact⟨0,(((((ah k 1)++(ah x 1))++(ah t 2))++(aW (⟨#[0]⟩:ByteArray)))++(aW (⟨#[0]⟩:ByteArray)))++(ah (l.length:Int) 1),Nat.zero_le _,NF _ _ _ _ _ _,rfl,(by kernel_rfl),aY.pk [0]⟩
 rintro n9 a9 W9 ⟨j,sj,hj,hsj,rfl,hj_,cz⟩
 refine ovz hj_ fun Qh=>?_
 refine wq (wq (sqr (sqp [.m 35 4,.k 36 (po ay 5)] ?_)))
 refine au 0 cz ?_
 refine sqp [.k 38 (vi ((l.length:Int))),.k 39 (.bool (decide ((j:Int)<(l.length:Int))))] ?_
 refine aa (wds (fun dE kJ=>?_) fun dE kJ=>?_)
 refine wp_skip (aa (wq (wp_block ?_)))
 obtain⟨ep,es,eb,hek⟩:=kP (l:=l) (k:=j) (by omega)
 have her:edR (ep,es,eb)=true:=hro.eds _ (List.mem_of_getElem? hek)
 have hez:eb.size<=400:=dv her
 obtain⟨hep_,hes_⟩:=kZ her
 have hes_: -1<=es/\es<=23:=hes_
 have hsz:=k7 (l:=l.take j) (fun e he=>dv (hro.eds e (List.mem_of_mem_take he))) (hdB ⟨k,x,t,l,note⟩)
 rw[<-hsj,iz,List.length_take] at hsz
 have htb:=gL eb
 refine bR [0,0,2,0,14,30,62,126,255,0,512,0,3584,7680,15872,32256,65278,131071,0,262144,0,1835008,3932160,8126464,16645886,33554431,67108863] [[],[],[0],[],[],[],[],[],[],[],[0],[],[],[],[],[],[],[],[],[0]] [.k 42 (.string sj),.k 43 (po ay 5),.c 44 (.slice A l.length c),.k 45 (vi ((j:Int))),.c 46 (.pointer (some ((ad A).add (j*3)))),.c 47 (.pointer (some ((ad A).add (j*3+0)))),.c 48 (vi ep),.c 49 (.string (ah ep 2)),tS 50 sj (ah ep 2) (by simp only[ByteArray.size_append,pI,og,htz];omega),.k 51 (po ay 5),.c 52 (.slice A l.length c),.k 53 (vi ((j:Int))),.c 54 (.pointer (some ((ad A).add (j*3)))),.c 55 (.pointer (some ((ad A).add (j*3+1)))),.c 56 (vi es),tI 57 (es+1) (by omega),.c 58 (.string (ah (es+1) 1)),tS 59 (sj++(ah ep 2)) (ah (es+1) 1) (by simp only[ByteArray.size_append,pI,og,htz];omega),.k 60 (po ay 5),.c 61 (.slice A l.length c),.k 62 (vi ((j:Int))),.c 63 (.pointer (some ((ad A).add (j*3)))),.c 64 (.pointer (some ((ad A).add (j*3+2)))),.c 65 (.string eb),.c 66 (.string (aW eb)),tS 67 ((sj++(ah ep 2))++(ah (es+1) 1)) (aW eb) (by simp only[ByteArray.size_append,pI,og,htz];omega),.k 3 (.string (((sj++(ah ep 2))++(ah (es+1) 1))++(aW eb)))] [0] [2,4,5,6,7,10,12,13,14,16,19,21,22,23,24] [(3,26,1,4),(38,0,26,64)] cz ?_ fun qE dt=>?_
 refine⟨?_,?_,?_,?_,?_,?_,?_,?_,?_,?_,?_,?_,?_,?_,?_,trivial⟩
 exact xs4 rfl id fun cx=>ae rfl (by kernel_rfl) (cx.an 1) ((cx.bi 0 rfl).cell 5)
 exact xs4 rfl id fun cx=>aG (e:=84) (m:=j) (sz:=3) rfl (by kernel_rfl) (by kernel_rfl) (cx.an 2) (cx.an 3) (by omega) (by omega) (hA.ext cx.upd.to_ext) (bp (sz:=3) bH (by decide) (by omega))
 exact xs4 rfl id fun cx=>bq rfl (by kernel_rfl) (cx.an 4)
 exact xs4 rfl id fun cx=>ae rfl (by kernel_rfl) (cx.an 5) (At.eltc (f:=edC) (k:=0) bH (hA.ext cx.upd.to_ext) hek rfl)
 exact xsc rfl id rfl rfl fun cx=>⟨_,eX ep 2 _ (by omega),(aN (cx.an 6) (cx.co _))⟩
 exact xs4 rfl id fun cx=>ae rfl (by kernel_rfl) (cx.an 9) ((cx.bi 0 rfl).cell 5)
 exact xs4 rfl id fun cx=>aG (e:=84) (m:=j) (sz:=3) rfl (by kernel_rfl) (by kernel_rfl) (cx.an 10) (cx.an 11) (by omega) (by omega) (hA.ext cx.upd.to_ext) (bp (sz:=3) bH (by decide) (by omega))
 exact xs4 rfl id fun cx=>bq rfl (by kernel_rfl) (cx.an 12)
 exact xs4 rfl id fun cx=>ae rfl (by kernel_rfl) (cx.an 13) (At.eltc (f:=edC) (k:=1) bH (hA.ext cx.upd.to_ext) hek rfl)
 exact xsc rfl id rfl rfl fun cx=>⟨_,eX (es+1) 1 _ (by omega),(aN (cx.an 15) (cx.co _))⟩
 exact xs4 rfl id fun cx=>ae rfl (by kernel_rfl) (cx.an 18) ((cx.bi 0 rfl).cell 5)
 exact xs4 rfl id fun cx=>aG (e:=84) (m:=j) (sz:=3) rfl (by kernel_rfl) (by kernel_rfl) (cx.an 19) (cx.an 20) (by omega) (by omega) (hA.ext cx.upd.to_ext) (bp (sz:=3) bH (by decide) (by omega))
 exact xs4 rfl id fun cx=>bq rfl (by kernel_rfl) (cx.an 21)
 exact xs4 rfl id fun cx=>ae rfl (by kernel_rfl) (cx.an 22) (At.eltc (f:=edC) (k:=2) bH (hA.ext cx.upd.to_ext) hek rfl)
 exact xsc rfl id rfl rfl fun cx=>⟨_,kC eb _ (by omega),(aw (cx.an 23))⟩
 refine av (aa (sqr (sqp [.m 40 4,sI 41 ((j:Int)+1) (by omega),.m 4 41] ?_)))
 refine aa ?_
 refine⟨l.length-((j+1)),by omega,?_⟩
 exact⟨(j+1),(((sj++(ah ep 2))++(ah (es+1) 1))++(aW eb)),by omega,by rw[wu hek,<-hsj];exact(Ny _ _ _ _).symm,rfl,(by kernel_rfl),dt.pk [0]⟩
 refine wp_exit (aq (aq (bj (aa (wq ?_)))))
 obtain rfl:j=l.length:=by omega
 rw[List.take_length] at hsj
 have hsz:=k7 (l:=l) (fun e he=>dv (hro.eds e he)) (hdB ⟨k,x,t,l,note⟩)
 rw[<-hsj,iz] at hsz
 have htn:=gL note
 refine sqr (sqp [.m 68 3,.k 69 (po ay 6)] ?_)
 refine au 0 cz ?_
 refine sqp [.k 71 (vi 0)] ?_
 refine sqk (.string (ah 0 1)) cz (fun cx=>⟨_,eX 0 1 _ (by omega),(aN (cx.ou 71) (cx.co _))⟩) fun za e8=>?_
 refine sqp [sS 73 sj (ah 0 1) (by simp only[ByteArray.size_append,pI,og,htz];omega),.m 3 73] ?_
 refine aa (wq (wq (sqr (sqp [.k 5 (vi 0)] ?_))))
 refine aa (wp_block ?_)
 refine aT (fun t_ mz az W=>∃j2:Nat,j2<=0/\mz=0-j2/\az=⟨(ovr (jv az) [(5,5,0,[vi ((j2:Int))]),(68,74,15,[])] t_).toArray,[]⟩/\St w [] [eB ay 27 #[vi k,vi x,vi t,sn,sn,.slice A l.length c,sn,.string note]] W) (0-0) ?_ ?_
 exact⟨0,Nat.zero_le _,rfl,(by kernel_rfl),e8.pk [0]⟩
 rintro TT a28 zi ⟨j2,hj2,rfl,hj_,dP⟩
 refine ovz hj_ fun R7=>?_
 refine wq (wq (sqr (sqp [.m 74 5,.k 75 (po ay 6)] ?_)))
 refine au 0 dP ?_
 have hd34:(decide ((j2:Int)<0))=false:=(decide_eq_false (by omega))
 refine sqp [.k 77 (vi 0),.e 78 (.bool (decide ((j2:Int)<0))) (.bool false) (congrArg Value.bool hd34)] ?_
 refine aa (wcf rfl (wp_exit (aq (aq (bj (aa (wq (sqr (sqp [.m 89 3,.k 90 (po ay 7)] ?_)))))))))
 refine au 0 dP ?_
 refine sqk (.string (aW note)) dP (fun cx=>⟨_,kC note _ (by omega),(aw (cx.ou 91))⟩) fun Fg iu=>?_
 refine sqp [sS 93 (sj++(ah 0 1)) (aW note) (by simp only[ByteArray.size_append,pI,og,htz];omega),.m 2 93] ?_
 refine aa (wp_ret ?_)
 refine bpr (.string ((sj++(ah 0 1))++(aW note))) (ag Tryz.results73 rpt) ?_
 exact Ret.of (congrArg Value.string (by rw[ax,if_pos hrr,<-hsj];exact(Nr _ _ _))) iu.ext
 refine wp_cond_true (show Act.eval _ _= .bool true from(congrArg Value.bool (by rw[dz];rfl))) (wq (sqr (sqp [.k 2 (.string ⟨#[]⟩)] ?_)))
 refine aa (wp_ret (aj ?_))
 refine bpr (.string ⟨#[]⟩) (ag Tryz.results73 rpt) ?_
 exact Ret.of (by rw[ax,dz];rfl) bb.ext
theorem jK(k x t:Int)(A:Option Addr)(c:Nat)(l:List EdT)(note:ByteArray)(w:World)(hA:At w A (l.flatMap edC))(hl:l.length<=1000000)(hz:∀e∈l,e.2.2.size<=9223372036854775807)(hns:note.size<=9223372036854775807):
  Calls Tryz.prog 29 #[.agg #[.int .i64 k,.int .i64 x,.int .i64 t,sn,sn,.slice A l.length c,sn,.string note]] w (Ret (.string (aB ⟨k,x,t,l,note⟩)) w):=by
 go_enter Tryz.func29,Tryz.ntmps29
 have ak:=St.start w
 refine wq (sqr ?_)
 refine bY #[vi k,vi x,vi t,sn,sn,.slice A l.length c,sn,.string note] ak fun ay W1 aA=>?_
 refine sqp [.k 2 (.string ⟨#[]⟩)] ?_
 refine aa (wq (wq (sqr ?_)))
 refine bE 0 8 aA ?_
 refine sqk (.bool (bz ⟨k,x,t,l,note⟩)) aA (fun cx=>⟨_,mH k x t _ _ l note _ (hA.ext cx.upd.to_ext) hl hz hns,(aw (cx.ou 4))⟩) fun W4 bb=>?_
 refine sqp [.k 6 (.bool (!(bz ⟨k,x,t,l,note⟩)))] ?_
 refine aa ?_
 rcases Bool.eq_false_or_eq_true (bz ⟨k,x,t,l,note⟩) with dz|dz
 refine wp_cond_false (show Act.eval _ _= .bool false from(congrArg Value.bool (by rw[dz];rfl))) (wp_skip (aa (wq (sqr ?_))))
 refine bE 0 8 bb ?_
 refine sqk (.string (ax ⟨k,x,t,l,note⟩)) bb (fun cx=>⟨_,x1 k x t _ _ l note _ (hA.ext cx.upd.to_ext) hl hz hns,(aw (cx.ou 7))⟩) fun W8 dy=>?_
 refine sqp [.m 3 8] ?_
 refine aa (wq ?_)
 have hbz:=ji ⟨k,x,t,l,note⟩
 have hsl:=ks (ax ⟨k,x,t,l,note⟩)
 have y8:∀z:Int,(ah z 4).size=4:=fun z=>aF z 4 (by omega)
 refine sqr (sqp [.m 9 3,.k 10 (vi (((ax ⟨k,x,t,l,note⟩).size:Int)))] ?_)
 refine sqk (.string (ah ((ax ⟨k,x,t,l,note⟩).size:Int) 4)) dy (fun cx=>⟨_,eX ((ax ⟨k,x,t,l,note⟩).size:Int) 4 _ (by omega),(aN (cx.ou 10) (cx.co _))⟩) fun Bv dh=>?_
 refine sqp [.m 12 3] ?_
 refine sqk (.int .u32 ((bf (ax ⟨k,x,t,l,note⟩):Int))) dh (fun cx=>⟨_,yL (ax ⟨k,x,t,l,note⟩) _ (by omega),(aw (cx.ou 12))⟩) fun ze cy=>?_
 refine sqp [sW 14 .i64 (bf (ax ⟨k,x,t,l,note⟩):Int) (bf (ax ⟨k,x,t,l,note⟩):Int) (IntWalk.i64_in _ (by omega))] ?_
 refine sqk (.string (ah (bf (ax ⟨k,x,t,l,note⟩):Int) 4)) cy (fun cx=>⟨_,eX (bf (ax ⟨k,x,t,l,note⟩):Int) 4 _ (by omega),(aN (cx.ou 14) (cx.co _))⟩) fun qE dt=>?_
 refine sqp [sS 16 (ah ((ax ⟨k,x,t,l,note⟩).size:Int) 4) (ah (bf (ax ⟨k,x,t,l,note⟩):Int) 4) (by simp only[ByteArray.size_append,y8];omega),.m 17 3,sS 18 ((ah ((ax ⟨k,x,t,l,note⟩).size:Int) 4)++(ah (bf (ax ⟨k,x,t,l,note⟩):Int) 4)) (ax ⟨k,x,t,l,note⟩) (by simp only[ByteArray.size_append,y8];omega),.m 2 18] ?_
 refine aa (wp_ret ?_)
 refine bpr (.string (((ah ((ax ⟨k,x,t,l,note⟩).size:Int) 4)++(ah (bf (ax ⟨k,x,t,l,note⟩):Int) 4))++(ax ⟨k,x,t,l,note⟩))) (ag Tryz.results29 rpt) ?_
 exact Ret.of (congrArg Value.string (by rw[aB,if_pos dz];exact KZ _ _ _)) dt.ext
 refine wp_cond_true (show Act.eval _ _= .bool true from(congrArg Value.bool (by rw[dz];rfl))) (wq (sqr (sqp [.k 2 (.string ⟨#[]⟩)] ?_)))
 refine aa (wp_ret (aj ?_))
 refine bpr (.string ⟨#[]⟩) (ag Tryz.results29 rpt) ?_
 exact Ret.of (by rw[aB,dz];rfl) bb.ext
end
section
open Go.RowKit
theorem EI{L:List RecM}{n:Nat}(h:L.length=n+1):(cJ L L.length)[n]? =some (szF L:Int):=by
 rw[cJ,List.getElem?_map,List.getElem?_range (by omega)]
 rw[Option.map_some,<-h,List.take_length]
theorem yS{S S2:StM}{lsn er:Int}{r:RecM}(h:RdR S lsn r S2 er)(h0:er=0):RdR S lsn r S2 0:=h0 ▸ h
theorem DC(db:Nat)(D:DkM)(bufs:Int)(L:List RecM)(tl:ByteArray)(c:Nat)(fp:List Nat)(w:World)(hB:(eDk db D fp).holds w)(hlt:∀k∈fp,k<w.heap.size)(hlog:D.log=dj L++tl)(hL:∀r∈L,bz r=true)(hta:tR D.log (szF L))(hz6:D.log.size<=1000000)(hfz:D.fl<=D.log.size)(hpg:D.pgs.length<=400)(hws:∀x∈D.pgs,x.ws.length<=c)(hc:c+200*L.length<=900000)(h8:∀r∈L,r.kind=8->r.note.size=512):
  Calls Tryz.prog 18 #[po db 0,.int .i64 bufs] w (fH db D bufs L fp w):=by
 have st1:St w fp [eDk db D fp] w:=St.lend hB (dS _ _ _) hlt
 go_enter Tryz.func18,Tryz.ntmps18
 have ak:=st1
 refine wq (sqr (sqp [.k 4 (.pointer none),.k 5 (vi 0)] ?_))
 refine aa (wq (wq (sqr (sqp [.m 13 1,.k 14 (.bool (decide (bufs<1))),.m 15 14] ?_))))
 refine sqw 15 [16,17] rfl (fun _=>sqp [.m 16 1,.k 17 (.bool (decide (64<bufs)))] sqe) ?_
 refine sqp [sPo 18 (decide (bufs<1)) (decide (64<bufs))] ?_
 refine aa (wbs (fun pJ=>?_) fun pJ=>?_)
 have qK:=pJ
 simp only[zB] at qK
 refine wq (sqr (sqp [.k 4 (.pointer none),.k 5 (vi 30)] ?_))
 refine aa (wp_ret (aj ?_))
 refine bpr (.tuple #[.pointer none,vi 30]) (aO Tryz.results18 rpt rpt) ?_
 exact fH.dk (.bufs (by have h_:=pJ;simp at h_;omega)) (ak.pick [0] (by decide) rfl)
 have qK:=pJ
 simp only[zB] at qK
 obtain⟨Rz,RB⟩:=qK
 refine wp_skip (aa (wq (wq ?_)))
 obtain⟨onv,hon⟩:∃z,(!D.off)=z:=⟨_,rfl⟩
 have hbb:1<=bufs/\bufs<=64:=by have h_:=pJ;simp at h_;omega
 refine sqr (sqp [.m 19 0] ?_)
 refine sqk (.bool onv) ak (fun cx=>⟨_,rz hon (l8 db D _ (fa (CtxV.holdF cx (cx.init 0 _ rfl) rfl))),(aw (cx.ou 19))⟩) fun IK i7=>?_
 refine sqp [.k 21 (.bool (!(onv)))] ?_
 refine aa ?_
 rcases Bool.eq_false_or_eq_true (onv) with dE|dE
 refine wp_cond_false (show Act.eval _ _= .bool false from(congrArg Value.bool (by rw[dE];rfl))) (wp_skip (aa (wq (sqr (sqp [.m 22 0,.m 23 1] ?_)))))
 refine d9 (fun x_=>pbx x_) (fun iJ=> .map (some iJ)) (fun iJ=>eMx kcI ptX Tryz.prog 3 iJ 0 (fun _=>none)) i7 (by
   refine svA fun g b W X cx=>?_
   exact k9 rfl rfl rfl rfl (fun _ _ _ _ _=> .intro)) fun iJ Mc nq=>?_
 refine d9 (fun x_=>pbx x_) (fun iK=> .map (some iK)) (fun iK=>eMx kcI ecB Tryz.prog 3 iK 0 (fun _=>none)) nq (by
   refine svA fun g b W X cx=>?_
   exact k9 rfl rfl rfl rfl (fun _ _ _ _ _=> .intro)) fun iK r9 de=>?_
 refine d9 (fun x_=>pbx x_) (fun iL=> .map (some iL)) (fun iL=>eMx kcI ecB Tryz.prog 3 iL 0 (fun _=>none)) de (by
   refine svA fun g b W X cx=>?_
   exact k9 rfl rfl rfl rfl (fun _ _ _ _ _=> .intro)) fun iL Mh kb=>?_
 refine sqp [.k 27 (.agg #[vp db,vi bufs,.map (some iJ),vi 0,sn,sn,.map (some iK),.map (some iL),vi 0])] ?_
 refine bY #[vp db,vi bufs,.map (some iJ),vi 0,sn,sn,.map (some iK),.map (some iL),vi 0] kb fun bx xc dC=>?_
 refine sqp [.m 6 28] ?_
 refine aa (wq (aD [0,0,0,4,12,28,60,60,125,381,893,2047,4095,8191] [[],[],[],[0],[],[],[],[],[],[],[4],[],[],[6]] [[],[],[],[],[5],[],[],[],[],[],[6],[],[],[7]] [[],[],[],[],[],[],[],[],[],[],[4],[],[],[6]] [.k 30 (vp bx),.k 31 (vp bx),.k 32 (vp db),.c 33 (.string D.log),.a 34,.a 29,.a 35,.a 36,.k 37 (vp bx),.k 38 (po bx 4),.n,.k 39 (vp bx),.k 40 (po bx 5),.n] (fun ix d b X=>match ix with|0|1|2|3=>True|4=>d 34= .tuple #[.slice (sA (tg (b 34) 0)) L.length (sC (tg (b 34) 0)),.slice (sA (tg (b 34) 1)) L.length (sC (tg (b 34) 1))]/\X 5=eSc L (sA (tg (b 34) 0)) (sC (tg (b 34) 0)) (sA (tg (b 34) 1)) (sC (tg (b 34) 1)) ((X 5).fp)|5=>d 29= .tuple #[.slice (sA (tg (b 34) 0)) L.length (sC (tg (b 34) 0)),.slice (sA (tg (b 34) 1)) L.length (sC (tg (b 34) 1))]|6=>d 35= .slice (sA (tg (b 34) 0)) L.length (sC (tg (b 34) 0))|7=>d 36= .slice (sA (tg (b 34) 1)) L.length (sC (tg (b 34) 1))|8|9=>True|10=>X 6=eB bx 109 #[vp db,vi bufs,.map (some iJ),vi 0,.slice (sA (tg (b 34) 0)) L.length (sC (tg (b 34) 0)),sn,.map (some iK),.map (some iL),vi 0]|11|12=>True|13=>X 7=eB bx 109 #[vp db,vi bufs,.map (some iJ),vi 0,.slice (sA (tg (b 34) 0)) L.length (sC (tg (b 34) 0)),.slice (sA (tg (b 34) 1)) L.length (sC (tg (b 34) 1)),.map (some iK),.map (some iL),vi 0]|_=>True) [0,1,2,3,5,7] [3,4,5,6,7,10,13] [(29,5,1,30),(0,0,5,5),(0,6,7,6)] dC ?_ ?_ ?_))
 exact fun ix _ _ _ _ _ _ hs hb hx h=>match ix,h with
 |4,h=>by dsimp only;rw[<-hs 34 rfl,<-hb 34 rfl,<-hx 5 rfl];exact h
 |5,h=>by dsimp only;rw[<-hs 29 rfl,<-hb 34 rfl];exact h
 |6,h=>by dsimp only;rw[<-hs 35 rfl,<-hb 34 rfl];exact h
 |7,h=>by dsimp only;rw[<-hs 36 rfl,<-hb 34 rfl];exact h
 |10,h=>by dsimp only;rw[<-hb 34 rfl,<-hx 6 rfl];exact h
 |13,h=>by dsimp only;rw[<-hb 34 rfl,<-hx 7 rfl];exact h
 |0,_|1,_|2,_|3,_|8,_|9,_|11,_|12,_|_+14,_=>trivial
 refine⟨?_,?_,?_,?_,?_,?_,?_,trivial⟩
 exact xsc rfl id rfl rfl fun cx=>⟨_,jz db D _ (fa (CtxV.holdF cx (cx.init 0 _ rfl) rfl)),(aw (cx.an 2))⟩
 refine svA fun g b W X cx=>?_
 refine am.call (al (args:=#[.string D.log]) rfl cx.sees rfl (by kernel_rfl) (aw (cx.an 3))) ?_
 refine(FW (DL D.log tl L _ hlog hL hta hz6)).mono ?_
 rintro e W1 ⟨LA4,lc4,EA4,ec4,fp4,rfl,aM⟩
 refine⟨_,rfl,vQ [eSc L LA4 lc4 EA4 ec4 fp4] rfl rfl aM (fun d i X' hs hb hv hN=>?_)⟩
 have aJ:=(hv 34 rfl).1;have aQ:=(hv 34 rfl).2
 exact⟨aJ.trans (by rw[aQ];rfl),(by rw[aQ];exact HQ ((List.cons.inj hN).1))⟩
 exact sv rfl rfl rfl rfl rfl _ (fun _ _ _ h=>h) (fun b i h=>by rw[h 34 (by decide)]) fun g b W X cx=>cK rfl (dTn (cx.an 4)).1
 exact sv rfl rfl rfl rfl rfl _ (fun _ _ _ h=>h) (fun b i h=>by rw[h 34 (by decide)]) fun g b W X cx=>bJ rfl (dTn (cx.an 5)) rfl
 exact sv rfl rfl rfl rfl rfl _ (fun _ _ _ h=>h) (fun b i h=>by rw[h 34 (by decide)]) fun g b W X cx=>bJ rfl (dTn (cx.an 5)) rfl
 refine svA fun g b W X cx=>?_
 exact bu (n:=1) rfl (cx.an 9) (dTn (cx.an 6)) (by kernel_rfl) (by kernel_rfl) (by kernel_rfl) cx (cx.init 4 _ rfl) rfl (nle rfl) (by kernel_rfl) rfl rfl rfl (fun d i X' hs hb hx=>by rw[hb 34];exact hx)
 refine svA fun g b W X cx=>?_
 exact bu (n:=1) rfl (cx.an 12) (dTn (cx.an 7)) (by kernel_rfl) (by kernel_rfl) (by kernel_rfl) cx (dTn (cx.an 10)) rfl (nle rfl) (by kernel_rfl) rfl rfl rfl (fun d i X' hs hb hx=>by rw[hb 34];exact hx)
 intro d b X za hD e8 fr aC
 obtain⟨LA34_24,px⟩:∃z,sA (tg (b 34) 0)=z:=⟨_,rfl⟩
 obtain⟨lc34_24,py⟩:∃z,sC (tg (b 34) 0)=z:=⟨_,rfl⟩
 obtain⟨EA34_24,pz⟩:∃z,sA (tg (b 34) 1)=z:=⟨_,rfl⟩
 obtain⟨ec34_24,pA⟩:∃z,sC (tg (b 34) 1)=z:=⟨_,rfl⟩
 have zx:X 5= _:=(dTn (hD 4 lq)).2
 obtain⟨RD,zy⟩:∃z,(X 5).fp=z:=⟨_,rfl⟩
 rw[zy] at zx
 clear zy
 simp only[zx,exq 7 ((dTn (hD 13 lq))),px,py,pz,pA] at e8
 simp only[ed 34 ((dTn (hD 4 lq)).1),ed 29 ((dTn (hD 5 lq))),ed 35 ((dTn (hD 6 lq))),ed 36 ((dTn (hD 7 lq))),px,py,pz,pA] at aC
 clear hD zx px py pz pA;subst aC;clear d b X
 refine aa (wq (wq ?_))
 obtain⟨rs,hrs,ht25_⟩:=e8.u4.unscf
 have hrl:rs.length=L.length:=by rw[<-hrs,List.length_map]
 refine sqr (sqp [.m 41 6,.k 42 (vp bx),.k 43 (po bx 4)] ?_)
 refine au 7 ht25_ ?_
 refine sqp [.k 45 (vi ((L.length:Int))),.k 46 (vi 0)] ?_
 refine aa (wp_block ?_)
 refine aT (fun t_ mz az W=>∃j:Nat,j<=L.length/\mz=L.length-j/\az=⟨(ovr (jv az) [(7,7,2,[]),(37,46,0,[vi ((j:Int))]),(0,47,13,[])] t_).toArray,[]⟩/\St w fp [eO 27 8 (.slice LA34_24 L.length lc34_24) L.length (rs.flatMap rcC),eO 3 1 (.slice EA34_24 L.length ec34_24) L.length ((cJ L L.length).map (Value.int .i64)),eRc rs,eDk db D fp,eMx kcI ptX Tryz.prog 3 iJ 0 (fun _=>none),eMx kcI ecB Tryz.prog 3 iK 0 (fun _=>none),eMx kcI ecB Tryz.prog 3 iL 0 (fun _=>none),eB bx 109 #[vp db,vi bufs,.map (some iJ),vi 0,.slice LA34_24 L.length lc34_24,.slice EA34_24 L.length ec34_24,.map (some iK),.map (some iL),vi ((bc (L.take j):Int))]] W) (L.length-0) ?_ ?_
 exact⟨0,Nat.zero_le _,rfl,(by kernel_rfl),ht25_.pk [0,1,2,3,4,5,6,7]⟩
 rintro OH a32 zb ⟨j,hj,rfl,hj_,c6⟩
 refine ovz hj_ fun HY=>?_
 refine wq (sqr (sqp [.k 47 (.bool (decide ((j:Int)<(L.length:Int))))] ?_))
 refine aa (wq (wds (fun ku pe=>?_) fun ku pe=>?_))
 refine wp_skip (aa (wq (wp_block (wq ?_))))
 obtain⟨rt,hrt⟩:∃rt,rs[j]? =some rt:=⟨_,List.getElem?_eq_getElem (by omega)⟩
 have hlj:L[j]? =some rt.r:=by rw[<-hrs,List.getElem?_map,hrt];rfl
 refine sqr (sqp [.m 48 46] ?_)
 refine sql (.pointer (some ((ad LA34_24).add (j*8)))) c6 (fun cx=>aG (e:=27) (m:=j) (sz:=8) rfl (by kernel_rfl) (by kernel_rfl) (cx.ou 44) (cx.ou 46) (by omega) (by omega) (At.of_ownN (cx.ri 0 rfl)) (bp (sz:=8) cF (by decide) (by omega))) ?_
 refine sql (.agg #[vi rt.r.kind,vi rt.r.xid,vi rt.r.tbl,sn,sn,.slice rt.A rt.r.eds.length rt.c,sn,.string rt.r.note]) c6 (fun cx=>bQ (f:=rcC) (m:=j) (sz:=8) (off:=0) (n:=8) rfl (by kernel_rfl) (by kernel_rfl) (cx.ou 49) rfl cF (At.of_ownN (cx.ri 0 rfl)) hrt (fun k hk=>match k,hk with|0,_=>rfl|1,_=>rfl|2,_=>rfl|3,_=>rfl|4,_=>rfl|5,_=>rfl|6,_=>rfl|7,_=>rfl|k+8,hk=>absurd hk (by omega))) ?_
 refine b9 #[vi 0,vi 0,vi 0,sn,sn,sn,sn,.string ByteArray.empty] c6 fun N0 Fg iu=>?_
 refine sqp [.m 7 48] ?_
 refine aX (n:=8) 8 #[vi rt.r.kind,vi rt.r.xid,vi rt.r.tbl,sn,sn,.slice rt.A rt.r.eds.length rt.c,sn,.string rt.r.note] iu fun xa d6=>?_
 refine aa (wq (sqr (sqp [.k 51 (vp N0)] ?_)))
 refine au 8 d6 ?_
 refine sqp [.k 53 (.bool (rt.r.kind==9))] ?_
 refine aa (wbs (fun tp=>?_) fun tp=>?_)
 have CT:=beq_iff_eq.1 tp
 refine sqr (sqp [.m 54 6,.m 55 7,sI 56 ((j:Int)+1) (by omega),.k 57 (vp bx),.k 58 (po bx 8)] ?_)
 refine aX (n:=1) 7 #[vp db,vi bufs,.map (some iJ),vi 0,.slice LA34_24 L.length lc34_24,.slice EA34_24 L.length ec34_24,.map (some iK),.map (some iL),vi ((j:Int)+1)] d6 fun L8 lV=>?_
 refine av (aa (sqr (sqp [sI 59 ((j:Int)+1) (by omega),.m 46 59] ?_)))
 refine aa ?_
 have hft:bc (L.take (j+1))=j+1:=by rw[ui hlj,if_pos (by simpa using tp)]
 rw[show ((j:Int)+1)=((bc (L.take (j+1)):Nat):Int) by rw[hft];omega] at lV
 refine⟨L.length-((j+1)),by omega,?_⟩
 exact⟨(j+1),by omega,rfl,(by kernel_rfl),lV.pk [0,1,2,3,4,5,6,7]⟩
 have CT:=beq_eq_false_iff_ne.1 tp
 refine wp_skip (av (aa (sqr (sqp [sI 59 ((j:Int)+1) (by omega),.m 46 59] ?_))))
 refine aa ?_
 have hft:bc (L.take (j+1))=bc (L.take j):=by rw[ui hlj,if_neg (by simpa using tp)]
 rw[<-hft] at d6
 refine⟨L.length-((j+1)),by omega,?_⟩
 exact⟨(j+1),by omega,rfl,(by kernel_rfl),d6.pk [0,1,2,3,4,5,6,7]⟩
 refine wp_exit (aq (aq (bj (aa (wq (wq ?_))))))
 obtain rfl:j=L.length:=by omega
 rw[List.take_length] at c6
 refine sqr (sqp [.m 60 6,.k 61 (vp bx),.k 62 (po bx 8)] ?_)
 refine au 7 c6 ?_
 refine sqp [.k 64 (.bool ((bc L:Int)==0))] ?_
 refine aa (wbs (fun mS=>?_) fun mS=>?_)
 have CR:=beq_iff_eq.1 mS
 refine wq (sqr (sqp [.k 4 (.pointer none),.k 5 (vi 11)] ?_))
 refine aa (wp_ret (aj ?_))
 refine bpr (.tuple #[.pointer none,vi 11]) (aO Tryz.results18 rpt rpt) ?_
 exact fH.dk (.form hbb (by have h_:=hon.trans dE;simpa using h_) (by have h_:=mS;simp at h_;omega)) (c6.pick [3] (by decide) rfl)
 have CR:=beq_eq_false_iff_ne.1 mS
 refine wp_skip (aa (wq (wq ?_)))
 have hf0:bc L≠0:=by have h_:=mS;simp at h_;omega
 have hfl:=oO L
 obtain⟨nl,hnl⟩:∃n,L.length=n+1:=⟨L.length-1,by omega⟩
 refine bR [0,1,3,7,0,16,48,112,240,496,1023,2047,4095] [[],[],[],[7],[],[],[],[7],[],[],[1],[1]] [.k 65 (vp bx),.k 66 (vp bx),.k 67 (po bx 5),.c 68 (.slice EA34_24 L.length ec34_24),.k 69 (vp bx),.k 70 (vp bx),.k 71 (po bx 5),.c 72 (.slice EA34_24 L.length ec34_24),.k 73 (vi ((L.length:Int))),tJ 74 ((L.length:Int)-1) (nl:Int) (by omega) (by omega),.c 75 (.pointer (some ((ad EA34_24).add nl))),.c 76 (vi ((szF L:Int))),.k 9 (vi ((szF L:Int)))] [0,1,2,3,4,5,6,7] [3,7,10,11] [(9,12,1,10),(55,0,12,67)] c6 ?_ fun OJ rF=>?_
 refine⟨?_,?_,?_,?_,trivial⟩
 exact xs4 rfl id fun cx=>ae rfl (by kernel_rfl) (cx.an 2) ((cx.bi 7 rfl).cell 5)
 exact xs4 rfl id fun cx=>ae rfl (by kernel_rfl) (cx.an 6) ((cx.bi 7 rfl).cell 5)
 exact xs4 rfl id fun cx=>bK (e:=3) (m:=nl) rfl (by kernel_rfl) (by kernel_rfl) (cx.an 3) (cx.an 9) (by omega) (by omega) (At.of_own (cx.ri 1 rfl)) (by rw[List.length_map,ml]<;>omega)
 exact xs4 rfl id fun cx=>ae rfl (by kernel_rfl) (cx.an 10) (At.cellAd (At.of_own (cx.ri 1 rfl)) ((List.getElem?_map ..).trans (by rw[EI hnl];rfl)))
 refine aa (wq (sqr (sqp [.m 77 9,.m 78 0] ?_)))
 refine sqk (.string D.log) rF (fun cx=>⟨_,jz db D _ (fa (CtxV.holdF cx (cx.init 3 _ rfl) rfl)),(aw (cx.ou 78))⟩) fun Fe gx=>?_
 refine sqp [.k 80 (vi ((D.log.size:Int))),.k 81 (.bool (decide ((szF L:Int)<(D.log.size:Int))))] ?_
 refine aa (wds (fun nP N1=>?_) fun nP N1=>?_)
 refine wq (sqr (sqp [.m 82 0,.m 83 9] ?_))
 refine bG (fun X_=>X_.fp) (vi ((opD D (ctE D (szF L)) (ctD (szF L))).2)) (fun I0=>eDk db ((opD D (ctE D (szF L)) (ctD (szF L))).1) I0) 3 gx (by
   refine svA fun g b W X cx=>?_
   refine am.call (al (args:=#[vp db,vi ((szF L:Int))]) rfl cx.sees rfl (by kernel_rfl) (aN (cx.ou 82) (cx.ou 83))) ?_
   refine(F3 db D (szF L:Int) _ _ (CtxV.holdF cx (cx.init 3 _ rfl) rfl) (CtxV.ltF cx (cx.init 3 _ rfl) rfl) (by omega)).mono ?_
   rintro e W1 ⟨rfl,fp4,aM⟩
   refine⟨_,rfl,aK (E:=eDk db D fp) [eDk db (opD D (ctE D (szF L)) (ctD (szF L))).1 fp4] (cx.init 3 _ rfl) rfl rfl aM (fun d i X' hs hb hv hN=>?_)⟩
   have aJ:=(hv 84 rfl).1;have aQ:=(hv 84 rfl).2
   exact⟨aJ.trans rfl,cE ((List.cons.inj hN).1)⟩) fun I0 IP gR=>?_
 refine sqp [.m 10 84] ?_
 refine aa (wq (sqr (sqp [.m 85 10,.k 86 (.bool (((opD D (ctE D (szF L)) (ctD (szF L))).2) != 0))] ?_)))
 refine aa (wbs (fun zz=>?_) fun zz=>?_)
 have N2:=bne_iff_ne.1 zz
 refine wq (sqr (sqp [.m 87 10,.k 4 (.pointer none),.m 5 87] ?_))
 refine aa (wp_ret (aj ?_))
 refine bpr (.tuple #[.pointer none,vi ((opD D (ctE D (szF L)) (ctD (szF L))).2)]) (aO Tryz.results18 rpt rpt) ?_
 have hop:fY D L=opD D (ctE D (szF L)) (ctD (szF L)):=if_pos (by have h_:=of_decide_eq_true nP;omega)
 exact fH.dk (by have h_:=OpnR.cut (L:=L) hbb (by have h_:=hon.trans dE;simpa using h_) hf0 (by rw[hop];simpa using zz);rw[hop] at h_;exact h_) (gR.pick [3] (by decide) rfl)
 have N2:=bne_eq_false_iff_eq.1 zz
 refine wp_skip (aa (wq (wq ?_)))
 have hop:fY D L=opD D (ctE D (szF L)) (ctD (szF L)):=if_pos (by have h_:=of_decide_eq_true nP;omega)
 have hc0:(fY D L).2=0:=by rw[hop];simpa using zz
 obtain⟨D1,hD1⟩:∃z,(fY D L).1=z:=⟨_,rfl⟩
 rw[<-hop,hD1] at gR
 have hdk:=AQ hlog hfz hc0
 rw[hD1] at hdk
 have hok0:SOk (iw D1 bufs rs (bc L)) c:=SOk.opn hbb (by rw[hdk.2.1];exact hpg) (by rw[hdk.2.1];exact hws) (by rw[hrs];exact hL) (by rw[hrs];exact hdk.1) (by rw[hdk.1,cw];have h_:=congrArg ByteArray.size hlog;rw[ByteArray.size_append,cw] at h_;omega) (by rw[hdk.2.2.1,hdk.1,cw];omega)
 have hn82_:=(gR.nM dH).nA fo
 refine sqr (sqp [.m 88 6,.k 89 (vp bx),.k 90 (po bx 8)] ?_)
 refine au 9 hn82_ ?_
 refine sqp [.m 11 91] ?_
 refine aa (wp_block ?_)
 obtain⟨fp88_,hk88_⟩:=St.stf (S:=iw D1 bufs rs (bc L)) (by have h_:=hn82_.u8.u8.u6.u6.u6.u6.u6.u8.u9;rw[stL,stC,StM.L,show (iw D1 bufs rs (bc L)).recs.map RcT.r=L from hrs,show (iw D1 bufs rs (bc L)).recs.length=L.length from hrl];exact h_) (fun t ht=>by cases ht) (fun t ht=>ht)
 refine aT (fun t_ mz az W=>∃j:Nat,∃Sj:StM,∃fpj:List Nat,j<=L.length/\(∀S2 er,RdL j Sj (L.drop j) S2 er->RdL (bc L) (iw D1 bufs rs (bc L)) (L.drop (bc L)) S2 er)/\SOk Sj (c+200*j)/\Sj.recs=rs/\Sj.rr=rs/\mz=L.length-j/\az=⟨(ovr (jv az) [(4,4,2,[]),(5,11,0,[vi ((j:Int))]),(0,12,1,[]),(79,92,23,[])] t_).toArray,[]⟩/\St w fp [eSt bx db Sj fpj] W) (L.length-((bc L))) ?_ ?_
 exact⟨(bc L),(iw D1 bufs rs (bc L)),fp88_,hfl,fun S2 er h=>h,hok0.mono (by omega),rfl,rfl,rfl,(by kernel_rfl),hk88_.pk [0]⟩
 rintro TU a89 Mi ⟨j,Sj,fpj,hj,hcont,hokj,hrj,hrrj,rfl,hj_,lY⟩
 refine ovz hj_ fun R8=>?_
 refine wq (wq ?_)
 obtain⟨mb90_,RA90_,rc90_,EA90_,ec90_,ib90_,tb90_,fpd90_,ha90_⟩:=St.toA (L:=[]) (lY.pick [0] (by decide) rfl)
 have hb90_:St w fp [nC bx db Sj mb90_ RA90_ rc90_ EA90_ ec90_ ib90_ tb90_ fpd90_ fpj] Mi:=ha90_
 have hrjl:Sj.recs.length=L.length:=by rw[hrj,hrl]
 have hcj:200*j<=200*L.length:=by omega
 refine sqr (sqp [.m 92 11,.m 93 6,.k 94 (vp bx),.k 95 (po bx 4)] ?_)
 refine sql (.slice RA90_ Sj.recs.length rc90_) hb90_ (fun cx=>ae rfl (by kernel_rfl) (cx.ou 95) ((ld (CtxV.holdF cx (cx.init 0 _ rfl) rfl)).blkL.cell 4)) ?_
 refine sqp [.k 97 (vi ((Sj.recs.length:Int))),.k 98 (.bool (decide ((j:Int)<(Sj.recs.length:Int))))] ?_
 refine aa (wds (fun Pw N3=>?_) fun Pw N3=>?_)
 refine wp_skip (aa (wq (wp_block (wq ?_))))
 have hjl:j<L.length:=by omega
 obtain⟨rt,hrt⟩:∃rt,rs[j]? =some rt:=⟨_,List.getElem?_eq_getElem (by omega)⟩
 have hrt2:Sj.recs[j]? =some rt:=by rw[hrj];exact hrt
 have hlj:L[j]? =some rt.r:=by rw[<-hrs,List.getElem?_map,hrt];rfl
 have hrm:rt∈Sj.rr:=by rw[hrrj];exact List.mem_of_getElem? hrt
 have hlm:=List.mem_of_getElem? hlj
 refine sqr (sqp [.m 101 6,.m 102 11,sI 103 ((j:Int)+1) (by omega),.m 104 6,.k 105 (vp bx),.k 106 (po bx 4)] ?_)
 refine sql (.slice RA90_ Sj.recs.length rc90_) hb90_ (fun cx=>ae rfl (by kernel_rfl) (cx.ou 106) ((ld (CtxV.holdF cx (cx.init 0 _ rfl) rfl)).blkL.cell 4)) ?_
 refine sqp [.m 108 11] ?_
 refine sql (.pointer (some ((ad RA90_).add (j*8)))) hb90_ (fun cx=>aG (e:=27) (m:=j) (sz:=8) rfl (by kernel_rfl) (by kernel_rfl) (cx.ou 107) (cx.ou 108) (by omega) (by omega) (ld (CtxV.holdF cx (cx.init 0 _ rfl) rfl)).recs (bp (sz:=8) cF (by decide) (by omega))) ?_
 refine sql (.agg #[vi rt.r.kind,vi rt.r.xid,vi rt.r.tbl,sn,sn,.slice rt.A rt.r.eds.length rt.c,sn,.string rt.r.note]) hb90_ (fun cx=>bQ (f:=rcC) (m:=j) (sz:=8) (off:=0) (n:=8) rfl (by kernel_rfl) (by kernel_rfl) (cx.ou 109) rfl cF (ld (CtxV.holdF cx (cx.init 0 _ rfl) rfl)).recs hrt2 (fun k hk=>match k,hk with|0,_=>rfl|1,_=>rfl|2,_=>rfl|3,_=>rfl|4,_=>rfl|5,_=>rfl|6,_=>rfl|7,_=>rfl|k+8,hk=>absurd hk (by omega))) ?_
 refine oI (fun x_=>tZ x_) (fun X_=>X_.fp) (fun er111_109=>vi er111_109) (fun er111_109 zA=>eSx bx db (fun S2=>RdR Sj ((j:Int)+1) rt.r S2 er111_109) zA) 0 hb90_ (by
   refine svA fun g b W X cx=>?_
   refine am.call (al (args:=#[vp bx,vi ((j:Int)+1),.agg #[vi rt.r.kind,vi rt.r.xid,vi rt.r.tbl,sn,sn,.slice rt.A rt.r.eds.length rt.c,sn,.string rt.r.note]]) rfl cx.sees rfl (by kernel_rfl) (dG (cx.ou 101) (cx.ou 103) (cx.ou 110))) ?_
   refine(wh bx db Sj ((j:Int)+1) rt (c+200*j) _ _ (vx (CtxV.holdF cx (cx.init 0 _ rfl) rfl)) (CtxV.ltF cx (cx.init 0 _ rfl) rfl) hokj (by omega) (hL _ hlm) hrm (h8 _ hlm)).mono ?_
   rintro e W1 ⟨er4,rfl,fp4,aM⟩
   refine⟨_,rfl,aK (E:=nC bx db Sj mb90_ RA90_ rc90_ EA90_ ec90_ ib90_ tb90_ fpd90_ fpj) [eSx bx db (fun S2=>RdR Sj ((j:Int)+1) rt.r S2 er4) fp4] (cx.init 0 _ rfl) rfl rfl aM (fun d i X' hs hb hv hN=>?_)⟩
   have aJ:=(hv 111 rfl).1;have aQ:=(hv 111 rfl).2
   exact⟨aJ.trans (by rw[aQ];exact rfl),(by rw[aQ];exact fK ((List.cons.inj hN).1))⟩) fun er111_109 zA Py zC=>?_
 refine sqp [.m 12 111] ?_
 refine aa (wq ?_)
 obtain⟨S1,hR,hy111_⟩:=zC.unx
 have hrd_:=hR.ok hokj (hL _ hlm)
 refine sqr (sqp [.m 112 12,.k 113 (.bool (er111_109 != 0))] ?_)
 refine aa (wbs (fun rJ=>?_) fun rJ=>?_)
 have Mt:=bne_iff_ne.1 rJ
 refine wq (sqr (sqp [.m 114 12,.k 4 (.pointer none),.m 5 114] ?_))
 refine aa (wp_ret (ba (aj (aj (ba (aj ?_))))))
 refine bpr (.tuple #[.pointer none,vi er111_109]) (aO Tryz.results18 rpt rpt) ?_
 obtain⟨fpz,hz118_⟩:=St.dkOf (L:=[]) (hy111_.pick [0] (by decide) rfl)
 exact fH.dk (.bad hbb (by have h_:=hon.trans dE;simpa using h_) hf0 hc0 rs hrs (by rw[hD1];exact hcont _ _ (by rw[List.drop_eq_getElem_cons hjl,show L[j]'hjl=rt.r from(List.getElem?_eq_some_iff.1 hlj).2];exact RdL.bad hR (by simpa using rJ))) (by simpa using rJ)) hz118_
 have Mt:=bne_eq_false_iff_eq.1 rJ
 refine wp_skip (av (aa (sqr (sqp [.m 99 11,sI 100 ((j:Int)+1) (by omega),.m 11 100] ?_))))
 refine aa ?_
 refine⟨L.length-((j+1)),by omega,?_⟩
 exact⟨(j+1),S1,zA,by omega,(fun S2 er h=>hcont S2 er (by rw[List.drop_eq_getElem_cons (by omega:j<L.length),show L[j]'(by omega)=rt.r from(List.getElem?_eq_some_iff.1 hlj).2];exact RdL.cons (yS hR (by simpa using rJ)) h)),(hrd_.1.mono (by omega)),hrd_.2.2.1.trans hrj,hrd_.2.1.trans hrrj,rfl,(by kernel_rfl),hy111_.pk [0]⟩
 refine wp_exit (aq (aq (bj (aa (wq (sqr (sqp [.m 115 6,.m 4 115,.k 5 (vi 0)] ?_)))))))
 refine aa (wp_ret ?_)
 refine bpr (.tuple #[vp bx,vi 0]) (aO Tryz.results18 rpt rpt) ?_
 exact fH.st (.ok hbb (by have h_:=hon.trans dE;simpa using h_) hf0 hc0 rs hrs (by rw[hD1];exact hcont _ _ (by rw[List.drop_of_length_le (by omega)];exact RdL.nil _ _))) (St.ofA (L:=[]) (hb90_.pick [0] (by decide) rfl))
 refine wp_skip (aa (wq (wq ?_)))
 have hop:fY D L=(D,0):=if_neg (by have h_:=of_decide_eq_false nP;omega)
 have hc0:(fY D L).2=0:=by rw[hop]
 obtain⟨D1,hD1⟩:∃z,(fY D L).1=z:=⟨_,rfl⟩
 have hD2:D=D1:=by rw[<-hD1,hop]
 rw[show eDk db D=eDk db D1 by rw[hD2]] at gx
 have hdk:=AQ hlog hfz hc0
 rw[hD1] at hdk
 have hok0:SOk (iw D1 bufs rs (bc L)) c:=SOk.opn hbb (by rw[hdk.2.1];exact hpg) (by rw[hdk.2.1];exact hws) (by rw[hrs];exact hL) (by rw[hrs];exact hdk.1) (by rw[hdk.1,cw];have h_:=congrArg ByteArray.size hlog;rw[ByteArray.size_append,cw] at h_;omega) (by rw[hdk.2.2.1,hdk.1,cw];omega)
 have hn125_:=(gx.nM dH).nA fo
 refine sqr (sqp [.m 88 6,.k 89 (vp bx),.k 90 (po bx 8)] ?_)
 refine au 9 hn125_ ?_
 refine sqp [.m 11 91] ?_
 refine aa (wp_block ?_)
 obtain⟨fp131_,hk131_⟩:=St.stf (S:=iw D1 bufs rs (bc L)) (by have h_:=hn125_.u8.u8.u6.u6.u6.u6.u6.u8.u9;rw[stL,stC,StM.L,show (iw D1 bufs rs (bc L)).recs.map RcT.r=L from hrs,show (iw D1 bufs rs (bc L)).recs.length=L.length from hrl];exact h_) (fun t ht=>by cases ht) (fun t ht=>ht)
 refine aT (fun t_ mz az W=>∃j:Nat,∃Sj:StM,∃fpj:List Nat,j<=L.length/\(∀S2 er,RdL j Sj (L.drop j) S2 er->RdL (bc L) (iw D1 bufs rs (bc L)) (L.drop (bc L)) S2 er)/\SOk Sj (c+200*j)/\Sj.recs=rs/\Sj.rr=rs/\mz=L.length-j/\az=⟨(ovr (jv az) [(4,4,2,[]),(5,11,0,[vi ((j:Int))]),(0,12,1,[]),(79,92,23,[])] t_).toArray,[]⟩/\St w fp [eSt bx db Sj fpj] W) (L.length-((bc L))) ?_ ?_
 exact⟨(bc L),(iw D1 bufs rs (bc L)),fp131_,hfl,fun S2 er h=>h,hok0.mono (by omega),rfl,rfl,rfl,(by kernel_rfl),hk131_.pk [0]⟩
 rintro R9 a132 Pz ⟨j,Sj,fpj,hj,hcont,hokj,hrj,hrrj,rfl,hj_,Mu⟩
 refine ovz hj_ fun RE=>?_
 refine wq (wq ?_)
 obtain⟨mb133_,RA133_,rc133_,EA133_,ec133_,ib133_,tb133_,fpd133_,ha133_⟩:=St.toA (L:=[]) (Mu.pick [0] (by decide) rfl)
 have hb133_:St w fp [nC bx db Sj mb133_ RA133_ rc133_ EA133_ ec133_ ib133_ tb133_ fpd133_ fpj] Pz:=ha133_
 have hrjl:Sj.recs.length=L.length:=by rw[hrj,hrl]
 have hcj:200*j<=200*L.length:=by omega
 refine sqr (sqp [.m 92 11,.m 93 6,.k 94 (vp bx),.k 95 (po bx 4)] ?_)
 refine sql (.slice RA133_ Sj.recs.length rc133_) hb133_ (fun cx=>ae rfl (by kernel_rfl) (cx.ou 95) ((ld (CtxV.holdF cx (cx.init 0 _ rfl) rfl)).blkL.cell 4)) ?_
 refine sqp [.k 97 (vi ((Sj.recs.length:Int))),.k 98 (.bool (decide ((j:Int)<(Sj.recs.length:Int))))] ?_
 refine aa (wds (fun N4 Mv=>?_) fun N4 Mv=>?_)
 refine wp_skip (aa (wq (wp_block (wq ?_))))
 have hjl:j<L.length:=by omega
 obtain⟨rt,hrt⟩:∃rt,rs[j]? =some rt:=⟨_,List.getElem?_eq_getElem (by omega)⟩
 have hrt2:Sj.recs[j]? =some rt:=by rw[hrj];exact hrt
 have hlj:L[j]? =some rt.r:=by rw[<-hrs,List.getElem?_map,hrt];rfl
 have hrm:rt∈Sj.rr:=by rw[hrrj];exact List.mem_of_getElem? hrt
 have hlm:=List.mem_of_getElem? hlj
 refine sqr (sqp [.m 101 6,.m 102 11,sI 103 ((j:Int)+1) (by omega),.m 104 6,.k 105 (vp bx),.k 106 (po bx 4)] ?_)
 refine sql (.slice RA133_ Sj.recs.length rc133_) hb133_ (fun cx=>ae rfl (by kernel_rfl) (cx.ou 106) ((ld (CtxV.holdF cx (cx.init 0 _ rfl) rfl)).blkL.cell 4)) ?_
 refine sqp [.m 108 11] ?_
 refine sql (.pointer (some ((ad RA133_).add (j*8)))) hb133_ (fun cx=>aG (e:=27) (m:=j) (sz:=8) rfl (by kernel_rfl) (by kernel_rfl) (cx.ou 107) (cx.ou 108) (by omega) (by omega) (ld (CtxV.holdF cx (cx.init 0 _ rfl) rfl)).recs (bp (sz:=8) cF (by decide) (by omega))) ?_
 refine sql (.agg #[vi rt.r.kind,vi rt.r.xid,vi rt.r.tbl,sn,sn,.slice rt.A rt.r.eds.length rt.c,sn,.string rt.r.note]) hb133_ (fun cx=>bQ (f:=rcC) (m:=j) (sz:=8) (off:=0) (n:=8) rfl (by kernel_rfl) (by kernel_rfl) (cx.ou 109) rfl cF (ld (CtxV.holdF cx (cx.init 0 _ rfl) rfl)).recs hrt2 (fun k hk=>match k,hk with|0,_=>rfl|1,_=>rfl|2,_=>rfl|3,_=>rfl|4,_=>rfl|5,_=>rfl|6,_=>rfl|7,_=>rfl|k+8,hk=>absurd hk (by omega))) ?_
 refine oI (fun x_=>tZ x_) (fun X_=>X_.fp) (fun er111_152=>vi er111_152) (fun er111_152 zD=>eSx bx db (fun S2=>RdR Sj ((j:Int)+1) rt.r S2 er111_152) zD) 0 hb133_ (by
   refine svA fun g b W X cx=>?_
   refine am.call (al (args:=#[vp bx,vi ((j:Int)+1),.agg #[vi rt.r.kind,vi rt.r.xid,vi rt.r.tbl,sn,sn,.slice rt.A rt.r.eds.length rt.c,sn,.string rt.r.note]]) rfl cx.sees rfl (by kernel_rfl) (dG (cx.ou 101) (cx.ou 103) (cx.ou 110))) ?_
   refine(wh bx db Sj ((j:Int)+1) rt (c+200*j) _ _ (vx (CtxV.holdF cx (cx.init 0 _ rfl) rfl)) (CtxV.ltF cx (cx.init 0 _ rfl) rfl) hokj (by omega) (hL _ hlm) hrm (h8 _ hlm)).mono ?_
   rintro e W1 ⟨er4,rfl,fp4,aM⟩
   refine⟨_,rfl,aK (E:=nC bx db Sj mb133_ RA133_ rc133_ EA133_ ec133_ ib133_ tb133_ fpd133_ fpj) [eSx bx db (fun S2=>RdR Sj ((j:Int)+1) rt.r S2 er4) fp4] (cx.init 0 _ rfl) rfl rfl aM (fun d i X' hs hb hv hN=>?_)⟩
   have aJ:=(hv 111 rfl).1;have aQ:=(hv 111 rfl).2
   exact⟨aJ.trans (by rw[aQ];exact rfl),(by rw[aQ];exact fK ((List.cons.inj hN).1))⟩) fun er111_152 zD PC uZ=>?_
 refine sqp [.m 12 111] ?_
 refine aa (wq ?_)
 obtain⟨S1,hR,hy154_⟩:=uZ.unx
 have hrd_:=hR.ok hokj (hL _ hlm)
 refine sqr (sqp [.m 112 12,.k 113 (.bool (er111_152 != 0))] ?_)
 refine aa (wbs (fun rK=>?_) fun rK=>?_)
 have Mw:=bne_iff_ne.1 rK
 refine wq (sqr (sqp [.m 114 12,.k 4 (.pointer none),.m 5 114] ?_))
 refine aa (wp_ret (ba (aj (aj (ba (aj ?_))))))
 refine bpr (.tuple #[.pointer none,vi er111_152]) (aO Tryz.results18 rpt rpt) ?_
 obtain⟨fpz,hz161_⟩:=St.dkOf (L:=[]) (hy154_.pick [0] (by decide) rfl)
 exact fH.dk (.bad hbb (by have h_:=hon.trans dE;simpa using h_) hf0 hc0 rs hrs (by rw[hD1];exact hcont _ _ (by rw[List.drop_eq_getElem_cons hjl,show L[j]'hjl=rt.r from(List.getElem?_eq_some_iff.1 hlj).2];exact RdL.bad hR (by simpa using rK))) (by simpa using rK)) hz161_
 have Mw:=bne_eq_false_iff_eq.1 rK
 refine wp_skip (av (aa (sqr (sqp [.m 99 11,sI 100 ((j:Int)+1) (by omega),.m 11 100] ?_))))
 refine aa ?_
 refine⟨L.length-((j+1)),by omega,?_⟩
 exact⟨(j+1),S1,zD,by omega,(fun S2 er h=>hcont S2 er (by rw[List.drop_eq_getElem_cons (by omega:j<L.length),show L[j]'(by omega)=rt.r from(List.getElem?_eq_some_iff.1 hlj).2];exact RdL.cons (yS hR (by simpa using rK)) h)),(hrd_.1.mono (by omega)),hrd_.2.2.1.trans hrj,hrd_.2.1.trans hrrj,rfl,(by kernel_rfl),hy154_.pk [0]⟩
 refine wp_exit (aq (aq (bj (aa (wq (sqr (sqp [.m 115 6,.m 4 115,.k 5 (vi 0)] ?_)))))))
 refine aa (wp_ret ?_)
 refine bpr (.tuple #[vp bx,vi 0]) (aO Tryz.results18 rpt rpt) ?_
 exact fH.st (.ok hbb (by have h_:=hon.trans dE;simpa using h_) hf0 hc0 rs hrs (by rw[hD1];exact hcont _ _ (by rw[List.drop_of_length_le (by omega)];exact RdL.nil _ _))) (St.ofA (L:=[]) (hb133_.pick [0] (by decide) rfl))
 refine wp_cond_true (show Act.eval _ _= .bool true from(congrArg Value.bool (by rw[dE];rfl))) (wq (sqr (sqp [.k 4 (.pointer none),.k 5 (vi 24)] ?_)))
 refine aa (wp_ret (aj ?_))
 refine bpr (.tuple #[.pointer none,vi 24]) (aO Tryz.results18 rpt rpt) ?_
 exact fH.dk (.off hbb (by have h_:=hon.trans dE;simpa using h_)) (i7.pick [0] (by decide) rfl)
end
section
open Go.RowKit
def aE(note:ByteArray):RecM:=⟨9,0,0,[],note⟩
theorem du{note:ByteArray}(h:note.size<=60000):bz (aE note)=true:=by
 have:decide ((note.size:Int)<=60000)=true:=decide_eq_true (by omega)
 show (inB 9 1 10&&(inB 0 0 127&&(inB 0 0 65535&&(decide ((([]:List EdT).length:Int)<=64)&&((([]:List EdT).all edR)&&decide ((note.size:Int)<=60000))))))=true
 rw[this];decide
def fmR(D:DkM)(note:ByteArray):DkM×Int:=opD D (apE D (aB (aE note))) (apD (aB (aE note)))
def vN(D:DkM)(note:ByteArray):DkM×Int:=if 0<D.log.size\/60000<note.size then (D,1) else if (fmR D note).2≠0 then fmR D note else opD (fmR D note).1 0 flD
theorem PaQ.ok{S S2:StM}{n:Int}{ok:Bool}{c:Nat}(h:PaQ S n S2 ok)(hc:SOk S c):SOk S2 (c+3):=by
 obtain⟨er,h1,_⟩:=h
 exact hc.load h1
theorem PaQ.ev{S S2:StM}{n:Int}{ok:Bool}{c:Nat}(h:PaQ S n S2 ok)(hc:SOk S c):Ev S S2/\(ok=false->S2.D.off=true\/¬(0<=n/\n<(S.D.pgs.length:Int)))/\(ok=true->0<=n/\n<(S.D.pgs.length:Int)):=by
 obtain⟨er,h1,h2⟩:=h
 obtain⟨a,b,d⟩:=Ev.load hc h1
 refine⟨a,fun h=>b ?_,fun h=>(d ?_).1⟩
 rw[h] at h2;simpa using h2.symm
 rw[h] at h2;simpa using h2.symm
def eF(S:StM)(n:Int)(b:Bool):StM:={S with nt:=mzP S.told n S.nt,told:=cd S.told n (some b)}
theorem SOk.told{S:StM}{c:Nat}(h:SOk S c)(n:Int)(b:Bool):SOk (eF S n b) (c+1):=⟨h.bufs,h.pgs,fun x hx=>Nat.le_succ_of_le (h.ws x hx),⟨h.time.1,by have:=h.time.2;show S.time<= _;omega⟩,Nat.le_succ_of_le h.ni,by have h1:=qa S.told n S.nt;have:=h.nt;show mzP S.told n S.nt<=c+1;omega,h.right,h.nodup,h.len,h.keys,h.recs,h.log,h.lsz,h.fl,h.cl⟩
inductive FrR:StM->Nat->StM->Int->Prop where
 |stop {S:StM}{n:Nat}(h:S.D.pgs.length<=n):FrR S n S (-1)
 |told {S S2:StM}{n:Nat}{r:Int}(h:n<S.D.pgs.length) (ht:(S.told (n:Int)).getD false=true) (hr:FrR S (n+1) S2 r):FrR S n S2 r
 |no {S S1 S2:StM}{n:Nat}{r:Int}{ok:Bool}(h:n<S.D.pgs.length) (ht:(S.told (n:Int)).getD false=false) (hp:PaQ S (n:Int) S1 ok) (hk:¬(ok=true/\(aH S (n:Int)).1=0)) (hr:FrR S1 (n+1) S2 r):FrR S n S2 r
 |yes {S S1:StM}{n:Nat}(h:n<S.D.pgs.length) (ht:(S.told (n:Int)).getD false=false) (hp:PaQ S (n:Int) S1 true) (hk:(aH S (n:Int)).1=0):FrR S n (eF S1 (n:Int) true) (n:Int)
def pW(sb db:Nat)(S:StM)(fp:List Nat)(w:World)(e:Ending)(w':World):Prop:=∃r,e= .returned (.int .i64 r)/\∃fp',St w fp [eSx sb db (fun S2=>FrR S 0 S2 r) fp'] w'
theorem pW.of{sb db:Nat}{S S2:StM}{r:Int}{fp fp':List Nat}{w w':World}(h:FrR S 0 S2 r)(hs:St w fp ([]++[eSt sb db S2 fp']) w'):pW sb db S fp w (.returned (.int .i64 r)) w':=⟨r,rfl,fp',St.sx (L:=[]) hs h⟩
theorem Aj(db:Nat)(D:DkM)(note:ByteArray)(fp:List Nat)(w:World)(hB:(eDk db D fp).holds w)(hlt:∀k∈fp,k<w.heap.size)(hlz:D.log.size<=9000000)(hns:note.size<=9000000):
  Calls Tryz.prog 20 #[po db 0,.string note] w (bU db (vN D note) fp w):=by
 have st1:St w fp [eDk db D fp] w:=St.lend hB (dS _ _ _) hlt
 go_enter Tryz.func20,Tryz.ntmps20
 have ak:=st1
 refine wq (sqr (sqp [.k 4 (vi 0)] ?_))
 refine aa (wq (wq (sqr (sqp [.m 6 0] ?_))))
 refine sqk (.string D.log) ak (fun cx=>⟨_,jz db D _ (fa (CtxV.holdF cx (cx.init 0 _ rfl) rfl)),(aw (cx.ou 6))⟩) fun W3 aV=>?_
 refine sqp [.k 8 (vi ((D.log.size:Int))),.k 9 (.bool (decide (0<(D.log.size:Int)))),.m 10 9] ?_
 refine sqw 10 [11,12,13] rfl (fun _=>sqp [.m 11 1,.k 12 (vi ((note.size:Int))),.k 13 (.bool (decide (60000<(note.size:Int))))] sqe) ?_
 refine sqp [sPo 14 (decide (0<(D.log.size:Int))) (decide (60000<(note.size:Int)))] ?_
 refine aa (wbs (fun dm=>?_) fun dm=>?_)
 have gU:=dm
 simp only[zB] at gU
 refine wq (sqr (sqp [.k 4 (vi 1)] ?_))
 refine aa (wp_ret (aj ?_))
 refine bpr (vi 1) (ag Tryz.results20 rpt) ?_
 exact bU.of (R':=(D,1)) (by rw[vN,if_pos (by have h_:=dm;simp at h_;omega)]) (aV.pick [0] (by decide) rfl)
 have gU:=dm
 simp only[zB] at gU
 obtain⟨Mq,Mr⟩:=gU
 refine wp_skip (aa (wq (wq ?_)))
 have hn6:note.size<=60000:=by have h_:=dm;simp at h_;omega
 have hfs:=eR (du hn6)
 refine sqr (sqp [.m 15 0,.m 16 1,.k 17 (.agg #[vi 9,vi 0,vi 0,sn,sn,sn,sn,.string note])] ?_)
 refine sqk (.string (aB (aE note))) aV (fun cx=>⟨_,j5 9 0 0 none 0 [] note _ (fun j u h=>by cases j<;>cases h) (by decide) (fun e he=>by cases he) (by omega),(aw (cx.ou 17))⟩) fun qE dt=>?_
 refine bG (fun X_=>X_.fp) (vi ((fmR D note).2)) (fun CU=>eDk db ((fmR D note).1) CU) 0 dt (by
   refine svA fun c a W X cx=>?_
   refine am.call (al (args:=#[vp db,.string (aB (aE note))]) rfl cx.sees rfl (by kernel_rfl) (aN (cx.ou 15) (cx.ou 18))) ?_
   refine(rZ db D (aB (aE note)) _ _ (CtxV.holdF cx (cx.init 0 _ rfl) rfl) (CtxV.ltF cx (cx.init 0 _ rfl) rfl) (by omega) (by omega)).mono ?_
   rintro e W1 ⟨rfl,fp4,aM⟩
   refine⟨_,rfl,aK (E:=eDk db D fp) [eDk db (fmR D note).1 fp4] (cx.init 0 _ rfl) rfl rfl aM (fun b d X' hs hb hv hN=>?_)⟩
   have aJ:=(hv 19 rfl).1;have aQ:=(hv 19 rfl).2
   exact⟨aJ.trans rfl,cE ((List.cons.inj hN).1)⟩) fun CU uF dO=>?_
 refine sqp [.m 5 19] ?_
 refine aa (wq (sqr (sqp [.m 20 5,.k 21 (.bool (((fmR D note).2) != 0))] ?_)))
 refine aa (wbs (fun zE=>?_) fun zE=>?_)
 have N5:=bne_iff_ne.1 zE
 refine wq (sqr (sqp [.m 22 5,.m 4 22] ?_))
 refine aa (wp_ret (aj ?_))
 refine bpr (vi ((fmR D note).2)) (ag Tryz.results20 rpt) ?_
 exact bU.of (R':=fmR D note) (by rw[vN,if_neg (by have h_:=dm;simp at h_;omega),if_pos (by simpa using zE)]) (dO.pick [0] (by decide) rfl)
 have N5:=bne_eq_false_iff_eq.1 zE
 refine wp_skip (aa (wq ?_))
 have hlz2:(fmR D note).1.log.size<=10000000:=by
  unfold fmR;refine cX (P:=fun D'=>D'.log.size<=10000000) (Nat.le_trans hlz (by decide)) (Nat.le_trans hlz (by decide)) fun _=>?_
  show (D.log++ _).size<= _
  rw[ByteArray.size_append];omega
 refine sqr (sqp [.m 23 0] ?_)
 refine bG (fun X_=>X_.fp) (vi ((opD (fmR D note).1 0 flD).2)) (fun I1=>eDk db ((opD (fmR D note).1 0 flD).1) I1) 0 dO (by
   refine svA fun c a W X cx=>?_
   refine am.call (al (args:=#[vp db]) rfl cx.sees rfl (by kernel_rfl) (aw (cx.ou 23))) ?_
   refine(lR db (fmR D note).1 _ _ (CtxV.holdF cx (cx.init 0 _ rfl) rfl) (CtxV.ltF cx (cx.init 0 _ rfl) rfl) hlz2).mono ?_
   rintro e W1 ⟨rfl,fp4,aM⟩
   refine⟨_,rfl,aK (E:=eDk db ((fmR D note).1) CU) [eDk db (opD (fmR D note).1 0 flD).1 fp4] (cx.init 0 _ rfl) rfl rfl aM (fun b d X' hs hb hv hN=>?_)⟩
   have aJ:=(hv 24 rfl).1;have aQ:=(hv 24 rfl).2
   exact⟨aJ.trans rfl,cE ((List.cons.inj hN).1)⟩) fun I1 w7 dM=>?_
 refine sqp [.m 4 24] ?_
 refine aa (wp_ret ?_)
 refine bpr (vi ((opD (fmR D note).1 0 flD).2)) (ag Tryz.results20 rpt) ?_
 exact bU.of (by rw[vN,if_neg (by have h_:=dm;simp at h_;omega),if_neg (by simpa using zE)]) (dM.pick [0] (by decide) rfl)
theorem Lw{S S1:StM}{n:Nat}{ok:Bool}(h:n<S.D.pgs.length)(ht:(S.told (n:Int)).getD false=false)(hp:PaQ S (n:Int) S1 ok)(hk:ok=true/\(pgF S (n:Int) ok).1=0):FrR S n (eF S1 (n:Int) true) (n:Int):=by
 obtain⟨rfl,h2⟩:=hk
 exact .yes h ht hp (by rw[pgF,if_pos rfl] at h2;exact h2)
theorem Cw(sb db:Nat)(S:StM)(c:Nat)(fp:List Nat)(w:World)(hB:(eSt sb db S fp).holds w)(hlt:∀k∈fp,k<w.heap.size)(hok:SOk S c)(hc:c<=900000):
  Calls Tryz.prog 22 #[po sb 0] w (pW sb db S fp w):=by
 have st1:St w fp [eSt sb db S fp] w:=St.lend hB (dp _ _ _ _) hlt
 have hpg:=hok.pgs
 go_enter Tryz.func22,Tryz.ntmps22
 have ak:=st1
 refine wq (sqr (sqp [.k 2 (vi 0)] ?_))
 refine aa (wq (wq (sqr (sqp [.m 6 0] ?_))))
 refine sqk (vi ((S.D.pgs.length:Int))) ak (fun cx=>⟨_,oP sb db S _ (p5 (CtxV.holdF cx (cx.init 0 _ rfl) rfl)),(aw (cx.ou 6))⟩) fun W3 aV=>?_
 refine sqp [.k 8 (vi 0)] ?_
 refine aa (wp_block ?_)
 refine aT (fun t_ mz az W=>∃n:Nat,∃Sj:StM,∃fpj:List Nat,n<=S.D.pgs.length/\(∀S2 r,FrR Sj n S2 r->FrR S 0 S2 r)/\SOk Sj (c+3*n)/\Sj.D.pgs.length=S.D.pgs.length/\mz=S.D.pgs.length-n/\az=⟨(ovr (jv az) [(2,2,4,[]),(2,8,0,[vi ((n:Int))]),(0,9,27,[])] t_).toArray,[]⟩/\St w fp [eSt sb db Sj fpj] W) (S.D.pgs.length-0) ?_ ?_
 exact⟨0,S,fp,Nat.zero_le _,fun S2 r h=>h,hok,rfl,rfl,(by kernel_rfl),aV.pk [0]⟩
 rintro n5 a5 W5 ⟨n,Sj,fpj,hn,hcont,hokj,hpj,rfl,hj_,aR⟩
 refine ovz hj_ fun xe=>?_
 refine wq (sqr (sqp [.k 9 (.bool (decide ((n:Int)<(S.D.pgs.length:Int))))] ?_))
 refine aa (wq (wds (fun fD nL=>?_) fun fD nL=>?_))
 ·refine wp_skip (aa (wq (wp_block (wq (sqr (sqp [.m 10 8,.m 3 10] ?_))))))
  refine aa (wq (wq ?_))
  have hnp:n<Sj.D.pgs.length:=by omega
  have hpg:=hok.pgs
  have hkn:kcI.ok (n:Int):=by constructor<;>omega
  obtain⟨⟨hrw1,hrr1⟩,mb1,RA1,rc1,EA1,ec1,ib1,tb1,fpd1,hv10_⟩:=aR.unf
  refine sqr (sqp [.m 11 0,.k 12 (vp sb),.k 13 (po sb 7)] ?_)
  refine au 0 hv10_ ?_
  refine sqp [.m 15 3] ?_
  refine sql (.bool (((Sj.told (n:Int)).getD false))) hv10_ (fun cx=>c5 (e:=4) (C:=ecB) (K:=kcI) (x:=(n:Int)) rfl (cx.ou 14) (cx.ou 15) (CtxV.mx cx (cx.init 8 _ rfl) rfl) (h0:=(by rfl)) (hx:=hkn) (hk:=show Program.underlying _ _= _ from by kernel_rfl)) ?_
  refine aa (wbs (fun nK=>?_) fun nK=>?_)
  refine wp_exit (aq (bj (aa (sqr (sqp [sI 35 ((n:Int)+1) (by omega),.m 8 35] ?_)))))
  refine aa ?_
  obtain⟨fp20_,hk20_⟩:=St.stf (S:=Sj) (hv10_) (hrw1) (hrr1)
  refine⟨S.D.pgs.length-((n+1)),by omega,?_⟩
  exact⟨(n+1),Sj,fp20_,by omega,(fun S2 r h=>hcont S2 r (FrR.told hnp nK h)),(hokj.mono (by omega)),hpj,rfl,(by kernel_rfl),hk20_.pk [0]⟩
  refine wp_skip (aa (wq ?_))
  obtain⟨fp21_,hk21_⟩:=St.stf (S:=Sj) (hv10_) (hrw1) (hrr1)
  refine aD [0,0,3,7,15,15,0,95,255] [[],[],[0],[],[],[],[],[3]] [[],[],[1,2],[],[],[],[3],[4]] [[],[],[0],[],[],[],[],[3]] [.k 18 (vp sb),.k 19 (vi ((n:Int))),.a 20,.a 17,.a 21,.a 22,.a 4,.n,.a 5] (fun ix d b X=>match ix with|0|1=>True|2=>d 20= .tuple #[.agg #[vi ((pgF Sj (n:Int) (tB1 (b 20))).1),vi ((pgF Sj (n:Int) (tB1 (b 20))).2.1),.slice (sA (tg (tg (b 20) 0) 2)) ((pgF Sj (n:Int) (tB1 (b 20))).2.2.length) (sC (tg (tg (b 20) 0) 2))],.bool (tB1 (b 20))]/\X 1=eSx sb db (fun S2=>PaQ Sj (n:Int) S2 (tB1 (b 20))) ((X 1).fp)/\X 2=eO 9 1 (.slice (sA (tg (tg (b 20) 0) 2)) ((pgF Sj (n:Int) (tB1 (b 20))).2.2.length) (sC (tg (tg (b 20) 0) 2))) ((pgF Sj (n:Int) (tB1 (b 20))).2.2.length) ((pgF Sj (n:Int) (tB1 (b 20))).2.2.map Value.string)|3=>d 17= .tuple #[.agg #[vi ((pgF Sj (n:Int) (tB1 (b 20))).1),vi ((pgF Sj (n:Int) (tB1 (b 20))).2.1),.slice (sA (tg (tg (b 20) 0) 2)) ((pgF Sj (n:Int) (tB1 (b 20))).2.2.length) (sC (tg (tg (b 20) 0) 2))],.bool (tB1 (b 20))]|4=>d 21= .agg #[vi ((pgF Sj (n:Int) (tB1 (b 20))).1),vi ((pgF Sj (n:Int) (tB1 (b 20))).2.1),.slice (sA (tg (tg (b 20) 0) 2)) ((pgF Sj (n:Int) (tB1 (b 20))).2.2.length) (sC (tg (tg (b 20) 0) 2))]|5=>d 22= .bool (tB1 (b 20))|6=>d 4=vp (pb (b 4))/\X 3=eB (pb (b 4)) 48 #[vi 0,vi 0,sn]|7=>X 4=eB (pb (b 4)) 48 #[vi ((pgF Sj (n:Int) (tB1 (b 20))).1),vi ((pgF Sj (n:Int) (tB1 (b 20))).2.1),.slice (sA (tg (tg (b 20) 0) 2)) ((pgF Sj (n:Int) (tB1 (b 20))).2.2.length) (sC (tg (tg (b 20) 0) 2))]|8=>d 5= .bool (tB1 (b 20))|_=>True) [1,2,4] [2,3,4,5,6,7,8] [(4,6,3,6),(11,3,1,12),(0,0,3,3),(0,4,2,2)] hk21_ ?_ ?_ ?_
  exact fun ix _ _ _ _ _ _ hs hb hx h=>match ix,h with
  |2,h=>by dsimp only;rw[<-hs 20 rfl,<-hb 20 rfl,<-hx 1 rfl,<-hx 2 rfl];exact h
  |3,h=>by dsimp only;rw[<-hs 17 rfl,<-hb 20 rfl];exact h
  |4,h=>by dsimp only;rw[<-hs 21 rfl,<-hb 20 rfl];exact h
  |5,h=>by dsimp only;rw[<-hs 22 rfl,<-hb 20 rfl];exact h
  |6,h=>by dsimp only;rw[<-hs 4 rfl,<-hb 4 rfl,<-hx 3 rfl];exact h
  |7,h=>by dsimp only;rw[<-hb 4 rfl,<-hb 20 rfl,<-hx 4 rfl];exact h
  |8,h=>by dsimp only;rw[<-hs 5 rfl,<-hb 20 rfl];exact h
  |0,_|1,_|_+9,_=>trivial
  refine⟨?_,?_,?_,?_,?_,?_,?_,trivial⟩
  refine svA fun f b W X cx=>?_
  refine am.call (al (args:=#[vp sb,vi ((n:Int))]) rfl cx.sees rfl (by kernel_rfl) (aN (cx.an 0) (cx.an 1))) ?_
  refine(qi sb db Sj (n:Int) (c+3*n) _ _ (CtxV.holdF cx (cx.init 0 _ rfl) rfl) (CtxV.ltF cx (cx.init 0 _ rfl) rfl) hokj (by omega) hkn).mono ?_
  rintro e W1 ⟨ok4,A4,c4,rfl,fp4,aM⟩
  refine⟨_,rfl,aK (E:=eSt sb db Sj fp21_) [eSx sb db (fun S2=>PaQ Sj (n:Int) S2 ok4) fp4,eO 9 1 (.slice A4 ((pgF Sj (n:Int) ok4).2.2.length) c4) ((pgF Sj (n:Int) ok4).2.2.length) ((pgF Sj (n:Int) ok4).2.2.map Value.string)] (cx.init 0 _ rfl) rfl rfl aM (fun d g X' hs hb hv hN=>?_)⟩
  have aJ:=(hv 20 rfl).1;have aQ:=(hv 20 rfl).2
  exact⟨aJ.trans (by rw[aQ];exact rfl),(by rw[aQ];exact fK ((List.cons.inj hN).1)),(by rw[aQ];exact(List.cons.inj (List.cons.inj hN).2).1)⟩
  exact sv rfl rfl rfl rfl rfl _ (fun _ _ _ h=>h) (fun b g h=>by rw[h 20 (by decide)]) fun f b W X cx=>cK rfl (dTn (cx.an 2)).1
  exact sv rfl rfl rfl rfl rfl _ (fun _ _ _ h=>h) (fun b g h=>by rw[h 20 (by decide)]) fun f b W X cx=>bJ rfl (dTn (cx.an 3)) rfl
  exact sv rfl rfl rfl rfl rfl _ (fun _ _ _ h=>h) (fun b g h=>by rw[h 20 (by decide)]) fun f b W X cx=>bJ rfl (dTn (cx.an 3)) rfl
  refine svA fun f b W X cx=>?_
  exact cZ (cs:=#[vi 0,vi 0,sn]) rfl (by kernel_rfl) rfl rfl (fun _ _ _ _ _=> .intro)
  refine svA fun f b W X cx=>?_
  exact bu (n:=3) rfl (dTn (cx.an 6)).1 (dTn (cx.an 4)) (by kernel_rfl) (by kernel_rfl) (by kernel_rfl) cx (dTn (cx.an 6)).2 rfl (nle rfl) (by kernel_rfl) rfl rfl rfl (fun d g X' hs hb hx=>by rw[hb 4,hb 20];exact hx)
  exact sv rfl rfl rfl rfl rfl _ (fun _ _ _ h=>h) (fun b g h=>by rw[h 20 (by decide)]) fun f b W X cx=>di rfl (dTn (cx.an 5))
  intro d b X xc hD dC fr aC
  obtain⟨ok20_22,pB⟩:∃z,tB1 (b 20)=z:=⟨_,rfl⟩
  obtain⟨QW,qL⟩:∃z,sA (tg (tg (b 20) 0) 2)=z:=⟨_,rfl⟩
  obtain⟨QX,qM⟩:∃z,sC (tg (tg (b 20) 0) 2)=z:=⟨_,rfl⟩
  obtain⟨N6,tq⟩:∃z,pb (b 4)=z:=⟨_,rfl⟩
  have Mx:X 1= _:=(dTn (hD 2 lq)).2.1
  obtain⟨N7,zF⟩:∃z,(X 1).fp=z:=⟨_,rfl⟩
  rw[zF] at Mx
  clear zF
  simp only[Mx,exq 2 ((dTn (hD 2 lq)).2.2),exq 4 ((dTn (hD 7 lq))),pB,qL,qM,tq] at dC
  simp only[ed 20 ((dTn (hD 2 lq)).1),ed 17 ((dTn (hD 3 lq))),ed 21 ((dTn (hD 4 lq))),ed 22 ((dTn (hD 5 lq))),ed 4 ((dTn (hD 6 lq)).1),ed 5 ((dTn (hD 8 lq))),pB,qL,qM,tq] at aC
  clear hD Mx pB qL qM tq;subst aC;clear d b X
  refine aa (wq ?_)
  obtain⟨S1,hP,hy23_⟩:=dC.unx
  refine sqr (sqp [.m 23 5,.m 24 23] ?_)
  refine dY 24 [25,26,27] ?_ rfl (fun hq=>?_) ?_
  rotate_left
  refine sqp [.k 25 (vp N6)] ?_
  refine au 2 hy23_ ?_
  refine sqp [.k 27 (.bool (((pgF Sj (n:Int) ok20_22).1)==0))] ?_
  exact sqe
  refine cY ?_
  refine sqp [sPa 28 ok20_22 (((pgF Sj (n:Int) ok20_22).1)==0)] ?_
  refine aa (wbs (fun jA=>?_) fun jA=>?_)
  have ja:=jA
  simp only[zB] at ja
  obtain⟨L6,L7⟩:=ja
  refine wq ?_
  obtain⟨⟨hrw2,hrr2⟩,mb2,RA2,rc2,EA2,ec2,ib2,tb2,fpd2,hv31_⟩:=hy23_.unf
  have hnt:=(hP.ok hokj).nt
  refine sqr (sqp [.m 29 0,.k 30 (vp sb),.k 31 (po sb 7)] ?_)
  refine au 0 hv31_ ?_
  refine sqp [.m 33 3] ?_
  refine sqc (eMx kcI ecB Tryz.prog 3 tb2 ((mzP S1.told (n:Int) S1.nt)) (cd S1.told (n:Int) (some true))) 8 hv31_ (by
    refine svA fun f b W X cx=>?_
    exact go (e:=4) (v:=true) (.inl rfl) (cx.ou 32) (show f _=Kc.enc kcI (n:Int) from(cx.ou 33)) (show f _=Ec.enc ecB true from(cx.co _)) cx (cx.init 8 _ rfl) rfl (trivial) (by omega) (hkn) rfl rfl rfl (fun _ _ _ _ _=>id) (hk:=show Program.underlying _ _= _ from by kernel_rfl)) fun IL gQ=>?_
  refine aa (wq (sqr (sqp [.m 34 3,.m 2 34] ?_)))
  refine aa (wp_ret (ba (aj (aj (ba (aj ?_))))))
  refine bpr (vi ((n:Int))) (ag Tryz.results22 rpt) ?_
  obtain⟨fp40_,hk40_⟩:=St.stf (S:=(eF S1 (n:Int) true)) (gQ.u10.c0.u10.c0) (hrw2) (hrr2)
  exact pW.of (hcont _ _ (Lw hnp nK hP (by have h_:=jA;simpa using h_))) hk40_
  have ja:=jA
  simp only[zB] at ja
  refine wp_skip (av (aa (sqr (sqp [sI 35 ((n:Int)+1) (by omega),.m 8 35] ?_))))
  refine aa ?_
  refine⟨S.D.pgs.length-((n+1)),by omega,?_⟩
  exact⟨(n+1),S1,N7,by omega,(fun S2 r h=>hcont S2 r (FrR.no hnp nK hP (fun hh=>by have h_:=jA;simp[hh.1,pgF,hh.2] at h_) h)),((hP.ok hokj).mono (by omega)),((hP.ev hokj).1.len.trans hpj),rfl,(by kernel_rfl),hy23_.pk [0]⟩
 refine wp_exit (aq (aq (bj (aa (wq (sqr (sqp [.k 2 (vi (-1))] ?_)))))))
 refine aa (wp_ret ?_)
 refine bpr (vi (-1)) (ag Tryz.results22 rpt) ?_
 exact pW.of (hcont _ _ (.stop (by omega))) (aR.pick [0] (by decide) rfl)
end
section
open Go.RowKit Go.Maps Go.ChangeMaps
section
variable{κ ε:Type}{K:Kc κ}{C:Ec ε}{P:Program}{o:Oper}{ρ:Operand->Value}{W:World}{k e b n:Nat}{m:κ->Option ε}
theorem ye{t:TypeId}{y z:Operand}{x:κ}(h:o.op= .lookup t y z true)(hy:ρ y= .map (some b))(hz:ρ z=K.enc x)(hb:gp K C P k b n m W)(h0:(zeroValue e).run P W= .ok (C.enc C.e0) W)(hx:K.ok x)
  (hk:K.ty P k:=by kernel_rfl) (ht:P.underlying t=some (.map k e):=by kernel_rfl):(execOp ρ o).run P W= .ok (.value (.tuple #[C.enc ((m x).getD C.e0),.bool (m x).isSome])) W:=by
 obtain⟨D,hD,_,_,hm⟩:=hb
 obtain⟨v,ps,hrun,hv⟩:=hD.look_ok (K.keyed hk) ht h0 (C.read C.e0 C.ok0) (K.key hk hx)
 rw[C.back v _ ps _ hv (hm x hx).2,(hm x hx).1] at hrun
 unfold execOp
 rw[h]
 simp[hy,hz,hrun]
end
abbrev PgV:=Int×Int×Option Addr×Nat×Nat
def Hu(v:PgV):Value:= .agg #[.int .i64 v.1,.int .i64 v.2.1,.slice v.2.2.1 v.2.2.2.1 v.2.2.2.2]
def spD:Option Nat->DataW Unit
 |none=> .lit (.int .i64 (-1))
 |some j=> .lit (.int .i64 (j:Int))
theorem J8:∀{a b:Option Nat},spD a=spD b->a=b
 |none,none,_=>rfl
 |none,some j,h=>by simp[spD] at h
 |some i,none,h=>by simp[spD] at h
 |some i,some j,h=>by simp[spD] at h;congr 1;omega
def adD:Option Addr->DataW Unit
 |none=> .nil
 |some a=> .agg [.lit (.int .i64 (a.block:Int)),.lit (.int .i64 (a.off:Int)),spD a.spot]
theorem JJ:∀{a b:Option Addr},adD a=adD b->a=b
 |none,none,_=>rfl
 |none,some j,h=>by simp[adD] at h
 |some i,none,h=>by simp[adD] at h
 |some ⟨i1,i2,i3⟩,some ⟨j1,j2,j3⟩,h=>by
  simp only[adD,DataW.agg.injEq,List.cons.injEq,DataW.lit.injEq,Lit.int.injEq,and_true,true_and] at h
  obtain⟨h1,h2,h3⟩:=h
  rw[Int.ofNat.inj h1,Int.ofNat.inj h2,J8 h3]
def y5(v:PgV):DataW Unit:= .agg [.lit (.int .i64 v.1),.lit (.int .i64 v.2.1),adD v.2.2.1,.lit (.int .i64 (v.2.2.2.1:Int)),.lit (.int .i64 (v.2.2.2.2:Int))]
def GY:List Value->Option (DataW Unit×List MemPlace)
 | [.int .i64 k,.int .i64 l,.slice A n c]=>some (y5 (k,l,A,n,c),[])
 |_=>none
def F0:Value->Option (DataW Unit×List MemPlace)
 | .agg cells=>GY cells.toList
 |_=>none
theorem DU(v:List Value)(d:DataW Unit)(ps:List MemPlace)(e:PgV)(h:GY v=some (d,ps))(hd:d=y5 e):v=[.int .i64 e.1,.int .i64 e.2.1,.slice e.2.2.1 e.2.2.2.1 e.2.2.2.2]:=by
 unfold GY at h
 split at h
 rename_i k l A n c
 injection h with h
 injection h with h _
 rw[hd] at h
 obtain⟨e1,e2,e3,e4,e5⟩:=e
 simp only[y5,DataW.agg.injEq,List.cons.injEq,DataW.lit.injEq,Lit.int.injEq,and_true,true_and] at h
 obtain⟨h1,h2,h3,h4,h5⟩:=h
 rw[h1,h2,JJ h3,Int.ofNat.inj h4,Int.ofNat.inj h5]
 cases h
theorem Hh(v:Value)(d:DataW Unit)(ps:List MemPlace)(e:PgV)(h:F0 v=some (d,ps))(hd:d=y5 e):v=Hu e:=by
 unfold F0 at h
 split at h
 rename_i cells
 have h1:=DU _ _ _ _ h hd
 rw[Hu]
 congr 1
 exact Array.toList_inj.1 h1
 cases h
def pgX:Ec PgV where
 enc:=Hu
 dat:=y5
 R:=F0
 e0:=(0,0,none,0,0)
 okE:=fun _=>True
 read:=fun e _=>rfl
 back:=Hh
 ok0:=trivial
def jx(os:List Int)(e:EdT):List Int:=if e.1∈os then os else os++[e.1]
def cD(l:List EdT):List Int:=l.foldl jx []
def eP(N:Int->PgS)(e:EdT):Int->PgS:=fun n=>if n=e.1 then doV (N e.1) e 1 else N n
def bo(cur:Int->PgS)(l:List EdT):Int->PgS:=l.foldl eP cur
def cQ(N:Int->PgS):List EdT->Int
 | []=>0
 |e::l=>if doE (N e.1) e 1=0 then cQ (eP N e) l else doE (N e.1) e 1
theorem s6(l:List EdT)(e:EdT):cD (l++[e])=jx (cD l) e:=by rw[cD,List.foldl_append];rfl
theorem xZ(cur:Int->PgS)(l:List EdT)(e:EdT):bo cur (l++[e])=eP (bo cur l) e:=by rw[bo,List.foldl_append];rfl
theorem Bl(l1:List EdT):∀(N:Int->PgS) (l2:List EdT),cQ N l1=0->cQ N (l1++l2)=cQ (bo N l1) l2:=by
 induction l1 with
 |nil=>intro N l2 _;rfl
 |cons e l ih=>
  intro N l2 h
  rw[cQ] at h
  rw[List.cons_append,cQ]
  split at h
  rename_i h0
  rw[if_pos h0]
  exact ih _ _ h
  rename_i h0;exact absurd h h0
theorem ig{l:List EdT}{j:Nat}{e:EdT}(h:l[j]? =some e):l.take (j+1)=l.take j++[e]:=by rw[List.take_add_one,h];rfl
theorem x7{N:Int->PgS}{l:List EdT}{j:Nat}{e:EdT}(he:l[j]? =some e)(h:cQ N (l.take j)=0)(h0:doE (bo N (l.take j) e.1) e 1=0):cQ N (l.take (j+1))=0:=by
 rw[ig he,Bl _ _ _ h,cQ,if_pos h0];rfl
theorem sZ{N:Int->PgS}{l:List EdT}{j:Nat}{e:EdT}(he:l[j]? =some e)(h:cQ N (l.take j)=0)(h0:doE (bo N (l.take j) e.1) e 1≠0):cQ N l=doE (bo N (l.take j) e.1) e 1:=by
 obtain⟨hj,rfl⟩:=List.getElem?_eq_some_iff.1 he
 have e1:l=l.take j++l[j]::l.drop (j+1):=by rw[<-List.drop_eq_getElem_cons hj,List.take_append_drop]
 conv=>lhs;rw[e1]
 rw[Bl _ _ _ h,cQ,if_neg h0]
theorem l3(l:List EdT):(cD l).length<=l.length:=by
 have h:∀(l:List EdT) (os:List Int),(l.foldl jx os).length<=os.length+l.length:=by
  intro l
  induction l with
  |nil=>intro os;exact Nat.le_refl _
  |cons e l ih=>
   intro os
   refine Nat.le_trans (ih _) ?_
   unfold jx
   split
   simp only[List.length_cons];omega
   simp only[List.length_cons,List.length_append,List.length_nil];omega
 have:=h l []
 simpa[cD] using this
theorem kq{l:List EdT}{n:Int}:n∈cD l<->∃e∈l,e.1=n:=by
 have h:∀(l:List EdT) (os:List Int),n∈l.foldl jx os<->(n∈os\/∃e∈l,e.1=n):=by
  intro l
  induction l with
  |nil=>intro os;simp
  |cons e l ih=>
   intro os
   rw[List.foldl_cons,ih]
   unfold jx
   split
   rename_i h1
   constructor
   rintro(h|⟨x,hx,hn⟩)
   exact .inl h
   exact .inr ⟨x,List.mem_cons_of_mem _ hx,hn⟩
   rintro(h|⟨x,hx,hn⟩)
   exact .inl h
   rcases List.mem_cons.1 hx with rfl|hx
   exact .inl (hn ▸ h1)
   exact .inr ⟨x,hx,hn⟩
   rw[List.mem_append,List.mem_singleton]
   constructor
   rintro((h|h)|⟨x,hx,hn⟩)
   exact .inl h
   exact .inr ⟨e,List.mem_cons_self,h.symm⟩
   exact .inr ⟨x,List.mem_cons_of_mem _ hx,hn⟩
   rintro(h|⟨x,hx,hn⟩)
   exact .inl (.inl h)
   rcases List.mem_cons.1 hx with rfl|hx
   exact .inl (.inr hn.symm)
   exact .inr ⟨x,hx,hn⟩
 have:=h l []
 simpa[cD] using this
theorem Ew(l:List EdT):(cD l).Nodup:=by
 have h:∀(l:List EdT) (os:List Int),os.Nodup->(l.foldl jx os).Nodup:=by
  intro l
  induction l with
  |nil=>intro os h;exact h
  |cons e l ih=>
   intro os h
   refine ih _ ?_
   unfold jx
   split
   exact h
   rename_i h1
   rw[List.nodup_append]
   exact⟨h,by simp,fun a ha b hb e2=>h1 (by rw[<-List.mem_singleton.1 hb,<-e2];exact ha)⟩
 exact h l [] List.nodup_nil
def d7(n:Nat)(e:EdT):Bool:=decide (e.1<0)||decide ((n:Int)<=e.1)
def lx{α:Type}(p:α->Bool)(k:Int):List α->Int
 | []=> -1
 |x::l=>if p x then k else lx p (k+1) l
theorem Bj{α:Type}{p:α->Bool}{l:List α}{x:α}{k:Nat}(h:l[k]? =some x):lx p (k:Int) (l.drop k)=if p x then (k:Int) else lx p ((k+1:Nat):Int) (l.drop (k+1)):=by
 obtain⟨hk,rfl⟩:=List.getElem?_eq_some_iff.1 h
 rw[List.drop_eq_getElem_cons hk,lx];rfl
theorem GL{α:Type}(p:α->Bool)(l:List α):∀k:Int,0<=k->decide (0<=lx p k l)=l.any p:=by
 induction l with
 |nil=>intro k _;rfl
 |cons x l ih=>
  intro k hk
  rw[lx,List.any_cons]
  cases p x with
  |true=>rw[if_pos rfl,Bool.true_or];exact decide_eq_true hk
  |false=>rw[if_neg (by decide),Bool.false_or];exact ih (k+1) (by omega)
theorem Ki(n:Nat)(x:Int)(sl:Int)(s:ByteArray):(if decide (x<0)=true then true else decide ((n:Int)<=x))=d7 n (x,sl,s):=by
 unfold d7;cases decide (x<0)<;>rfl
theorem Gq(x sl:Int)(s:ByteArray)(q sb db:Nat)(S:StM)(w:World)(hbq:Blk w q 31 #[po sb 0])(be:km w sb db S):
  Calls Tryz.prog 54 #[.agg #[.int .i64 x,.int .i64 sl,.string s],po q 0] w (Ret (.bool (d7 S.D.pgs.length (x,sl,s))) w):=by
 go_enter Tryz.func54,Tryz.ntmps54
 have ak:=St.start w
 refine wq (sqr ?_)
 refine bY #[vi x,vi sl,.string s] ak fun bA W1 aA=>?_
 refine sqp [.k 3 (.bool false)] ?_
 refine aa (wq (bR [0,1,3,7,15,31,15,79,255,511,1023] [[],[0],[],[],[],[0]] [.k 4 (vp bA),.c 5 (vi x),.k 6 (.bool (decide (x<0))),.k 7 (.bool (decide (x<0))),.z 8 (!(decide (x<0))) (vp bA),.y 9 (!(decide (x<0))) (vi x),.y 10 (!(decide (x<0))) (vp sb),.y 11 (!(decide (x<0))) (vi ((S.D.pgs.length:Int))),.z 12 (!(decide (x<0))) (.bool (decide ((S.D.pgs.length:Int)<=x))),tO 13 (decide (x<0)) (decide ((S.D.pgs.length:Int)<=x)),.k 3 (.bool ((decide (x<0))||(decide ((S.D.pgs.length:Int)<=x))))] [0] [1,5,6,7] [(3,10,1,4),(0,0,10,10)] aA ?_ fun W3 aV=>?_))
 refine⟨?_,?_,?_,?_,trivial⟩
 exact xs4 rfl id fun cx=>ae rfl (by kernel_rfl) (cx.an 0) ((cx.bi 0 rfl).cell 0)
 exact m2 rfl (fun _ _ _ h=>h) (fun cx=>(cx.an 3)) fun cx hq=>ae rfl (by kernel_rfl) (mbv (cx.an 4) hq) ((cx.bi 0 rfl).cell 0)
 exact m2 rfl (fun _ _ _ h=>h) (fun cx=>(cx.an 3)) fun cx hq=>ae rfl (by kernel_rfl) (cx.ou 1) ((Blk.ext hbq cx.upd.to_ext).cell 0)
 exact m3 rfl (fun _ _ _ h=>h) (fun cx=>(cx.an 3)) fun cx hq=>⟨_,_,al (args:=#[vp sb]) rfl cx.sees rfl (by kernel_rfl) (aw (mbv (cx.an 6) hq)),oP sb db S _ (km.ext be cx.upd.to_ext)⟩
 refine aa (wp_ret ?_)
 refine bpr (.bool ((decide (x<0))||(decide ((S.D.pgs.length:Int)<=x)))) (ag Tryz.results54 rpt) ?_
 exact Ret.bool (by rw[<-Ki];simp) aV.ext
theorem Di(A:Option Addr)(c:Nat)(l:List EdT)(f0:FuncId)(cap:Array Value)(p:EdT->Bool)(w:World)(hA:At w A (l.flatMap edC))(hl:l.length<=100000)(hcf:gN Tryz.prog f0=true)(hf:∀(W:World) (k:EdT),Ext w W->Calls Tryz.prog f0 (#[.agg #[.int .i64 k.1,.int .i64 k.2.1,.string k.2.2]]++cap) W (Ret (.bool (p k)) W)):
  Calls Tryz.prog 117 #[.slice A l.length c,.func (.func f0) #[] cap] w (Ret (.int .i64 (lx p 0 l)) w):=by
 go_enter Tryz.func117,Tryz.ntmps117
 have ak:=St.start w
 refine wq (sqr (sqp [.k 4 (vi 0)] ?_))
 refine aa (wq (wq (sqr (sqp [.m 6 0,.k 7 (vi ((l.length:Int))),.k 8 (vi 0)] ?_))))
 refine aa (wp_block ?_)
 refine aT (fun t_ mz az W=>∃k:Nat,k<=l.length/\lx p 0 l=lx p (k:Int) (l.drop k)/\mz=l.length-k/\az=⟨(ovr (jv az) [(4,4,2,[]),(2,8,0,[vi ((k:Int))]),(0,9,10,[])] t_).toArray,[]⟩/\St w [] [] W) (l.length-0) ?_ ?_
 exact⟨0,Nat.zero_le _,rfl,rfl,(by kernel_rfl),ak.pk []⟩
 rintro n5 a5 W5 ⟨k,hk,hkr,rfl,hj_,aR⟩
 refine ovz hj_ fun xe=>?_
 refine wq (sqr (sqp [.k 9 (.bool (decide ((k:Int)<(l.length:Int))))] ?_))
 refine aa (wq (wds (fun fD nL=>?_) fun fD nL=>?_))
 refine wp_skip (aa (wq (wp_block (wq (sqr (sqp [.m 10 8,.m 5 10] ?_))))))
 refine aa (wq ?_)
 obtain⟨ep,es,eb,hek⟩:=kP (l:=l) (k:=k) (by omega)
 refine sqr (sqp [.m 11 1,.m 12 0,.m 13 5] ?_)
 refine sql (.pointer (some ((ad A).add (k*3)))) aR (fun cx=>aG (e:=84) (m:=k) (sz:=3) rfl (by kernel_rfl) (by kernel_rfl) (cx.ou 12) (cx.ou 13) (by omega) (by omega) (hA.ext cx.upd.to_ext) (bp (sz:=3) bH (by decide) (by omega))) ?_
 refine sql (.agg #[vi ep,vi es,.string eb]) aR (fun cx=>bQ (f:=edC) (m:=k) (sz:=3) (off:=0) (n:=3) rfl (by kernel_rfl) (by kernel_rfl) (cx.ou 14) rfl bH (hA.ext cx.upd.to_ext) hek (fun k hk=>match k,hk with|0,_=>rfl|1,_=>rfl|2,_=>rfl|k+3,hk=>absurd hk (by omega))) ?_
 refine sqv (.bool ((p (ep,es,eb)))) aR (hH rfl rfl rfl rfl rfl (fun _ _ _ h=>h) fun b a W X cx=>⟨_,_,cL (f:=f0) (args:=#[.agg #[vi ep,vi es,.string eb]]) (args':=#[.agg #[vi ep,vi es,.string eb]]++cap) rfl rfl (cx.ou 11) hcf (aw (cx.ou 15)) (by rw[Array.empty_append]),(by have h9:=hf W (ep,es,eb) cx.upd.to_ext;dsimp only at h9;exact h9)⟩) fun zj fw=>?_
 refine aa (wbs (fun dd=>?_) fun dd=>?_)
 refine wq (sqr (sqp [.m 17 5,.m 4 17] ?_))
 refine aa (wp_ret (ba (aj (aj (ba (aj ?_))))))
 refine bpr (vi ((k:Int))) (ag Tryz.results117 rpt) ?_
 exact Ret.of (by rw[hkr,Bj hek,dd];rfl) fw.ext
 refine wp_skip (av (aa (sqr (sqp [sI 18 ((k:Int)+1) (by omega),.m 8 18] ?_))))
 refine aa ?_
 refine⟨l.length-((k+1)),by omega,?_⟩
 exact⟨(k+1),by omega,by rw[hkr,Bj hek,dd];rfl,rfl,(by kernel_rfl),fw.pk []⟩
 refine wp_exit (aq (aq (bj (aa (wq (sqr (sqp [.k 4 (vi (-1))] ?_)))))))
 refine aa (wp_ret ?_)
 refine bpr (vi (-1)) (ag Tryz.results117 rpt) ?_
 exact Ret.of (by rw[hkr,List.drop_of_length_le (by omega)];rfl) aR.ext
theorem Dy(A:Option Addr)(c:Nat)(l:List EdT)(f0:FuncId)(cap:Array Value)(p:EdT->Bool)(w:World)(hA:At w A (l.flatMap edC))(hl:l.length<=100000)(hcf:gN Tryz.prog f0=true)(hf:∀(W:World) (k:EdT),Ext w W->Calls Tryz.prog f0 (#[.agg #[.int .i64 k.1,.int .i64 k.2.1,.string k.2.2]]++cap) W (Ret (.bool (p k)) W)):
  Calls Tryz.prog 53 #[.slice A l.length c,.func (.func f0) #[] cap] w (Ret (.bool (l.any p)) w):=by
 go_enter Tryz.func53,Tryz.ntmps53
 have ak:=St.start w
 refine wq (sqr (sqp [.k 4 (.bool false)] ?_))
 refine aa (wq (sqr (sqp [.m 5 0,.m 6 1] ?_)))
 refine sqv (vi ((lx p 0 l))) ak (hH rfl rfl rfl rfl rfl (fun _ _ _ h=>h) fun b a W X cx=>⟨_,_,al (args:=#[.slice A l.length c,.func (.func f0) #[] cap]) rfl cx.sees rfl (by kernel_rfl) (aN (cx.ou 5) (cx.ou 6)),Di _ _ l _ _ p _ (hA.ext cx.upd.to_ext) hl hcf (fun W k hW=>hf W k (cx.upd.to_ext.trans hW))⟩) fun W4 bb=>?_
 refine sqp [.k 8 (.bool (decide (0<=(lx p 0 l)))),.m 4 8] ?_
 refine aa (wp_ret ?_)
 refine bpr (.bool (decide (0<=(lx p 0 l)))) (ag Tryz.results53 rpt) ?_
 exact Ret.of (by rw[<-GL _ _ 0 (by omega)]) bb.ext
end
section
open Go.RowKit Go.Maps Go.ChangeMaps
noncomputable def fX(S:StM)(n:Int):RecM:=⟨8,0,n,[],aI (aH S n)⟩
def eE(S:StM)(os:List Int):List Int:=os.filter fun n=>!(S.im n).getD false
def rcI(r:RecM):RcT:=⟨r,none,0⟩
noncomputable def icC(S:StM)(n:Int):List Value:=rcC (rcI (fX S n))
theorem Bm(S:StM)(n:Int):(icC S n).length=8:=rfl
noncomputable def fe(S:StM)(os:List Int):List RecM:=(eE S os).map (fX S)
def ip(l:Int)(p:PgS):PgS:=(p.1,l,p.2.2)
def npV(p:PgS)(pg:PgR):PgV:=(p.1,p.2.1,pg.A,p.2.2.length,pg.c)
noncomputable def ez(S:StM)(r:RecM):Int:=(S.recs.length:Int)+((eE S (cD r.eds)).length:Int)+1
theorem pS(S:StM)(os:List Int)(n:Int):eE S (os++[n])=if (S.im n).getD false=true then eE S os else eE S os++[n]:=by
 rw[eE,List.filter_append]
 cases h:(S.im n).getD false
 rw[if_neg (by decide),List.filter_cons_of_pos (by rw[h];rfl)];rfl
 rw[if_pos rfl,List.filter_cons_of_neg (by rw[h];decide),List.filter_nil,List.append_nil];rfl
theorem o5(S:StM)(os:List Int):(eE S os).length<=os.length:=List.length_filter_le _ _
theorem si{S:StM}{os:List Int}{n:Int}(h:n∈eE S os):n∈os:=(List.mem_filter.1 h).1
theorem iB{S:StM}{c:Nat}(h:SOk S c)(n:Int):bI (aH S n):=by
 unfold aH
 split
 rename_i t ht;exact h.right t (List.mem_of_find?_eq_some ht)
 exact se _
theorem jB{cur:Int->PgS}{l:List EdT}(hc:∀n,bI (cur n))(h:cQ cur l=0)(n:Int):bI (bo cur l n):=by
 induction l generalizing cur with
 |nil=>exact hc n
 |cons e l ih=>
  rw[cQ] at h
  split at h
  rename_i h0
  refine ih (fun m=>?_) h
  unfold eP
  split
  exact ki h0
  exact hc m
  rename_i h0;exact absurd h h0
structure DoI (cur N:Int->PgS) (lsn:Int) (os:List Int) (mW mN:Int->Option PgV) (rows:List PgR) (ex:Option Int):Prop where
 w:∀n∈os,∃pg∈rows,mW n=some (npV (cur n) pg)/\pg.p.2.2=(cur n).2.2
 n:∀n∈os,∃pg∈rows,mN n=some (npV (N n) pg)/\pg.p.2.2=(N n).2.2/\(ex≠some n->pg.p=ip lsn (N n))
 no:∀n,n∉os->mW n=none/\mN n=none/\N n=cur n
theorem DoI.init(cur:Int->PgS)(lsn:Int)(rows:List PgR):DoI cur cur lsn [] (fun _=>none) (fun _=>none) rows none:=⟨fun n h=>(by cases h),fun n h=>(by cases h),fun n _=>⟨rfl,rfl,rfl⟩⟩
theorem DoI.mono{cur N:Int->PgS}{lsn:Int}{os:List Int}{mW mN:Int->Option PgV}{rows rows':List PgR}{ex:Option Int}(h:DoI cur N lsn os mW mN rows ex)(hr:∀r∈rows,r∈rows'):DoI cur N lsn os mW mN rows' ex:=
 ⟨fun n hn=>let ⟨pg,a,b⟩:=h.w n hn;⟨pg,hr pg a,b⟩,fun n hn=>let ⟨pg,a,b⟩:=h.n n hn;⟨pg,hr pg a,b⟩,h.no⟩
theorem mu{os:List Int}{e:EdT}(h:e.1∈os):jx os e=os:=if_pos h
theorem kr{os:List Int}{e:EdT}(h:e.1∉os):jx os e=os++[e.1]:=if_neg h
theorem Dz(os:List Int)(e:EdT):e.1∈jx os e:=by
 by_cases h:e.1∈os
 rw[mu h];exact h
 rw[kr h];exact List.mem_append_right _ (List.mem_singleton.2 rfl)
theorem DoI.mem{cur N:Int->PgS}{lsn:Int}{os:List Int}{mW mN:Int->Option PgV}{rows:List PgR}{ex:Option Int}(h:DoI cur N lsn os mW mN rows ex){n:Int}:((mW n).isSome=true<->n∈os):=by
 constructor
 intro h1
 refine Classical.byContradiction fun hn=>?_
 rw[(h.no n hn).1] at h1
 cases h1
 intro hn
 obtain⟨pg,_,h2,_⟩:=h.w n hn
 rw[h2];rfl
theorem DoI.old{cur N:Int->PgS}{lsn:Int}{os:List Int}{mW mN:Int->Option PgV}{rows:List PgR}(h:DoI cur N lsn os mW mN rows none)(e:EdT)(hs:(mW e.1).isSome=true):DoI cur N lsn (jx os e) mW mN rows (some e.1):=by
 rw[mu (h.mem.1 hs)]
 exact⟨h.w,fun n hn=>let ⟨pg,a,b,c,d⟩:=h.n n hn;⟨pg,a,b,c,fun _=>d (by simp)⟩,h.no⟩
theorem DoI.new{cur N:Int->PgS}{lsn:Int}{os:List Int}{mW mN:Int->Option PgV}{rows:List PgR}(h:DoI cur N lsn os mW mN rows none)(e:EdT)(hs:(mW e.1).isSome=false){q:PgS}(hq:q=cur e.1)(A:Option Addr)(c:Nat):
  DoI cur N lsn (jx os e) (cd mW e.1 (some (q.1,q.2.1,A,q.2.2.length,c))) (cd mN e.1 (some (q.1,q.2.1,A,q.2.2.length,c))) (rows++[⟨q,A,c⟩]) (some e.1):=by
 have hn:e.1∉os:=fun hm=>by rw[h.mem.2 hm] at hs;cases hs
 rw[kr hn]
 subst hq
 refine⟨fun n hm=>?_,fun n hm=>?_,fun n hm=>?_⟩
 by_cases e1:n=e.1
 subst e1;exact⟨_,List.mem_append_right _ (List.mem_singleton.2 rfl),if_pos rfl,rfl⟩
 obtain⟨pg,a,b⟩:=h.w n ((List.mem_append.1 hm).elim id fun h=>absurd (List.mem_singleton.1 h) e1)
 exact⟨pg,List.mem_append_left _ a,by rw[cd,if_neg e1];exact b.1,b.2⟩
 by_cases e1:n=e.1
 subst e1
 exact⟨_,List.mem_append_right _ (List.mem_singleton.2 rfl),by rw[cd,if_pos rfl,npV,(h.no _ hn).2.2],by rw[(h.no _ hn).2.2],fun h=>absurd rfl h⟩
 obtain⟨pg,a,b,c,d⟩:=h.n n ((List.mem_append.1 hm).elim id fun h=>absurd (List.mem_singleton.1 h) e1)
 exact⟨pg,List.mem_append_left _ a,by rw[cd,if_neg e1];exact b,c,fun _=>d (by simp)⟩
 have h1:n∉os:=fun h2=>hm (List.mem_append_left _ h2)
 have e1:n≠e.1:=fun h2=>hm (List.mem_append_right _ (List.mem_singleton.2 h2))
 obtain⟨a,b,c⟩:=h.no n h1
 exact⟨by rw[cd,if_neg e1];exact a,by rw[cd,if_neg e1];exact b,c⟩
theorem DoI.edit{cur N:Int->PgS}{lsn:Int}{os:List Int}{mW mN:Int->Option PgV}{rows:List PgR}{e:EdT}(h:DoI cur N lsn os mW mN rows (some e.1))(hm:e.1∈os){q:PgS}(hq:q=doV (N e.1) e 1)(A:Option Addr)(c:Nat):
  DoI cur (eP N e) lsn os mW (cd mN e.1 (some (q.1,q.2.1,A,q.2.2.length,c))) (rows++[⟨ip lsn q,A,c⟩]) none:=by
 subst hq
 refine⟨fun n hn=>let ⟨pg,a,b⟩:=h.w n hn;⟨pg,List.mem_append_left _ a,b⟩,fun n hn=>?_,fun n hn=>?_⟩
 by_cases e1:n=e.1
 subst e1
 have e2:eP N e e.1=doV (N e.1) e 1:=if_pos rfl
 exact⟨_,List.mem_append_right _ (List.mem_singleton.2 rfl),by rw[cd,if_pos rfl,npV,e2],by rw[e2];rfl,fun _=>by rw[e2]⟩
 obtain⟨pg,a,b,c,d⟩:=h.n n hn
 have e2:eP N e n=N n:=if_neg e1
 exact⟨pg,List.mem_append_left _ a,by rw[cd,if_neg e1,e2];exact b,by rw[e2];exact c,fun _=>by rw[e2];exact d (fun h=>e1 (Option.some.inj h).symm)⟩
 obtain⟨a,b,c⟩:=h.no n hn
 have e1:n≠e.1:=fun h2=>hn (h2 ▸ hm)
 exact⟨a,by rw[cd,if_neg e1];exact b,by rw[eP,if_neg e1];exact c⟩
inductive ApI:StM->List RecM->StM->Int->Prop where
 |nil (S:StM):ApI S [] S 0
 |bad {S:StM}{r:RecM}{l:List RecM}(q:List RcT) (h:(bv {S with rr:=q} (rcI r)).2≠0):ApI S (r::l) (bv {S with rr:=q} (rcI r)).1 (bv {S with rr:=q} (rcI r)).2
 |cons {S S2:StM}{r:RecM}{l:List RecM}{er:Int}(q:List RcT) (h:(bv {S with rr:=q} (rcI r)).2=0) (hr:ApI (imS (bv {S with rr:=q} (rcI r)).1 r.tbl) l S2 er):ApI S (r::l) S2 er
inductive PuA (cur N:Int->PgS) (lsn:Int):StM->List Int->StM->Int->Prop where
 |nil (S:StM):PuA cur N lsn S [] S 0
 |bad {S S2:StM}{n er:Int}{l:List Int}{pg:PgR}(hp:pg.p=ip lsn (N n)) (h:eh (if (cur n).1≠0/\(N n).1=0 then eF S n false else S) n pg S2 er) (he:er≠0):PuA cur N lsn S (n::l) S2 er
 |cons {S S1 S2:StM}{n er:Int}{l:List Int}{pg:PgR}(hp:pg.p=ip lsn (N n)) (h:eh (if (cur n).1≠0/\(N n).1=0 then eF S n false else S) n pg S1 0) (hr:PuA cur N lsn S1 l S2 er):PuA cur N lsn S (n::l) S2 er
def DoA(r:RecM):Prop:=bz r=true/\r.kind≠8/\r.kind≠9
noncomputable def jW(S:StM)(r:RecM):Nat:=S.D.log.size+((aB r).size+szF (fe S (cD r.eds)))
inductive DoQ (S:StM) (r:RecM):StM->Int->Int->Prop where
 |arg (h:¬DoA r):DoQ S r S 0 1
 |page {S':StM}(h:DoA r) (hp:r.eds.any (d7 S.D.pgs.length)=true) (he:Ev S S'):DoQ S r S' 0 22
 |pow {S':StM}(h:DoA r) (hp:r.eds.any (d7 S.D.pgs.length)=false) (he:Ev S S') (ho:S'.D.off=true):DoQ S r S' 0 24
 |err {S':StM}(h:DoA r) (hp:r.eds.any (d7 S.D.pgs.length)=false) (he:Ev S S') (h0:cQ (aH S) r.eds≠0):DoQ S r S' 0 (cQ (aH S) r.eds)
 |full {S':StM}(h:DoA r) (hp:r.eds.any (d7 S.D.pgs.length)=false) (he:Ev S S') (h0:cQ (aH S) r.eds=0) (hf:1048576<jW S r):DoQ S r S' 0 31
 |img {S1 S2:StM}{er:Int}(h:DoA r) (hp:r.eds.any (d7 S.D.pgs.length)=false) (he:Ev S S1) (hk:∃c,SOk S1 c) (h0:cQ (aH S) r.eds=0) (hf:jW S r<=1048576) (hi:ApI S1 (fe S (cD r.eds)) S2 er) (hn:er≠0):DoQ S r S2 0 er
 |app {S1 S2:StM}{rt:RcT}(h:DoA r) (hp:r.eds.any (d7 S.D.pgs.length)=false) (he:Ev S S1) (hk:∃c,SOk S1 c) (h0:cQ (aH S) r.eds=0) (hf:jW S r<=1048576) (hi:ApI S1 (fe S (cD r.eds)) S2 0) (hr:rt.r=r) (hn:(bv S2 rt).2≠0):DoQ S r (bv S2 rt).1 0 (bv S2 rt).2
 |put {S1 S2 S3:StM}{rt:RcT}{er:Int}(h:DoA r) (hp:r.eds.any (d7 S.D.pgs.length)=false) (he:Ev S S1) (hk:∃c,SOk S1 c) (h0:cQ (aH S) r.eds=0) (hf:jW S r<=1048576) (hi:ApI S1 (fe S (cD r.eds)) S2 0) (hr:rt.r=r) (ha:(bv S2 rt).2=0)
   (hu:PuA (aH S) (bo (aH S) r.eds) (ez S r) (bv S2 rt).1 (cD r.eds) S3 er):DoQ S r S3 (if er=0 then ez S r else 0) er
def fF(sb db:Nat)(S:StM)(r:RecM)(c:Nat)(fp:List Nat)(w:World)(e:Ending)(w':World):Prop:=∃n er,e= .returned (.tuple #[.int .i64 n,.int .i64 er])/\∃fp',St w fp [eSx sb db (fun S2=>DoQ S r S2 n er/\SOk S2 (c+700)) fp'] w'
theorem fF.of{sb db:Nat}{S S2:StM}{r:RecM}{c:Nat}{n er:Int}{fp fp':List Nat}{w w':World}(h:DoQ S r S2 n er)(ho:SOk S2 (c+700))(hs:St w fp ([]++[eSt sb db S2 fp']) w'):fF sb db S r c fp w (.returned (.tuple #[.int .i64 n,.int .i64 er])) w':=⟨n,er,rfl,fp',St.sx (L:=[]) hs ⟨h,ho⟩⟩
theorem SOk.rr{S:StM}{c:Nat}(h:SOk S c)(q:List RcT):SOk {S with rr:=q} c:=⟨h.bufs,h.pgs,h.ws,h.time,h.ni,h.nt,h.right,h.nodup,h.len,h.keys,h.recs,h.log,h.lsz,h.fl,h.cl⟩
theorem Ev.rr(S:StM)(q:List RcT):Ev S {S with rr:=q}:=⟨rfl,rfl,rfl,rfl,rfl,fun r h=>h,rfl,rfl,.inl rfl,rfl,id,fun _=>rfl,fun j x y hx hy=>by have hy:S.D.pgs[j]? =some y:=hy;rw[hx] at hy;cases hy;exact⟨rfl,[],by simp,fun z hz=>by cases hz⟩,fun m _=>rfl⟩
theorem Ev.rows'(S:StM)(pg:PgR):Ev S (jP S pg):=⟨rfl,rfl,rfl,rfl,rfl,fun r h=>List.mem_append_left _ h,rfl,rfl,.inl rfl,rfl,id,fun _=>rfl,fun j x y hx hy=>by have hy:S.D.pgs[j]? =some y:=hy;rw[hx] at hy;cases hy;exact⟨rfl,[],by simp,fun z hz=>by cases hz⟩,fun m _=>rfl⟩
theorem Gm{W:World}{sb db:Nat}{S:StM}{fp:List Nat}(h:(eSt sb db S fp).holds W){r:PgR}(hr:r∈S.rows):At W r.A (r.p.2.2.map Value.string):=by
 obtain⟨_,mb,RA,rc,EA,ec,ib,tb,fpd,_,_,h3⟩:=h
 exact i6 (h3 (eM (S.rows.map dH)) (by simp[stL])).1 hr
theorem m8{S:StM}{c:Nat}{n:Int}(h:SOk S c)(hn:0<=n/\n<(S.D.pgs.length:Int)):bz (fX S n)=true:=by
 have h1:=dA (iB h n)
 have h2:=h.pgs
 have a1:inB n 0 65535=true:=by unfold inB;rw[Bool.and_eq_true,decide_eq_true_eq,decide_eq_true_eq];omega
 have a2:decide (((aI (aH S n)).size:Int)<=60000)=true:=decide_eq_true (by omega)
 show (inB 8 1 10&&(inB 0 0 127&&(inB n 0 65535&&(decide ((([]:List EdT).length:Int)<=64)&&((([]:List EdT).all edR)&&decide (((aI (aH S n)).size:Int)<=60000))))))=true
 rw[a1,a2];decide
theorem kU{l:List EdT}{n:Nat}(h:l.any (d7 n)=false){e:EdT}(he:e∈l):0<=e.1/\e.1<(n:Int):=by
 have h1:=(List.any_eq_false.1 h) e he
 unfold d7 at h1
 simp only[Bool.or_eq_true,decide_eq_true_eq,not_or] at h1
 omega
theorem DJ(S:StM)(os:List Int)(n:Int)(h:(S.im n).getD false=false):szF (fe S (os++[n]))=szF (fe S os)+(aB (fX S n)).size:=by
 rw[fe,pS,if_neg (by rw[h];decide),List.map_append];exact oE _ _
theorem Db(S:StM)(os:List Int)(n:Int)(h:(S.im n).getD false=true):eE S (os++[n])=eE S os:=by rw[pS,if_pos h]
theorem Hx(S:StM)(os:List Int)(n:Int)(h:(S.im n).getD false=false):eE S (os++[n])=eE S os++[n]:=by rw[pS,if_neg (by rw[h];decide)]
theorem Bq(os:List Int)(n:Int):os.map (Value.int .i64)++[.int .i64 n]=(os++[n]).map (Value.int .i64):=by rw[List.map_append];rfl
theorem JM(S:StM)(os:List Int)(n:Int):os.flatMap (icC S)++icC S n=(os++[n]).flatMap (icC S):=by rw[List.flatMap_append];simp
theorem E8{k l l2:Int}{ss:List ByteArray}(h:bw k l ss=true)(hl:0<=l2/\l2<=2147483647):bw k l2 ss=true:=by
 unfold bw at h |-
 simp only[Bool.and_eq_true,decide_eq_true_eq] at h |-
 obtain⟨a,b,_,_,d⟩:=h
 exact⟨a,b,hl.1,hl.2,d⟩
theorem lK{p:PgS}{l:Int}(h:bI p)(hl:0<=l/\l<=2147483647):bI (ip l p):=⟨E8 h.1 hl,h.2⟩
theorem SOk.recs_len{S:StM}{c:Nat}(h:SOk S c):S.recs.length<=1048576:=by
 have h1:=nU h.recs
 have h3:=congrArg ByteArray.size h.log
 rw[cw] at h3
 have h2:S.L.length=S.recs.length:=List.length_map ..
 have:=h.lsz
 omega
theorem eh.rows{S S2:StM}{n er:Int}{pg:PgR}(h:eh S n pg S2 er):∀p∈S.rows,p∈S2.rows:=by
 obtain⟨S1,h1,⟨_,rfl⟩|⟨_,_,rfl⟩⟩:=h
 exact h1.rows.1
 exact h1.rows.1
theorem jD(S:StM)(rt:RcT):(bv S rt).1.rows=S.rows/\(bv S rt).1.rr=S.rr/\(bv S rt).1.im=S.im/\(bv S rt).1.told=S.told/\(bv S rt).1.pool=S.pool/\(bv S rt).1.D.pgs=S.D.pgs/\(bv S rt).1.D.fl=S.D.fl:=by
 obtain⟨a,b⟩:=Ba S rt.r
 unfold bv
 split<;>exact⟨rfl,rfl,rfl,rfl,rfl,a,b⟩
theorem wZ{S:StM}{rt:RcT}(h:(bv S rt).2=0):(bv S rt).1.recs=S.recs++[rt]:=by
 unfold bv at h |-
 split
 rename_i h1;rw[if_pos h1] at h;exact absurd h h1
 rfl
end
section
open Go.RowKit Go.Maps Go.ChangeMaps
theorem yO{S S2:StM}{n er:Int}{pg:PgR}(h:eh S n pg S2 er)(h0:er=0):eh S n pg S2 0:=h0 ▸ h
theorem JC(sb db:Nat)(S:StM)(r:RecM)(A:Option Addr)(rc:Nat)(c:Nat)(fp:List Nat)(w:World)(hB:(eSt sb db S fp).holds w)(hlt:∀k∈fp,k<w.heap.size)(hok:SOk S c)(hc:c<=800000)(hA:∀W,Upd fp w W->At W A (r.eds.flatMap edC))(hI:r.eds.length<=100000)(hz:∀e∈r.eds,e.2.2.size<=9223372036854775807)(hns:r.note.size<=9223372036854775807):
  Calls Tryz.prog 17 #[po sb 0,.agg #[.int .i64 r.kind,.int .i64 r.xid,.int .i64 r.tbl,sn,sn,.slice A r.eds.length rc,sn,.string r.note]] w (fF sb db S r c fp w):=by
 have st1:St w fp [eSt sb db S fp] w:=St.lend hB (dp _ _ _ _) hlt
 have hpg:=hok.pgs
 go_enter Tryz.func17,Tryz.ntmps17
 have ak:=st1
 refine wq (sqr ?_)
 refine bY #[vp sb] ak fun bA W1 aA=>?_
 refine bY #[vi r.kind,vi r.xid,vi r.tbl,sn,sn,.slice A r.eds.length rc,sn,.string r.note] aA fun cT W2 bC=>?_
 refine sqp [.k 4 (vi 0),.k 5 (vi 0)] ?_
 refine aa (wq (wq (sqr (au 1 bC ?_))))
 refine sqv (.bool false) bC (by
   exact sv0 rfl rfl rfl rfl rfl (fun _ _ _ h=>h) fun d b W X cx=>by
    have PD:d (.tmp 32)=vp sb:=(cx.ou 32)
    simp[go_sem,cx.sees.const,PD]) fun W6 bN=>?_
 refine sqp [.k 34 (.bool false)] ?_
 refine c9 34 [35,36,37] rfl rfl ?_
 refine bE 2 8 bN ?_
 refine sqk (.bool (bz r)) bN (fun cx=>⟨_,lI r.kind r.xid r.tbl _ _ r.eds r.note _ (hA _ cx.upd) (by omega) hz hns,(aw (cx.ou 35))⟩) fun W9 cz=>?_
 refine sqp [.k 37 (.bool (!(bz r)))] ?_
 refine sqp [.k 38 (.bool (!(bz r))),.m 39 38] ?_
 refine dY 39 [40,41,42] ?_ rfl (fun hq=>?_) ?_
 rotate_left
 refine sqp [.k 40 (vp cT)] ?_
 refine au 2 cz ?_
 refine sqp [.k 42 (.bool (r.kind==8))] ?_
 exact sqe
 refine cY ?_
 refine sqp [sPo 43 (!(bz r)) (r.kind==8),.m 44 43] ?_
 refine dY 44 [45,46,47] ?_ rfl (fun hq=>?_) ?_
 rotate_left
 refine sqp [.k 45 (vp cT)] ?_
 refine au 2 cz ?_
 refine sqp [.k 47 (.bool (r.kind==9))] ?_
 exact sqe
 refine cY ?_
 refine sqp [sPo 48 ((!(bz r))||(r.kind==8)) (r.kind==9)] ?_
 refine aa (wbs (fun zG=>?_) fun zG=>?_)
 have xC:=zG
 simp only[zB] at xC
 refine wq (sqr (sqp [.k 4 (vi 0),.k 5 (vi 1)] ?_))
 refine aa (wp_ret (aj ?_))
 refine bpr (.tuple #[vi 0,vi 1]) (aO Tryz.results17 rpt rpt) ?_
 exact fF.of (.arg (fun hh=>by have h_:=zG;have h1:=hh.1;have h2:=hh.2.1;have h3:=hh.2.2;simp_all)) (hok.mono (by omega)) (cz.pick [0] (by decide) rfl)
 have xC:=zG
 simp only[zB] at xC
 obtain⟨⟨QY,QZ⟩,Q0⟩:=xC
 refine wp_skip (aa (wq ?_))
 have hda:DoA r:=by have h_:=zG;simp at h_;exact⟨h_.1.1,h_.1.2,h_.2⟩
 refine sqr ?_
 refine bE 2 8 cz ?_
 refine iA (fun cC cH=> .agg #[vi r.kind,vi r.xid,vi r.tbl,sn,sn,.slice cC r.eds.length cH,sn,.string r.note]) (fun cC cH=>eO 84 3 (.slice cC r.eds.length cH) r.eds.length (r.eds.flatMap edC)) cz (fun cx=>⟨_,(Cs A rc r _ (hA _ cx.upd) hI).mono (by rintro e W1 ⟨A4,c4,rfl,aM⟩;exact⟨_,_,rfl,aM⟩),(aw (cx.ou 49))⟩) fun cC cH xd fv=>?_
 refine aX (n:=8) 2 #[vi r.kind,vi r.xid,vi r.tbl,sn,sn,.slice cC r.eds.length cH,sn,.string r.note] fv fun y7 e6=>?_
 refine aa (wq (wq ?_))
 obtain⟨S0,fp28_,hS0,hg28_⟩:=St.rRn (r:=(⟨r,cC,cH⟩:RcT)) e6.u3
 have hok0:SOk S0 c:=hS0 ▸ hok.rr _
 have hev0:Ev S S0:=hS0 ▸ Ev.rr S _
 have hrt0:(⟨r,cC,cH⟩:RcT)∈S0.rr:=by rw[<-hS0];exact List.mem_append_right _ (List.mem_singleton.2 rfl)
 have OS:S0.D.pgs.length=S.D.pgs.length:=hev0.len
 refine sqr (sqp [.k 51 (po cT 5)] ?_)
 refine au 2 hg28_ ?_
 refine sqv (.func (.func 54) #[] #[vp bA]) hg28_ (by
   exact sv0 rfl rfl rfl rfl rfl (fun _ _ _ h=>h) fun d b W X cx=>by
    have oq:d (.tmp 2)=vp bA:=(cx.ou 2)
    simp[go_sem,Instr.makeFunc,oq]) fun OT nu=>?_
 refine sqk (.bool ((r.eds.any (d7 S0.D.pgs.length)))) nu (fun cx=>⟨_,Dy _ _ r.eds 54 #[vp bA] (d7 S0.D.pgs.length) _ (mg (CtxV.holdF cx (cx.init 0 _ rfl) rfl) hrt0) hI (by kernel_rfl) (fun W2 k hW=>Gq k.1 k.2.1 k.2.2 bA sb db S0 W2 ((cx.bi 1 rfl).ext hW) (km.ext (p5 (CtxV.holdF cx (cx.init 0 _ rfl) rfl)) hW)),(aN (cx.ou 52) (cx.ou 53))⟩) fun zb c6=>?_
 refine aa (wbs (fun pf=>?_) fun pf=>?_)
 refine wq (sqr (sqp [.k 4 (vi 0),.k 5 (vi 22)] ?_))
 refine aa (wp_ret (aj ?_))
 refine bpr (.tuple #[vi 0,vi 22]) (aO Tryz.results17 rpt rpt) ?_
 exact fF.of (.page hda (by rw[<-OS];exact pf) hev0) (hok0.mono (by omega)) (c6.pick [0] (by decide) rfl)
 refine wp_skip (aa (wq ?_))
 have hin:r.eds.any (d7 S.D.pgs.length)=false:=by rw[<-OS];exact pf
 have hro:=em hda.1
 have hml:=hro.many
 refine sqr (sqp [.k 6 (sn)] ?_)
 refine aa (wq (sqr ?_))
 refine d9 (fun x_=>pbx x_) (fun iM=> .map (some iM)) (fun iM=>eMx kcI pgX Tryz.prog 3 iM 0 (fun _=>none)) c6 (by
   refine svA fun d b W X cx=>?_
   exact k9 rfl rfl rfl rfl (fun _ _ _ _ _=> .intro)) fun iM IL gQ=>?_
 refine d9 (fun x_=>pbx x_) (fun g0=> .map (some g0)) (fun g0=>eMx kcI pgX Tryz.prog 3 g0 0 (fun _=>none)) gQ (by
   refine svA fun d b W X cx=>?_
   exact k9 rfl rfl rfl rfl (fun _ _ _ _ _=> .intro)) fun g0 Fg iu=>?_
 refine sqp [.m 7 55,.m 8 56] ?_
 refine aa (wq (wq (sqr (sqp [.k 57 (po cT 5)] ?_))))
 refine au 2 iu ?_
 refine sqp [.k 59 (vi ((r.eds.length:Int))),.k 60 (vi 0)] ?_
 refine aa (wp_block ?_)
 have hn45:=St.nilrow iu 3
 simp only[List.cons_append,List.nil_append] at hn45
 refine aT (fun t_ mz az W=>∃j:Nat,∃os:List Int,∃m:Nat,∃OA:Option Addr,∃oc:Nat,∃Sj:StM,∃fpj:List Nat,∃mW:Int->Option PgV,∃nW:Nat,∃mN:Int->Option PgV,∃nN:Nat,j<=r.eds.length/\os=cD (r.eds.take j)/\m=os.length/\Ev S Sj/\SOk Sj (c+3*j)/\(⟨r,cC,cH⟩:RcT)∈Sj.rr/\cQ (aH S) (r.eds.take j)=0/\DoI (aH S) (bo (aH S) (r.eds.take j)) (ez S r) os mW mN Sj.rows none/\nW<=j/\nN<=2*j/\mz=r.eds.length-j/\az=⟨(ovr (jv az) [(4,4,2,[.slice OA m oc]),(3,10,7,[]),(43,60,0,[vi ((j:Int))]),(0,61,51,[])] t_).toArray,[]⟩/\St w fp [eB bA 31 #[vp sb],eB cT 27 #[vi r.kind,vi r.xid,vi r.tbl,sn,sn,.slice cC r.eds.length cH,sn,.string r.note],eMx kcI pgX Tryz.prog 3 iM nW (mW),eMx kcI pgX Tryz.prog 3 g0 nN (mN),eO 3 1 (.slice OA m oc) m (os.map (Value.int .i64)),eSt sb db Sj fpj] W) (r.eds.length-0) ?_ ?_
 exact⟨0,[],0,none,0,S0,fp28_,(fun _=>none),0,(fun _=>none),0,Nat.zero_le _,rfl,rfl,hev0,hok0,hrt0,rfl,DoI.init _ _ _,Nat.zero_le _,Nat.zero_le _,rfl,(by kernel_rfl),hn45.pk [1,2,3,4,5,0]⟩
 rintro TV a46 Bs ⟨j,os,m,OA,oc,Sj,fpj,mW,nW,mN,nN,hj,hos,hm,hevj,hokj,hrtj,herr,hIj,hnW,hnN,rfl,hj_,eI⟩
 refine ovz hj_ fun Sa=>?_
 refine wq (sqr (sqp [.k 61 (.bool (decide ((j:Int)<(r.eds.length:Int))))] ?_))
 refine aa (wq (wds (fun PE N8=>?_) fun PE N8=>?_))
 refine wp_skip (aa (wq (wp_block (wq ?_))))
 have hmj:m<=j:=by rw[hm,hos];have h1:=l3 (r.eds.take j);rw[List.length_take] at h1;omega
 have hjl:j<r.eds.length:=by omega
 obtain⟨ep,es,eb,hek⟩:=kP (l:=r.eds) (k:=j) (by omega)
 have hke:edR (ep,es,eb)=true:=hro.eds _ (List.mem_of_getElem? hek)
 have hez:eb.size<=9223372036854775807:=by have:=dv hke;dsimp only at this;omega
 have hkn:kcI.ok ep:=by have:=(kZ hke).1;dsimp only at this;constructor<;>omega
 have hpr:0<=ep/\ep<(S.D.pgs.length:Int):=kU hin (List.mem_of_getElem? hek)
 refine sqr ?_
 refine sql (.pointer (some ((ad cC).add (j*3)))) eI (fun cx=>aG (e:=84) (m:=j) (sz:=3) rfl (by kernel_rfl) (by kernel_rfl) (cx.ou 58) (cx.ou 60) (by omega) (by omega) (show At _ _ (r.eds.flatMap edC) from mg (CtxV.holdF cx (cx.init 5 _ rfl) rfl) hrtj) (bp (sz:=3) bH (by decide) (by omega))) ?_
 refine sql (.agg #[vi ep,vi es,.string eb]) eI (fun cx=>bQ (f:=edC) (m:=j) (sz:=3) (off:=0) (n:=3) rfl (by kernel_rfl) (by kernel_rfl) (cx.ou 62) rfl bH (show At _ _ (r.eds.flatMap edC) from mg (CtxV.holdF cx (cx.init 5 _ rfl) rfl) hrtj) hek (fun k hk=>match k,hk with|0,_=>rfl|1,_=>rfl|2,_=>rfl|k+3,hk=>absurd hk (by omega))) ?_
 refine b9 #[vi 0,vi 0,.string ByteArray.empty] eI fun lp IJ kI=>?_
 refine aX (n:=3) 6 #[vi ep,vi es,.string eb] kI fun Bu cG=>?_
 refine aa ?_
 refine l9 (fun t_ az W=>∃mW2:Int->Option PgV,∃nW2:Nat,∃mN2:Int->Option PgV,∃nN2:Nat,∃os2:List Int,∃m2:Nat,∃OA2:Option Addr,∃oc2:Nat,∃S2:StM,∃fp2:List Nat,os2=jx os (ep,es,eb)/\m2=os2.length/\Ev S S2/\SOk S2 (c+3*j+3)/\(⟨r,cC,cH⟩:RcT)∈S2.rr/\DoI (aH S) (bo (aH S) (r.eds.take j)) (ez S r) os2 mW2 mN2 S2.rows (some ep)/\nW2<=j+1/\nN2<=2*j+1/\az=⟨(ovr (jv az) [(4,4,2,[.slice OA2 m2 oc2]),(4,11,4,[]),(49,64,31,[])] t_).toArray,[]⟩/\St w fp [eB bA 31 #[vp sb],eB cT 27 #[vi r.kind,vi r.xid,vi r.tbl,sn,sn,.slice cC r.eds.length cH,sn,.string r.note],eB lp 84 #[vi ep,vi es,.string eb],eMx kcI pgX Tryz.prog 3 iM nW2 (mW2),eMx kcI pgX Tryz.prog 3 g0 nN2 (mN2),eO 3 1 (.slice OA2 m2 oc2) m2 (os2.map (Value.int .i64)),eSt sb db S2 fp2] W) ?_ ?_
 refine wq (sqr (sqp [.m 65 7,.k 66 (vp lp)] ?_))
 refine au 6 cG ?_
 refine sql (.tuple #[.agg #[vi (((mW ep).getD ((0:Int),(0:Int),(none:Option Addr),(0:Nat),(0:Nat))).1),vi (((mW ep).getD ((0:Int),(0:Int),(none:Option Addr),(0:Nat),(0:Nat))).2.1),.slice (((mW ep).getD ((0:Int),(0:Int),(none:Option Addr),(0:Nat),(0:Nat))).2.2.1) (((mW ep).getD ((0:Int),(0:Int),(none:Option Addr),(0:Nat),(0:Nat))).2.2.2.1) (((mW ep).getD ((0:Int),(0:Int),(none:Option Addr),(0:Nat),(0:Nat))).2.2.2.2)],.bool ((mW ep).isSome)]) cG (fun cx=>ye (e:=48) (C:=pgX) (K:=kcI) (x:=ep) rfl (cx.ou 65) (cx.ou 67) (CtxV.mx cx (cx.init 2 _ rfl) rfl) (h0:=(by rfl)) (hx:=hkn) (hk:=show Program.underlying _ _= _ from by kernel_rfl)) ?_
 refine sqp [.m 64 68,.k 69 (.agg #[vi (((mW ep).getD ((0:Int),(0:Int),(none:Option Addr),(0:Nat),(0:Nat))).1),vi (((mW ep).getD ((0:Int),(0:Int),(none:Option Addr),(0:Nat),(0:Nat))).2.1),.slice (((mW ep).getD ((0:Int),(0:Int),(none:Option Addr),(0:Nat),(0:Nat))).2.2.1) (((mW ep).getD ((0:Int),(0:Int),(none:Option Addr),(0:Nat),(0:Nat))).2.2.2.1) (((mW ep).getD ((0:Int),(0:Int),(none:Option Addr),(0:Nat),(0:Nat))).2.2.2.2)]),.k 70 (.bool ((mW ep).isSome))] ?_
 refine b9 #[vi 0,vi 0,sn] cG fun Q1 Bt fm=>?_
 refine aX (n:=3) 7 #[vi (((mW ep).getD ((0:Int),(0:Int),(none:Option Addr),(0:Nat),(0:Nat))).1),vi (((mW ep).getD ((0:Int),(0:Int),(none:Option Addr),(0:Nat),(0:Nat))).2.1),.slice (((mW ep).getD ((0:Int),(0:Int),(none:Option Addr),(0:Nat),(0:Nat))).2.2.1) (((mW ep).getD ((0:Int),(0:Int),(none:Option Addr),(0:Nat),(0:Nat))).2.2.2.1) (((mW ep).getD ((0:Int),(0:Int),(none:Option Addr),(0:Nat),(0:Nat))).2.2.2.2)] fm fun Q2 va=>?_
 refine sqp [.m 12 70] ?_
 refine aa (wq (sqr (sqp [.m 71 12,.k 72 (.bool (!((mW ep).isSome)))] ?_)))
 refine aa ?_
 rcases Bool.eq_false_or_eq_true ((mW ep).isSome) with qN|qN
 refine wp_cond_false (show Act.eval _ _= .bool false from(congrArg Value.bool (by rw[qN];rfl))) (wp_skip (aa ?_))
 exact⟨mW,nW,mN,nN,os,m,OA,oc,Sj,fpj,(mu (e:=(ep,es,eb)) (hIj.mem.1 (by have h_:=qN;simpa using h_))).symm,hm,hevj,hokj.mono (by omega),hrtj,(mu (e:=(ep,es,eb)) (hIj.mem.1 (by have h_:=qN;simpa using h_))) ▸ hIj.old (ep,es,eb) (by have h_:=qN;simpa using h_),by omega,by omega,(by kernel_rfl),va.pk [0,1,6,2,3,4,5]⟩
 refine wp_cond_true (show Act.eval _ _= .bool true from(congrArg Value.bool (by rw[qN];rfl))) (wq (aD [0,0,2,7,15,31,31,0,191,511] [[0],[],[6],[5],[],[],[],[],[10]] [[],[],[],[8,9],[],[],[],[10],[11]] [[],[],[],[5],[],[],[],[],[10]] [.c 74 (vp sb),.k 75 (vp lp),.c 76 (vi ep),.a 77,.a 73,.a 78,.a 79,.a 13,.n,.a 14] (fun ix o b X=>match ix with|0|1|2=>True|3=>o 77= .tuple #[.agg #[vi ((pgF Sj ep (tB1 (b 77))).1),vi ((pgF Sj ep (tB1 (b 77))).2.1),.slice (sA (tg (tg (b 77) 0) 2)) ((pgF Sj ep (tB1 (b 77))).2.2.length) (sC (tg (tg (b 77) 0) 2))],.bool (tB1 (b 77))]/\X 8=eSx sb db (fun S2=>PaQ Sj ep S2 (tB1 (b 77))) ((X 8).fp)/\X 9=eO 9 1 (.slice (sA (tg (tg (b 77) 0) 2)) ((pgF Sj ep (tB1 (b 77))).2.2.length) (sC (tg (tg (b 77) 0) 2))) ((pgF Sj ep (tB1 (b 77))).2.2.length) ((pgF Sj ep (tB1 (b 77))).2.2.map Value.string)|4=>o 73= .tuple #[.agg #[vi ((pgF Sj ep (tB1 (b 77))).1),vi ((pgF Sj ep (tB1 (b 77))).2.1),.slice (sA (tg (tg (b 77) 0) 2)) ((pgF Sj ep (tB1 (b 77))).2.2.length) (sC (tg (tg (b 77) 0) 2))],.bool (tB1 (b 77))]|5=>o 78= .agg #[vi ((pgF Sj ep (tB1 (b 77))).1),vi ((pgF Sj ep (tB1 (b 77))).2.1),.slice (sA (tg (tg (b 77) 0) 2)) ((pgF Sj ep (tB1 (b 77))).2.2.length) (sC (tg (tg (b 77) 0) 2))]|6=>o 79= .bool (tB1 (b 77))|7=>o 13=vp (pb (b 13))/\X 10=eB (pb (b 13)) 48 #[vi 0,vi 0,sn]|8=>X 11=eB (pb (b 13)) 48 #[vi ((pgF Sj ep (tB1 (b 77))).1),vi ((pgF Sj ep (tB1 (b 77))).2.1),.slice (sA (tg (tg (b 77) 0) 2)) ((pgF Sj ep (tB1 (b 77))).2.2.length) (sC (tg (tg (b 77) 0) 2))]|9=>o 14= .bool (tB1 (b 77))|_=>True) [0,1,2,3,4,6,7,8,9,11] [0,2,3,4,5,6,7,8,9] [(13,7,3,15),(58,4,1,59),(0,0,4,4),(0,5,2,2)] va ?_ ?_ ?_))
 exact fun ix _ _ _ _ _ _ hs hb hx h=>match ix,h with
 |3,h=>by dsimp only;rw[<-hs 77 rfl,<-hb 77 rfl,<-hx 8 rfl,<-hx 9 rfl];exact h
 |4,h=>by dsimp only;rw[<-hs 73 rfl,<-hb 77 rfl];exact h
 |5,h=>by dsimp only;rw[<-hs 78 rfl,<-hb 77 rfl];exact h
 |6,h=>by dsimp only;rw[<-hs 79 rfl,<-hb 77 rfl];exact h
 |7,h=>by dsimp only;rw[<-hs 13 rfl,<-hb 13 rfl,<-hx 10 rfl];exact h
 |8,h=>by dsimp only;rw[<-hb 13 rfl,<-hb 77 rfl,<-hx 11 rfl];exact h
 |9,h=>by dsimp only;rw[<-hs 14 rfl,<-hb 77 rfl];exact h
 |0,_|1,_|2,_|_+10,_=>trivial
 refine⟨?_,?_,?_,?_,?_,?_,?_,?_,?_,trivial⟩
 exact xs4 rfl id fun cx=>ae rfl (by kernel_rfl) (cx.ou 2) ((cx.bi 0 rfl).cell 0)
 exact xs4 rfl id fun cx=>ae rfl (by kernel_rfl) (cx.an 1) ((cx.bi 6 rfl).cell 0)
 refine svA fun d b W X cx=>?_
 refine am.call (al (args:=#[vp sb,vi ep]) rfl cx.sees rfl (by kernel_rfl) (aN (cx.an 0) (cx.an 2))) ?_
 refine(qi sb db Sj ep (c+3*j) _ _ (CtxV.holdF cx (cx.init 5 _ rfl) rfl) (CtxV.ltF cx (cx.init 5 _ rfl) rfl) hokj (by omega) hkn).mono ?_
 rintro e W1 ⟨ok4,A4,c4,rfl,fp4,aM⟩
 refine⟨_,rfl,aK (E:=eSt sb db Sj fpj) [eSx sb db (fun S2=>PaQ Sj ep S2 ok4) fp4,eO 9 1 (.slice A4 ((pgF Sj ep ok4).2.2.length) c4) ((pgF Sj ep ok4).2.2.length) ((pgF Sj ep ok4).2.2.map Value.string)] (cx.init 5 _ rfl) rfl rfl aM (fun o q X' hs hb hv hN=>?_)⟩
 have aJ:=(hv 77 rfl).1;have aQ:=(hv 77 rfl).2
 exact⟨aJ.trans (by rw[aQ];exact rfl),(by rw[aQ];exact fK ((List.cons.inj hN).1)),(by rw[aQ];exact(List.cons.inj (List.cons.inj hN).2).1)⟩
 exact sv rfl rfl rfl rfl rfl _ (fun _ _ _ h=>h) (fun b q h=>by rw[h 77 (by decide)]) fun d b W X cx=>cK rfl (dTn (cx.an 3)).1
 exact sv rfl rfl rfl rfl rfl _ (fun _ _ _ h=>h) (fun b q h=>by rw[h 77 (by decide)]) fun d b W X cx=>bJ rfl (dTn (cx.an 4)) rfl
 exact sv rfl rfl rfl rfl rfl _ (fun _ _ _ h=>h) (fun b q h=>by rw[h 77 (by decide)]) fun d b W X cx=>bJ rfl (dTn (cx.an 4)) rfl
 refine svA fun d b W X cx=>?_
 exact cZ (cs:=#[vi 0,vi 0,sn]) rfl (by kernel_rfl) rfl rfl (fun _ _ _ _ _=> .intro)
 refine svA fun d b W X cx=>?_
 exact bu (n:=3) rfl (dTn (cx.an 7)).1 (dTn (cx.an 5)) (by kernel_rfl) (by kernel_rfl) (by kernel_rfl) cx (dTn (cx.an 7)).2 rfl (nle rfl) (by kernel_rfl) rfl rfl rfl (fun o q X' hs hb hx=>by rw[hb 13,hb 77];exact hx)
 exact sv rfl rfl rfl rfl rfl _ (fun _ _ _ h=>h) (fun b q h=>by rw[h 77 (by decide)]) fun d b W X cx=>di rfl (dTn (cx.an 6))
 intro o b X OM hD pj fr aC
 obtain⟨ok77_67,pC⟩:∃z,tB1 (b 77)=z:=⟨_,rfl⟩
 obtain⟨g9,qO⟩:∃z,sA (tg (tg (b 77) 0) 2)=z:=⟨_,rfl⟩
 obtain⟨hG,qP⟩:∃z,sC (tg (tg (b 77) 0) 2)=z:=⟨_,rfl⟩
 obtain⟨Q3,qQ⟩:∃z,pb (b 13)=z:=⟨_,rfl⟩
 have zH:X 8= _:=(dTn (hD 3 lq)).2.1
 obtain⟨RF,zI⟩:∃z,(X 8).fp=z:=⟨_,rfl⟩
 rw[zI] at zH
 clear zI
 simp only[zH,exq 9 ((dTn (hD 3 lq)).2.2),exq 11 ((dTn (hD 8 lq))),pC,qO,qP,qQ] at pj
 simp only[ed 77 ((dTn (hD 3 lq)).1),ed 73 ((dTn (hD 4 lq))),ed 78 ((dTn (hD 5 lq))),ed 79 ((dTn (hD 6 lq))),ed 13 ((dTn (hD 7 lq)).1),ed 14 ((dTn (hD 9 lq))),pC,qO,qP,qQ] at aC
 clear hD zH pC qO qP qQ;subst aC;clear o b X
 refine aa (wq (wq ?_))
 obtain⟨S1,hP,hy68_⟩:=pj.u7.unx
 have hok1:=hP.ok hokj
 have hev1:=hP.ev hokj
 have hrt1:(⟨r,cC,cH⟩:RcT)∈S1.rr:=by obtain⟨er_,h_,_⟩:=hP;rw[h_.rr];exact hrtj
 refine sqr (sqp [.m 80 14,.k 81 (.bool (!(ok77_67)))] ?_)
 refine aa ?_
 rcases Bool.eq_false_or_eq_true (ok77_67) with nP|nP
 refine wp_cond_false (show Act.eval _ _= .bool false from(congrArg Value.bool (by rw[nP];rfl))) (wp_skip (aa (wq ?_)))
 have hpc:pgF Sj ep ok77_67=aH S ep:=by rw[nP,pgF,if_pos rfl];exact hevj.cur ep hpr.1
 refine sqr (sqp [.m 82 6,.k 83 (vp lp)] ?_)
 refine au 6 hy68_ ?_
 refine d9 (fun x_=>sA x_) (fun vb=> .slice vb 1 1) (fun vb=>eO 3 1 (.slice vb 1 1) 1 ([vi ep])) hy68_ (by
   refine svA fun d b W X cx=>?_
   have PF:d (.tmp 84)=vi ep:=(cx.ou 84)
   exact dx (e:=3) (xs:=[vi ep]) rfl (by simp[go_sem,PF]) rfl (by decide) rfl rfl (fun _ _ _ _ _=> .intro)) fun vb LX kK=>?_
 refine sg (fun x_=>sA x_) (fun x_=>sC x_) (fun qR qS=> .slice qR (m+1) qS) (fun qR qS=>eO 3 1 (.slice qR (m+1) qS) (m+1) ((os++[ep]).map (Value.int .i64))) 5 kK (by
   refine svA fun d b W X cx=>?_
   obtain⟨i0,hi0,hz0,hz1,hz2⟩:=info_parts Tryz.infoIntJ
   refine fb (n:=m) (m:=1) (nm:=m+1) (xs:=os.map (Value.int .i64)) (news:=[vi ep]) (xs':=(os++[ep]).map (Value.int .i64)) rfl (ty:=25) rfl (by kernel_rfl) hi0 hz0 hz1 hz2 rfl (cx.ou 82) cx (cx.init 5 _ rfl) rfl (cx.ou 85) (by first|(simp;done)|(simp;omega)) (At.of_own (cx.ri 10 rfl)) (by simp[Value.oneCell']) (by simp only[maxLen];omega) (by omega) rfl rfl rfl (by omega) ((Bq _ _)) (fun o q X' hs hb hv hx=>?_)
   exact⟨hv,hx⟩) fun qR qS Qt CG=>?_
 refine sqp [.m 6 86] ?_
 refine aa (aD [0,0,2,0,0,16,0,0,71,511] [[],[],[6],[],[],[6],[9],[9],[3],[4]] [[],[],[],[],[],[],[],[],[11],[12]] [[],[],[],[],[],[],[],[],[3],[4]] [.k 87 (.map (some iM)),.k 88 (vp lp),.c 89 (vi ep),.k 90 (.map (some g0)),.k 91 (vp lp),.c 92 (vi ep),.c 93 (.agg #[vi ((pgF Sj ep ok77_67).1),vi ((pgF Sj ep ok77_67).2.1),.slice g9 ((pgF Sj ep ok77_67).2.2.length) hG]),.c 94 (.agg #[vi ((pgF Sj ep ok77_67).1),vi ((pgF Sj ep ok77_67).2.1),.slice g9 ((pgF Sj ep ok77_67).2.2.length) hG]),.n,.n] (fun ix o b X=>match ix with|0|1|2|3|4|5|6|7=>True|8=>X 11=eMx kcI pgX Tryz.prog 3 iM ((mzP mW ep nW)) (cd mW ep (some ((pgF Sj ep ok77_67).1,(pgF Sj ep ok77_67).2.1,g9,(pgF Sj ep ok77_67).2.2.length,hG)))|9=>X 12=eMx kcI pgX Tryz.prog 3 g0 ((mzP mN ep nN)) (cd mN ep (some ((pgF Sj ep ok77_67).1,(pgF Sj ep ok77_67).2.1,g9,(pgF Sj ep ok77_67).2.2.length,hG)))|_=>True) [0,1,2,5,6,7,8,9,10,11,12] [2,5,6,7,8,9] [(87,0,8,95)] CG ?_ ?_ ?_)
 exact fun ix _ _ _ _ _ _ hs hb hx h=>match ix,h with
 |8,h=>by dsimp only;rw[<-hx 11 rfl];exact h
 |9,h=>by dsimp only;rw[<-hx 12 rfl];exact h
 |0,_|1,_|2,_|3,_|4,_|5,_|6,_|7,_|_+10,_=>trivial
 refine⟨?_,?_,?_,?_,?_,?_,trivial⟩
 exact xs4 rfl id fun cx=>ae rfl (by kernel_rfl) (cx.an 1) ((cx.bi 6 rfl).cell 0)
 exact xs4 rfl id fun cx=>ae rfl (by kernel_rfl) (cx.an 4) ((cx.bi 6 rfl).cell 0)
 exact xs4 rfl id fun cx=>ce (n:=3) rfl (by kernel_rfl) (by kernel_rfl) (cx.ou 13) (cx.bi 9 rfl) (nle rfl) rfl
 exact xs4 rfl id fun cx=>ce (n:=3) rfl (by kernel_rfl) (by kernel_rfl) (cx.ou 13) (cx.bi 9 rfl) (nle rfl) rfl
 refine svA fun d b W X cx=>?_
 exact go (e:=48) (v:=((pgF Sj ep ok77_67).1,(pgF Sj ep ok77_67).2.1,g9,(pgF Sj ep ok77_67).2.2.length,hG)) (.inl rfl) (cx.an 0) (show d _=Kc.enc kcI ep from(cx.an 2)) (show d _=Ec.enc pgX ((pgF Sj ep ok77_67).1,(pgF Sj ep ok77_67).2.1,g9,(pgF Sj ep ok77_67).2.2.length,hG) from(cx.an 6)) cx (cx.init 3 _ rfl) rfl (trivial) (by omega) (hkn) rfl rfl rfl (fun _ _ _ _ _=>id) (hk:=show Program.underlying _ _= _ from by kernel_rfl)
 refine svA fun d b W X cx=>?_
 exact go (e:=48) (v:=((pgF Sj ep ok77_67).1,(pgF Sj ep ok77_67).2.1,g9,(pgF Sj ep ok77_67).2.2.length,hG)) (.inl rfl) (cx.an 3) (show d _=Kc.enc kcI ep from(cx.an 5)) (show d _=Ec.enc pgX ((pgF Sj ep ok77_67).1,(pgF Sj ep ok77_67).2.1,g9,(pgF Sj ep ok77_67).2.2.length,hG) from(cx.an 7)) cx (cx.init 4 _ rfl) rfl (trivial) (by omega) (hkn) rfl rfl rfl (fun _ _ _ _ _=>id) (hk:=show Program.underlying _ _= _ from by kernel_rfl)
 intro o b X TW hD I2 fr aC
 simp only[exq 11 ((dTn (hD 8 lq))),exq 12 ((dTn (hD 9 lq)))] at I2
 clear hD;subst aC;clear o b X
 refine aa ?_
 obtain⟨fp79_,hg79_⟩:=St.rPf (r:=(⟨(pgF Sj ep ok77_67),g9,hG⟩:PgR)) I2.u6
 have hnm:(ep,es,eb).1∉os:=fun hh=>by have h_:=hIj.mem.2 hh;have h2:=qN;simp[h_] at h2
 exact⟨cd mW ep (some ((pgF Sj ep ok77_67).1,(pgF Sj ep ok77_67).2.1,g9,(pgF Sj ep ok77_67).2.2.length,hG)),(mzP mW ep nW),cd mN ep (some ((pgF Sj ep ok77_67).1,(pgF Sj ep ok77_67).2.1,g9,(pgF Sj ep ok77_67).2.2.length,hG)),(mzP mN ep nN),(os++[ep]),m+1,qR,qS,(jP S1 (⟨(pgF Sj ep ok77_67),g9,hG⟩:PgR)),fp79_,(kr hnm).symm,by rw[List.length_append,List.length_singleton];omega,(hevj.trans hev1.1 hok.fl).trans (Ev.rows' _ _) hok.fl,hok1.rows _,hrt1,(kr hnm) ▸ (hIj.mono hev1.1.rows).new (ep,es,eb) (by have h_:=qN;simpa using h_) hpc _ _,by have:=qa mW ep nW;omega,by have:=qa mN ep nN;omega,(by kernel_rfl),hg79_.pk [1,2,4,8,9,3,0]⟩
 refine wp_cond_true (show Act.eval _ _= .bool true from(congrArg Value.bool (by rw[nP];rfl))) (wq (sqr (sqp [.k 4 (vi 0),.k 5 (vi 24)] ?_)))
 refine aa (wp_ret (aj (aj (ba (aj (aj (ba (aj ?_))))))))
 refine bpr (.tuple #[vi 0,vi 24]) (aO Tryz.results17 rpt rpt) ?_
 exact fF.of (.pow hda hin (hevj.trans hev1.1 hok.fl) ((hev1.2.1 nP).elim id fun h=>absurd (by rw[hevj.len];exact hpr) h)) (hok1.mono (by omega)) (hy68_.pick [0] (by decide) rfl)
 rintro a53 ON ⟨mW2,nW2,mN2,nN2,os2,m2,OA2,oc2,S2,fp2,hos2,hm2,hev2,hok2,hrt2,hI2,hnW2,hnN2,hj_,kL⟩
 refine ovz hj_ fun Sb=>?_
 refine wq ?_
 have hme:ep∈os2:=by rw[hos2];exact Dz os (ep,es,eb)
 obtain⟨pg,hpm,hmN,hpi,_⟩:=hI2.n ep hme
 obtain⟨pp,hpp⟩:∃z,(bo (aH S) (r.eds.take j)) ep=z:=⟨_,rfl⟩
 rw[hpp] at hmN hpi
 have hri:bI pp:=hpp ▸ jB (fun m=>iB hok m) herr ep
 refine sqr (sqp [.m 96 8,.k 97 (vp lp)] ?_)
 refine au 2 kL ?_
 refine sql (.agg #[vi pp.1,vi pp.2.1,.slice pg.A pp.2.2.length pg.c]) kL (fun cx=>(c5 (e:=48) (C:=pgX) (K:=kcI) (x:=ep) rfl (cx.ou 96) (cx.ou 98) (CtxV.mx cx (cx.init 4 _ rfl) rfl) (h0:=by kernel_rfl) (hx:=hkn) (hk:=show Program.underlying _ _= _ from by kernel_rfl)).trans (by rw[hmN];rfl)) ?_
 refine bE 2 3 kL ?_
 refine iA (fun et eu=> .tuple #[.agg #[vi ((doR pp (ep,es,eb) 1).1),vi ((doR pp (ep,es,eb) 1).2.1),.slice et ((doR pp (ep,es,eb) 1).2.2.length) eu],vi ((doE pp (ep,es,eb) 1))]) (fun et eu=>eO 9 1 (.slice et ((doR pp (ep,es,eb) 1).2.2.length) eu) ((doR pp (ep,es,eb) 1).2.2.length) ((doR pp (ep,es,eb) 1).2.2.map Value.string)) kL (fun cx=>⟨_,(E3 (yx pp.1 pp.2.1 _ _ pp.2.2 ep es eb 1 _ (hpi ▸ Gm (CtxV.holdF cx (cx.init 6 _ rfl) rfl) hpm) hri.1 (ea hri.1) hez)).mono (by rintro e W1 ⟨A4,c4,rfl,ho,hx⟩;exact⟨_,_,rfl,St.one hx (cj ho)⟩),(dG (cx.ou 99) (cx.ou 100) (cx.co _))⟩) fun et eu OL pi=>?_
 refine sqp [.m 95 101,.k 102 (.agg #[vi ((doR pp (ep,es,eb) 1).1),vi ((doR pp (ep,es,eb) 1).2.1),.slice et ((doR pp (ep,es,eb) 1).2.2.length) eu]),.k 103 (vi ((doE pp (ep,es,eb) 1)))] ?_
 refine b9 #[vi 0,vi 0,sn] pi fun Q4 TX N9=>?_
 refine aX (n:=3) 8 #[vi ((doR pp (ep,es,eb) 1).1),vi ((doR pp (ep,es,eb) 1).2.1),.slice et ((doR pp (ep,es,eb) 1).2.2.length) eu] N9 fun Md lX=>?_
 refine sqp [.m 16 103] ?_
 refine aa (wq (wq (sqr (sqp [.m 104 16,.k 105 (.bool ((doE pp (ep,es,eb) 1) != 0))] ?_))))
 refine aa (wbs (fun kx=>?_) fun kx=>?_)
 have CV:=bne_iff_ne.1 kx
 refine wq (sqr (sqp [.m 106 16,.k 4 (vi 0),.m 5 106] ?_))
 refine aa (wp_ret (aj (ba (aj (aj (ba (aj ?_)))))))
 refine bpr (.tuple #[vi 0,vi ((doE pp (ep,es,eb) 1))]) (aO Tryz.results17 rpt rpt) ?_
 exact fF.of (by have h_:=DoQ.err (S:=S) (r:=r) hda hin hev2 (by rw[sZ hek herr (by rw[hpp];simpa using kx)];rw[hpp];simpa using kx);rw[sZ hek herr (by rw[hpp];simpa using kx),hpp] at h_;exact h_) (hok2.mono (by omega)) (lX.pick [6] (by decide) rfl)
 have CV:=bne_eq_false_iff_eq.1 kx
 refine wp_skip (aa ?_)
 have hd0:doE pp (ep,es,eb) 1=0:=by simpa using kx
 have hd1:doE ((bo (aH S) (r.eds.take j)) (ep,es,eb).1) (ep,es,eb) 1=0:=by rw[hpp];exact hd0
 obtain⟨fp100_,hg100_⟩:=St.rPf (r:=(⟨ip (ez S r) (doR pp (ep,es,eb) 1),et,eu⟩:PgR)) lX.u6.u7
 refine sqr (sqp [.m 107 8,.k 108 (vp lp)] ?_)
 refine au 3 hg100_ ?_
 refine bE 7 3 hg100_ ?_
 refine sqc (eMx kcI pgX Tryz.prog 3 g0 ((mzP mN2 ep nN2)) (cd mN2 ep (some ((doR pp (ep,es,eb) 1).1,(doR pp (ep,es,eb) 1).2.1,et,(doR pp (ep,es,eb) 1).2.2.length,eu)))) 5 hg100_ (by
   refine svA fun d b W X cx=>?_
   exact go (e:=48) (v:=((doR pp (ep,es,eb) 1).1,(doR pp (ep,es,eb) 1).2.1,et,(doR pp (ep,es,eb) 1).2.2.length,eu)) (.inl rfl) (cx.ou 107) (show d _=Kc.enc kcI ep from(cx.ou 109)) (show d _=Ec.enc pgX ((doR pp (ep,es,eb) 1).1,(doR pp (ep,es,eb) 1).2.1,et,(doR pp (ep,es,eb) 1).2.2.length,eu) from(cx.ou 110)) cx (cx.init 5 _ rfl) rfl (trivial) (by omega) (hkn) rfl rfl rfl (fun _ _ _ _ _=>id) (hk:=show Program.underlying _ _= _ from by kernel_rfl)) fun Sc My=>?_
 refine av (aa (sqr (sqp [sI 111 ((j:Int)+1) (by omega),.m 60 111] ?_)))
 refine aa ?_
 have hev3:Ev S (jP S2 (⟨ip (ez S r) (doR pp (ep,es,eb) 1),et,eu⟩:PgR)):=hev2.trans (Ev.rows' _ _) hok.fl
 have hok3:=hok2.rows (⟨ip (ez S r) (doR pp (ep,es,eb) 1),et,eu⟩:PgR)
 have hI3:DoI (aH S) (bo (aH S) (r.eds.take (j+1))) (ez S r) os2 (mW2) (cd mN2 ep (some ((doR pp (ep,es,eb) 1).1,(doR pp (ep,es,eb) 1).2.1,et,(doR pp (ep,es,eb) 1).2.2.length,eu))) (jP S2 (⟨ip (ez S r) (doR pp (ep,es,eb) 1),et,eu⟩:PgR)).rows none:=by rw[ig hek,xZ];exact hI2.edit hme (by rw[hpp];exact rk hd0) _ _
 refine⟨r.eds.length-((j+1)),by omega,?_⟩
 exact⟨(j+1),os2,m2,OA2,oc2,(jP S2 (⟨ip (ez S r) (doR pp (ep,es,eb) 1),et,eu⟩:PgR)),fp100_,mW2,nW2,cd mN2 ep (some ((doR pp (ep,es,eb) 1).1,(doR pp (ep,es,eb) 1).2.1,et,(doR pp (ep,es,eb) 1).2.2.length,eu)),(mzP mN2 ep nN2),by omega,by rw[ig hek,s6,<-hos];exact hos2,hm2,hev3,hok3.mono (by omega),hrt2,x7 hek herr hd1,hI3,by omega,by have:=qa mN2 ep nN2;omega,rfl,(by kernel_rfl),My.pk [1,2,4,5,6,0]⟩
 refine wp_exit (aq (aq (bj (aa (wq ?_)))))
 have hje:j=r.eds.length:=by omega
 have hI9:DoI (aH S) (bo (aH S) r.eds) (ez S r) os mW mN Sj.rows none:=by have h_:=hIj;rw[hje,List.take_length] at h_;exact h_
 have hosF:os=cD r.eds:=by rw[hos,hje,List.take_length]
 have her9:cQ (aH S) r.eds=0:=by have h_:=herr;rw[hje,List.take_length] at h_;exact h_
 have hmo:m<=64:=by have h1:=l3 r.eds;rw[hm,hosF];omega
 have aC:=eR hda.1
 have hlzj:Sj.D.log.size<=1048576:=hokj.lsz
 have hpro:∀n∈os,0<=n/\n<(S.D.pgs.length:Int):=fun n hn=>by rw[hosF] at hn;obtain⟨x,hx,rfl⟩:=kq.1 hn;exact kU hin hx
 refine sqr ?_
 refine bE 1 8 eI ?_
 refine sqk (.string (aB r)) eI (fun cx=>⟨_,j5 r.kind r.xid r.tbl _ _ r.eds r.note _ (mg (CtxV.holdF cx (cx.init 5 _ rfl) rfl) hrtj) (by omega) hz hns,(aw (cx.ou 112))⟩) fun Py zC=>?_
 refine sqp [.k 114 (vi (((aB r).size:Int))),.m 17 114] ?_
 refine aa (wq (sqr (sqp [.k 18 (sn)] ?_)))
 refine aa (wq (wq (sqr (sqp [.m 115 6,.k 116 (vi ((m:Int))),.k 117 (vi 0)] ?_))))
 refine aa (wp_block ?_)
 have hn116:=fh zC 27 8
 simp only[List.cons_append,List.nil_append] at hn116
 refine aT (fun t_ mz az W=>∃i:Nat,∃g:Nat,∃GA:Option Addr,∃gc:Nat,∃z:Int,∃fpi:List Nat,i<=m/\g=(eE S (os.take i)).length/\z=((aB r).size:Int)+(szF (fe S (os.take i)):Int)/\(0<=z/\z<=200000*((i:Int)+1))/\mz=m-i/\az=⟨(ovr (jv az) [(17,17,0,[vi z,.slice GA g gc]),(1,20,4,[]),(93,117,0,[vi ((i:Int))]),(0,118,30,[])] t_).toArray,[]⟩/\St w fp [eB bA 31 #[vp sb],eB cT 27 #[vi r.kind,vi r.xid,vi r.tbl,sn,sn,.slice cC r.eds.length cH,sn,.string r.note],eMx kcI pgX Tryz.prog 3 iM nW (mW),eMx kcI pgX Tryz.prog 3 g0 nN (mN),eO 3 1 (.slice OA m oc) m (os.map (Value.int .i64)),eO 27 8 (.slice GA g gc) g ((eE S (os.take i)).flatMap (icC S)),eSt sb db Sj fpi] W) (m-0) ?_ ?_
 exact⟨0,0,none,0,((aB r).size:Int),fpj,Nat.zero_le _,rfl,by show _= _+((0:Nat):Int);omega,by omega,rfl,(by kernel_rfl),hn116.pk [0,1,2,3,4,6,5]⟩
 rintro Sd a117 Se ⟨i,g,GA,gc,z,fpi,hi,hg,hz1,hz2,rfl,hj_,qT⟩
 refine ovz hj_ fun RG=>?_
 refine wq (sqr (sqp [.k 118 (.bool (decide ((i:Int)<(m:Int))))] ?_))
 refine aa (wq (wds (fun vc zJ=>?_) fun vc zJ=>?_))
 refine wp_skip (aa (wq (wp_block (wq ?_))))
 obtain⟨nn,hnn⟩:∃n,os[i]? =some n:=⟨_,List.getElem?_eq_getElem (by omega)⟩
 have hno:nn∈os:=List.mem_of_getElem? hnn
 have hpn:=hpro nn hno
 have hkn:kcI.ok nn:=by constructor<;>omega
 have htk:os.take (i+1)=os.take i++[nn]:=by rw[List.take_add_one,hnn];rfl
 refine sqr ?_
 refine sql (.pointer (some ((ad OA).add i))) qT (fun cx=>bK (e:=3) (m:=i) rfl (by kernel_rfl) (by kernel_rfl) (cx.ou 115) (cx.ou 117) (by omega) (by omega) (At.of_own (cx.ri 4 rfl)) (by rw[List.length_map];omega)) ?_
 refine sql (vi nn) qT (fun cx=>ae rfl (by kernel_rfl) (cx.ou 119) (At.cellAd (At.of_own (cx.ri 4 rfl)) ((List.getElem?_map ..).trans (by rw[hnn];rfl)))) ?_
 refine sqp [.m 20 120] ?_
 refine aa (wq ?_)
 obtain⟨⟨hrw1,hrr1⟩,mb1,RA1,rc1,EA1,ec1,ib1,tb1,fpd1,hv123_⟩:=qT.u6.unf
 refine sqr (au 10 hv123_ ?_)
 refine sqp [.k 122 (vp sb),.k 123 (po sb 6)] ?_
 refine au 0 hv123_ ?_
 refine sqp [.m 125 20] ?_
 refine sql (.bool (((Sj.im nn).getD false))) hv123_ (fun cx=>c5 (e:=4) (C:=ecB) (K:=kcI) (x:=nn) rfl (cx.ou 124) (cx.ou 125) (CtxV.mx cx (cx.init 7 _ rfl) rfl) (h0:=(by rfl)) (hx:=hkn) (hk:=show Program.underlying _ _= _ from by kernel_rfl)) ?_
 refine sqp [.k 127 (.bool (!(((Sj.im nn).getD false))))] ?_
 refine aa ?_
 rcases Bool.eq_false_or_eq_true (((Sj.im nn).getD false)) with vd|vd
 refine wp_cond_false (show Act.eval _ _= .bool false from(congrArg Value.bool (by rw[vd];rfl))) (wp_skip (av (aa (sqr (sqp [sI 147 ((i:Int)+1) (by omega),.m 117 147] ?_)))))
 refine aa ?_
 obtain⟨fp134_,hk134_⟩:=St.stf (S:=Sj) (hv123_) (hrw1) (hrr1)
 have him:(S.im nn).getD false=true:=by rw[<-hevj.im];simpa using vd
 have hnd1:eE S (os.take (i+1))=eE S (os.take i):=by rw[htk];exact Db S _ _ him
 rw[<-hnd1] at hk134_
 refine⟨m-((i+1)),by omega,?_⟩
 exact⟨(i+1),g,GA,gc,z,fp134_,by omega,by rw[hnd1];exact hg,by rw[fe,hnd1];exact hz1,by omega,rfl,(by kernel_rfl),hk134_.pk [1,2,3,4,5,6,0]⟩
 refine wp_cond_true (show Act.eval _ _= .bool true from(congrArg Value.bool (by rw[vd];rfl))) (wq ?_)
 have him:(S.im nn).getD false=false:=by rw[<-hevj.im];simpa using vd
 have hnd1:eE S (os.take (i+1))=eE S (os.take i)++[nn]:=by rw[htk];exact Hx S _ _ him
 obtain⟨pg,hpm,hmW,hpi⟩:=hI9.w nn hno
 have hri:=iB hok nn
 have hbz:=dA hri
 have hgi:g<=i:=by rw[hg];have h1:=o5 S (os.take i);rw[List.length_take] at h1;omega
 have hfi:=eR (m8 hok hpn)
 refine sqr (sqp [.m 129 7,.m 130 20] ?_)
 refine sql (.agg #[vi ((aH S nn).1),vi ((aH S nn).2.1),.slice pg.A ((aH S nn).2.2.length) pg.c]) hv123_ (fun cx=>(c5 (e:=48) (C:=pgX) (K:=kcI) (x:=nn) rfl (cx.ou 129) (cx.ou 130) (CtxV.mx cx (cx.init 12 _ rfl) rfl) (h0:=by kernel_rfl) (hx:=hkn) (hk:=show Program.underlying _ _= _ from by kernel_rfl)).trans (by rw[hmW];rfl)) ?_
 refine sqk (.tuple #[.string (aI (aH S nn)),vi 0]) hv123_ (fun cx=>⟨_,na (my hri) _ _ _ (hpi ▸ i6 (CtxV.holdF cx (cx.init 3 _ rfl) rfl) hpm) (ea hri.1),(aw (cx.ou 131))⟩) fun Sf Mz=>?_
 refine sqp [.m 128 132,.k 133 (.string (aI (aH S nn))),.k 134 (vi 0),.m 21 133,.m 22 134] ?_
 refine aa (wq (sqr (sqp [.m 135 20,.m 136 21,.k 137 (.agg #[vi 8,vi 0,vi nn,sn,sn,sn,sn,.string (aI (aH S nn))])] ?_)))
 refine b9 #[vi 0,vi 0,vi 0,sn,sn,sn,sn,.string ByteArray.empty] Mz fun P1 Sg MA=>?_
 refine aX (n:=8) 16 #[vi 8,vi 0,vi nn,sn,sn,sn,sn,.string (aI (aH S nn))] MA fun Sm Fu=>?_
 refine aa (wq (sqr (sqp [.m 138 18] ?_)))
 refine bE 16 8 Fu ?_
 refine mr 27 8 1 [vi 8,vi 0,vi nn,sn,sn,sn,sn,.string (aI (aH S nn))] Fu (@fun d b W X cx=>by have Oa:d (.tmp 139)= .agg #[vi 8,vi 0,vi nn,sn,sn,sn,sn,.string (aI (aH S nn))]:=(cx.ou 139);simp[go_sem,Oa]) fun PG PH mT=>?_
 refine vH (g+1) ((eE S (os.take (i+1))).flatMap (icC S)) 15 mT Tryz.infoRecJ (fun cx=>(At.of_ownN (cx.ri 17 rfl))) (jG:=(by rw[hnd1];exact JM _ _ _)) fun Ij Ik PC uZ=>?_
 refine sqp [.m 18 141] ?_
 refine aa (sqr (sqp [.m 142 17] ?_))
 refine bE 16 8 uZ ?_
 refine sqk (.string (aB (fX S nn))) uZ (fun cx=>⟨_,j5 8 0 nn none 0 [] (aI (aH S nn)) _ (fun j u h=>by cases j<;>cases h) (by decide) (fun e he=>by cases he) (by omega),(aw (cx.ou 143))⟩) fun Sn MB=>?_
 refine sqp [.k 145 (vi (((aB (fX S nn)).size:Int))),sI 146 (z+((aB (fX S nn)).size:Int)) (by omega),.m 17 146] ?_
 refine av (aa (sqr (sqp [sI 147 ((i:Int)+1) (by omega),.m 117 147] ?_)))
 refine aa ?_
 obtain⟨fp162_,hk162_⟩:=St.stf (S:=Sj) (MB) (hrw1) (hrr1)
 refine⟨m-((i+1)),by omega,?_⟩
 exact⟨(i+1),(g+1),Ij,Ik,(z+((aB (fX S nn)).size:Int)),fp162_,by omega,by rw[hnd1,List.length_append,hg];rfl,by rw[htk,DJ S _ _ him];omega,by omega,rfl,(by kernel_rfl),hk162_.pk [1,2,3,4,5,6,0]⟩
 refine wp_exit (aq (aq (bj (aa (wq (wq ?_))))))
 have hie:i=m:=by omega
 have hto:os.take i=os:=List.take_of_length_le (by omega)
 rw[hto] at hg hz1 qT
 have hgm:g<=64:=by have h1:=o5 S os;omega
 have hnz:jW S r=Sj.D.log.size+z.toNat:=by rw[jW,<-hosF,hevj.log,hz1];omega
 obtain⟨⟨hrw1,hrr1⟩,mb1,RA1,rc1,EA1,ec1,ib1,tb1,fpd1,hv163_⟩:=qT.u6.unf
 refine sqr (au 10 hv163_ ?_)
 refine sqp [.k 149 (vp sb),.k 150 (vp sb)] ?_
 refine au 0 hv163_ ?_
 refine sqk (.string Sj.D.log) hv163_ (fun cx=>⟨_,jz db Sj.D _ (fa (CtxV.holdF cx (cx.init 9 _ rfl) rfl)),(aw (cx.ou 151))⟩) fun PI ve=>?_
 refine sqp [.k 153 (vi ((Sj.D.log.size:Int))),.m 154 17,sI 155 ((Sj.D.log.size:Int)+z) (by omega),.k 156 (.bool (decide (1048576<(Sj.D.log.size:Int)+z)))] ?_
 refine aa (wds (fun CW MC=>?_) fun CW MC=>?_)
 refine wq (sqr (sqp [.k 4 (vi 0),.k 5 (vi 31)] ?_))
 refine aa (wp_ret (aj ?_))
 refine bpr (.tuple #[vi 0,vi 31]) (aO Tryz.results17 rpt rpt) ?_
 obtain⟨fp176_,hk176_⟩:=St.stf (S:=Sj) (ve) (hrw1) (hrr1)
 exact fF.of (.full hda hin hevj her9 (by have h_:=CW;simp at h_;omega)) (hokj.mono (by omega)) (hk176_.pick [0] (by decide) rfl)
 refine wp_skip (aa (wq (wq ?_)))
 have hfit:jW S r<=1048576:=by have h_:=CW;simp at h_;omega
 obtain⟨fp177_,hk177_⟩:=St.stf (S:=Sj) (ve) (hrw1) (hrr1)
 refine sqr (sqp [.m 157 18,.k 158 (vi ((g:Int))),.k 159 (vi 0)] ?_)
 refine aa (wp_block ?_)
 refine aT (fun t_ mz az W=>∃k:Nat,∃Sk:StM,∃fpk:List Nat,k<=g/\(∀S9 er,ApI Sk ((fe S os).drop k) S9 er->ApI Sj (fe S os) S9 er)/\SOk Sk (c+200+k)/\(⟨r,cC,cH⟩:RcT)∈Sk.rr/\Sk.rows=Sj.rows/\Sk.recs.length=S.recs.length+k/\Sk.D.pgs.length=S.D.pgs.length/\mz=g-k/\az=⟨(ovr (jv az) [(4,4,2,[]),(19,25,2,[]),(132,159,0,[vi ((k:Int))]),(0,160,16,[])] t_).toArray,[]⟩/\St w fp [eB bA 31 #[vp sb],eB cT 27 #[vi r.kind,vi r.xid,vi r.tbl,sn,sn,.slice cC r.eds.length cH,sn,.string r.note],eMx kcI pgX Tryz.prog 3 iM nW (mW),eMx kcI pgX Tryz.prog 3 g0 nN (mN),eO 3 1 (.slice OA m oc) m (os.map (Value.int .i64)),eO 27 8 (.slice GA g gc) g ((eE S os).flatMap (icC S)),eSt sb db Sk fpk] W) (g-0) ?_ ?_
 exact⟨0,Sj,fp177_,Nat.zero_le _,fun S9 er h=>h,hokj.mono (by omega),hrtj,rfl,by rw[hevj.recs];rfl,hevj.len,rfl,(by kernel_rfl),hk177_.pk [1,2,3,4,5,6,0]⟩
 rintro So a181 Sp ⟨k,Sk,fpk,hk,hcont,hokk,hrtk,hrowk,hreck,hpk,rfl,hj_,oy⟩
 refine ovz hj_ fun RH=>?_
 refine wq (sqr (sqp [.k 160 (.bool (decide ((k:Int)<(g:Int))))] ?_))
 refine aa (wq (wds (fun Ob MD=>?_) fun Ob MD=>?_))
 refine wp_skip (aa (wq (wp_block (wq ?_))))
 obtain⟨nn,hnn⟩:∃n,(eE S os)[k]? =some n:=⟨_,List.getElem?_eq_getElem (by omega)⟩
 have hno:nn∈os:=si (List.mem_of_getElem? hnn)
 have hpn:=hpro nn hno
 have hkn:kcI.ok nn:=by constructor<;>omega
 have hdr:(fe S os).drop k=fX S nn::(fe S os).drop (k+1):=by rw[List.drop_eq_getElem_cons (by rw[fe,List.length_map];omega)];congr 1;exact(List.getElem?_eq_some_iff.1 ((List.getElem?_map ..).trans (by rw[hnn];rfl))).2
 have hir:=m8 hok hpn
 refine sqr ?_
 refine sql (.pointer (some ((ad GA).add (k*8)))) oy (fun cx=>aG (e:=27) (m:=k) (sz:=8) rfl (by kernel_rfl) (by kernel_rfl) (cx.ou 157) (cx.ou 159) (by omega) (by omega) (At.of_ownN (cx.ri 5 rfl)) (bp (sz:=8) (Bm S) (by decide) (by omega))) ?_
 refine sql (.agg #[vi 8,vi 0,vi nn,sn,sn,sn,sn,.string ((aI (aH S nn)))]) oy (fun cx=>bQ (f:=(icC S)) (m:=k) (sz:=8) (off:=0) (n:=8) rfl (by kernel_rfl) (by kernel_rfl) (cx.ou 161) rfl (Bm S) (At.of_ownN (cx.ri 5 rfl)) hnn (fun k hk=>match k,hk with|0,_=>rfl|1,_=>rfl|2,_=>rfl|3,_=>rfl|4,_=>rfl|5,_=>rfl|6,_=>rfl|7,_=>rfl|k+8,hk=>absurd hk (by omega))) ?_
 refine b9 #[vi 0,vi 0,vi 0,sn,sn,sn,sn,.string ByteArray.empty] oy fun KG Sr ME=>?_
 refine aX (n:=8) 7 #[vi 8,vi 0,vi nn,sn,sn,sn,sn,.string ((aI (aH S nn)))] ME fun Ss MF=>?_
 refine aa (wq (wq ?_))
 have hn188:=fh MF 84 3
 simp only[List.cons_append,List.nil_append] at hn188
 obtain⟨Sq,fp189_,hSq,hg189_⟩:=St.rRn (r:=(rcI (fX S nn))) hn188.u6.u8
 have hokq:SOk Sq (c+200+k):=hSq ▸ hokk.rr _
 have hrtq:rcI (fX S nn)∈Sq.rr:=by rw[<-hSq];exact List.mem_append_right _ (List.mem_singleton.2 rfl)
 refine sqr (au 1 hg189_ ?_)
 refine bE 7 8 hg189_ ?_
 refine bG (fun X_=>X_.fp) (vi ((bv Sq (rcI (fX S nn))).2)) (fun Fv=>eSt sb db ((bv Sq (rcI (fX S nn))).1) Fv) 0 hg189_ (by
   refine svA fun d b W X cx=>?_
   refine am.call (al (args:=#[vp sb,.agg #[vi 8,vi 0,vi nn,sn,sn,sn,sn,.string ((aI (aH S nn)))]]) rfl cx.sees rfl (by kernel_rfl) (aN (cx.ou 163) (cx.ou 164))) ?_
   refine(nv sb db Sq (rcI (fX S nn)) (c+200+k) _ _ (CtxV.holdF cx (cx.init 0 _ rfl) rfl) (CtxV.ltF cx (cx.init 0 _ rfl) rfl) hokq hir hrtq).mono ?_
   rintro e W1 ⟨rfl,fp4,aM⟩
   refine⟨_,rfl,aK (E:=eSt sb db Sq fp189_) [eSt sb db (bv Sq (rcI (fX S nn))).1 fp4] (cx.init 0 _ rfl) rfl rfl aM (fun o q X' hs hb hv hN=>?_)⟩
   have aJ:=(hv 165 rfl).1;have aQ:=(hv 165 rfl).2
   exact⟨aJ.trans rfl,gK ((List.cons.inj hN).1)⟩) fun Fv PJ oz=>?_
 refine sqp [.m 26 165] ?_
 refine aa (wq (sqr (sqp [.m 166 26,.k 167 (.bool (((bv Sq (rcI (fX S nn))).2) != 0))] ?_)))
 refine aa (wbs (fun rL=>?_) fun rL=>?_)
 have MG:=bne_iff_ne.1 rL
 refine wq (sqr (sqp [.m 168 26,.k 4 (vi 0),.m 5 168] ?_))
 refine aa (wp_ret (aj (ba (aj (aj (ba (aj ?_)))))))
 refine bpr (.tuple #[vi 0,vi ((bv Sq (rcI (fX S nn))).2)]) (aO Tryz.results17 rpt rpt) ?_
 exact fF.of (.img hda hin hevj ⟨_,hokj⟩ her9 hfit (by rw[<-hosF];refine hcont _ _ ?_;rw[hdr];have h_:=ApI.bad (S:=Sk) (l:=(fe S os).drop (k+1)) (Sk.rr++[rcI (fX S nn)]) (by rw[hSq];simpa using rL);rw[hSq] at h_;exact h_) (by simpa using rL)) ((hokq.append hir).mono (by omega)) (oz.pick [0] (by decide) rfl)
 have MG:=bne_eq_false_iff_eq.1 rL
 refine wp_skip (aa ?_)
 have he0:(bv Sq (rcI (fX S nn))).2=0:=by simpa using rL
 obtain⟨S3,hS3⟩:∃z,(bv Sq (rcI (fX S nn))).1=z:=⟨_,rfl⟩
 rw[hS3] at oz
 have hok3:SOk S3 (c+200+k):=hS3 ▸ hokq.append hir
 have hni3:=hok3.ni
 obtain⟨⟨hrw3,hrr3⟩,mb3,RA3,rc3,EA3,ec3,ib3,tb3,fpd3,hv200_⟩:=oz.unf
 refine aD [0,1,3,7,0,16,63] [[10],[],[],[0],[],[16],[7]] [[],[],[],[],[],[],[17]] [[],[],[],[],[],[],[7]] [.c 169 (vp sb),.k 170 (vp sb),.k 171 (po sb 6),.c 172 (.map (some ib3)),.k 173 (po KG 2),.c 174 (vi nn),.n] (fun ix o b X=>match ix with|0|1|2|3|4|5=>True|6=>X 17=eMx kcI ecB Tryz.prog 3 ib3 ((mzP S3.im nn S3.ni)) (cd S3.im nn (some true))|_=>True) [0,1,2,3,4,5,6,8,9,10,11,12,13,14,15,16,17] [0,3,5,6] [(169,0,6,175)] hv200_ ?_ ?_ ?_
 exact fun ix _ _ _ _ _ _ hs hb hx h=>match ix,h with
 |6,h=>by dsimp only;rw[<-hx 17 rfl];exact h
 |0,_|1,_|2,_|3,_|4,_|5,_|_+7,_=>trivial
 refine⟨?_,?_,?_,?_,trivial⟩
 exact xs4 rfl id fun cx=>ae rfl (by kernel_rfl) (cx.ou 2) ((cx.bi 10 rfl).cell 0)
 exact xs4 rfl id fun cx=>ae rfl (by kernel_rfl) (cx.an 2) ((cx.bi 0 rfl).cell 6)
 exact xs4 rfl id fun cx=>ae rfl (by kernel_rfl) (cx.an 4) ((cx.bi 16 rfl).cell 2)
 refine svA fun d b W X cx=>?_
 exact go (e:=4) (v:=true) (.inl rfl) (cx.an 3) (show d _=Kc.enc kcI nn from(cx.an 5)) (show d _=Ec.enc ecB true from(cx.co _)) cx (cx.init 7 _ rfl) rfl (trivial) (by omega) (hkn) rfl rfl rfl (fun _ _ _ _ _=>id) (hk:=show Program.underlying _ _= _ from by kernel_rfl)
 intro o b X Su hD Fw fr aC
 simp only[exq 17 ((dTn (hD 6 lq)))] at Fw
 clear hD;subst aC;clear o b X
 refine av (aa (sqr (sqp [sI 175 ((k:Int)+1) (by omega),.m 159 175] ?_)))
 refine aa ?_
 obtain⟨fp204_,hk204_⟩:=St.stf (S:=(imS S3 nn)) (Fw.u16.u7.u7.u7.u7.u7.u7.u7) (hrw3) (hrr3)
 refine⟨g-((k+1)),by omega,?_⟩
 exact⟨(k+1),(imS S3 nn),fp204_,by omega,fun S9 er h=>hcont S9 er (by rw[hdr];exact ApI.cons (Sk.rr++[rcI (fX S nn)]) (by rw[hSq];exact he0) (by rw[hSq,hS3];exact h)),(hok3.im nn).mono (by omega),by show _∈S3.rr;rw[<-hS3,(jD _ _).2.1,<-hSq];exact List.mem_append_left _ hrtk,by show S3.rows= _;rw[<-hS3,(jD _ _).1,<-hSq];exact hrowk,by show S3.recs.length= _;rw[<-hS3,wZ he0,List.length_append,<-hSq];show Sk.recs.length+1= _;omega,by show S3.D.pgs.length= _;rw[<-hS3,(jD _ _).2.2.2.2.2.1,<-hSq];exact hpk,rfl,(by kernel_rfl),hk204_.pk [1,2,3,4,5,6,0]⟩
 refine wp_exit (aq (aq (bj (aa (wq (wq ?_))))))
 have hai:ApI Sj (fe S os) Sk 0:=hcont _ _ (by rw[List.drop_of_length_le (by rw[fe,List.length_map];omega)];exact ApI.nil _)
 refine sqr (au 0 oy ?_)
 refine bE 1 8 oy ?_
 refine bG (fun X_=>X_.fp) (vi ((bv Sk (⟨r,cC,cH⟩:RcT)).2)) (fun zK=>eSt sb db ((bv Sk (⟨r,cC,cH⟩:RcT)).1) zK) 6 oy (by
   refine svA fun d b W X cx=>?_
   refine am.call (al (args:=#[vp sb,.agg #[vi r.kind,vi r.xid,vi r.tbl,sn,sn,.slice cC r.eds.length cH,sn,.string r.note]]) rfl cx.sees rfl (by kernel_rfl) (aN (cx.ou 176) (cx.ou 177))) ?_
   refine(nv sb db Sk (⟨r,cC,cH⟩:RcT) (c+200+k) _ _ (CtxV.holdF cx (cx.init 6 _ rfl) rfl) (CtxV.ltF cx (cx.init 6 _ rfl) rfl) hokk hda.1 hrtk).mono ?_
   rintro e W1 ⟨rfl,fp4,aM⟩
   refine⟨_,rfl,aK (E:=eSt sb db Sk fpk) [eSt sb db (bv Sk (⟨r,cC,cH⟩:RcT)).1 fp4] (cx.init 6 _ rfl) rfl rfl aM (fun o q X' hs hb hv hN=>?_)⟩
   have aJ:=(hv 178 rfl).1;have aQ:=(hv 178 rfl).2
   exact⟨aJ.trans rfl,gK ((List.cons.inj hN).1)⟩) fun zK Sv zL=>?_
 refine sqp [.m 27 178] ?_
 refine aa (wq (sqr (sqp [.m 179 27,.k 180 (.bool (((bv Sk (⟨r,cC,cH⟩:RcT)).2) != 0))] ?_)))
 refine aa (wbs (fun vf=>?_) fun vf=>?_)
 have MH:=bne_iff_ne.1 vf
 refine wq (sqr (sqp [.m 181 27,.k 4 (vi 0),.m 5 181] ?_))
 refine aa (wp_ret (aj ?_))
 refine bpr (.tuple #[vi 0,vi ((bv Sk (⟨r,cC,cH⟩:RcT)).2)]) (aO Tryz.results17 rpt rpt) ?_
 exact fF.of (.app (rt:=(⟨r,cC,cH⟩:RcT)) hda hin hevj ⟨_,hokj⟩ her9 hfit (by rw[<-hosF];exact hai) rfl (by simpa using vf)) ((hokk.append hda.1).mono (by omega)) (zL.pick [6] (by decide) rfl)
 have MH:=bne_eq_false_iff_eq.1 vf
 refine wp_skip (aa (wq (wq ?_)))
 have he5:(bv Sk (⟨r,cC,cH⟩:RcT)).2=0:=by simpa using vf
 obtain⟨S5,hS5⟩:∃z,(bv Sk (⟨r,cC,cH⟩:RcT)).1=z:=⟨_,rfl⟩
 rw[hS5] at zL
 have hok5:SOk S5 (c+300):=hS5 ▸ ((hokk.append hda.1).mono (by omega))
 have hlsn:(S5.recs.length:Int)=(ez S r):=by rw[<-hS5,wZ he5,List.length_append,hreck,ez,<-hosF];simp only[List.length_singleton];omega
 have hrow5:S5.rows=Sj.rows:=by rw[<-hS5,(jD _ _).1];exact hrowk
 refine sqr (sqp [.m 182 6,.k 183 (vi ((m:Int))),.k 184 (vi 0)] ?_)
 refine aa (wp_block ?_)
 refine aT (fun t_ mz az W=>∃ii:Nat,∃Sl:StM,∃fpl:List Nat,ii<=m/\(∀S9 er,PuA (aH S) (bo (aH S) r.eds) (ez S r) Sl (os.drop ii) S9 er->PuA (aH S) (bo (aH S) r.eds) (ez S r) S5 os S9 er)/\SOk Sl (c+300+4*ii)/\Sl.recs=S5.recs/\(∀p∈Sj.rows,p∈Sl.rows)/\mz=m-ii/\az=⟨(ovr (jv az) [(4,4,2,[]),(23,29,3,[]),(152,184,0,[vi ((ii:Int))]),(0,185,35,[])] t_).toArray,[]⟩/\St w fp [eB bA 31 #[vp sb],eMx kcI pgX Tryz.prog 3 iM nW (mW),eMx kcI pgX Tryz.prog 3 g0 nN (mN),eO 3 1 (.slice OA m oc) m (os.map (Value.int .i64)),eSt sb db Sl fpl] W) (m-0) ?_ ?_
 exact⟨0,S5,zK,Nat.zero_le _,fun S9 er h=>h,hok5.mono (by omega),rfl,fun p hp=>by rw[hrow5];exact hp,rfl,(by kernel_rfl),zL.pk [0,2,3,4,6]⟩
 rintro Sw a218 Sy ⟨ii,Sl,fpl,hii,hcon4,hokl,hrecl,hrowl,rfl,hj_,qU⟩
 refine ovz hj_ fun RI=>?_
 refine wq (sqr (sqp [.k 185 (.bool (decide ((ii:Int)<(m:Int))))] ?_))
 refine aa (wq (wds (fun Oc MI=>?_) fun Oc MI=>?_))
 ·refine wp_skip (aa (wq (wp_block (wq ?_))))
  obtain⟨nn,hnn⟩:∃n,os[ii]? =some n:=⟨_,List.getElem?_eq_getElem (by omega)⟩
  have hno:nn∈os:=List.mem_of_getElem? hnn
  have hpn:=hpro nn hno
  have hkn:kcI.ok nn:=by constructor<;>omega
  have htk:os.take (ii+1)=os.take ii++[nn]:=by rw[List.take_add_one,hnn];rfl
  obtain⟨pg,hpm,hmN,hpi,hps⟩:=hI9.n nn hno
  obtain⟨pgw,hpmw,hmW,hpiw⟩:=hI9.w nn hno
  have hdr:os.drop ii=nn::os.drop (ii+1):=by rw[List.drop_eq_getElem_cons (by omega)];congr 1;exact(List.getElem?_eq_some_iff.1 hnn).2
  have hlsl:(Sl.recs.length:Int)=(ez S r):=by rw[hrecl];exact hlsn
  have hgl:(⟨(((bo (aH S) r.eds) nn).1,(Sl.recs.length:Int),((bo (aH S) r.eds) nn).2.2),pg.A,pg.c⟩:PgR)∈Sj.rows:=by rw[hlsl];have h_:=hps (by simp);obtain⟨p1,p2,p3⟩:=pg;dsimp only at h_;subst h_;exact hpm
  refine sqr ?_
  refine sql (.pointer (some ((ad OA).add ii))) qU (fun cx=>bK (e:=3) (m:=ii) rfl (by kernel_rfl) (by kernel_rfl) (cx.ou 182) (cx.ou 184) (by omega) (by omega) (At.of_own (cx.ri 3 rfl)) (by rw[List.length_map];omega)) ?_
  refine sql (vi nn) qU (fun cx=>ae rfl (by kernel_rfl) (cx.ou 186) (At.cellAd (At.of_own (cx.ri 3 rfl)) ((List.getElem?_map ..).trans (by rw[hnn];rfl)))) ?_
  refine sqp [.m 29 187] ?_
  refine aa (wq (sqr (sqp [.m 188 8,.m 189 29] ?_)))
  refine sql (.agg #[vi (((bo (aH S) r.eds) nn).1),vi (((bo (aH S) r.eds) nn).2.1),.slice pg.A (((bo (aH S) r.eds) nn).2.2.length) pg.c]) qU (fun cx=>(c5 (e:=48) (C:=pgX) (K:=kcI) (x:=nn) rfl (cx.ou 188) (cx.ou 189) (CtxV.mx cx (cx.init 2 _ rfl) rfl) (h0:=by kernel_rfl) (hx:=hkn) (hk:=show Program.underlying _ _= _ from by kernel_rfl)).trans (by rw[hmN];rfl)) ?_
  refine b9 #[vi 0,vi 0,sn] qU fun Bw Sz MJ=>?_
  refine aX (n:=3) 5 #[vi (((bo (aH S) r.eds) nn).1),vi (((bo (aH S) r.eds) nn).2.1),.slice pg.A (((bo (aH S) r.eds) nn).2.2.length) pg.c] MJ fun SB MK=>?_
  refine aa (wq ?_)
  obtain⟨⟨hrw4,hrr4⟩,mb4,RA4,rc4,EA4,ec4,ib4,tb4,fpd4,hv229_⟩:=MK.u4.unf
  have hntl:=hokl.nt
  refine sqr (au 10 hv229_ ?_)
  refine sqp [.k 192 (vp sb),.k 193 (po sb 4)] ?_
  refine au 0 hv229_ ?_
  refine sqp [.k 195 (vi ((Sl.recs.length:Int))),.k 196 (po Bw 1)] ?_
  refine aX (n:=1) 14 #[vi (((bo (aH S) r.eds) nn).1),vi ((Sl.recs.length:Int)),.slice pg.A (((bo (aH S) r.eds) nn).2.2.length) pg.c] hv229_ fun SC mU=>?_
  refine aa (wq (wq (sqr (sqp [.m 197 7,.m 198 29] ?_))))
  refine sql (.agg #[vi ((aH S nn).1),vi ((aH S nn).2.1),.slice pgw.A ((aH S nn).2.2.length) pgw.c]) mU (fun cx=>(c5 (e:=48) (C:=pgX) (K:=kcI) (x:=nn) rfl (cx.ou 197) (cx.ou 198) (CtxV.mx cx (cx.init 11 _ rfl) rfl) (h0:=by kernel_rfl) (hx:=hkn) (hk:=show Program.underlying _ _= _ from by kernel_rfl)).trans (by rw[hmW];rfl)) ?_
  refine sql (vi ((aH S nn).1)) mU (fun cx=>lH rfl (cx.ou 199) (fun _=>by kernel_rfl)) ?_
  refine sqp [.k 201 (.bool (((aH S nn).1) != 0)),.m 202 201] ?_
  refine dY 202 [203,204,205] ?_ rfl (fun hq=>?_) ?_
  rotate_left
  refine sqp [.k 203 (vp Bw)] ?_
  refine au 14 mU ?_
  refine sqp [.k 205 (.bool ((((bo (aH S) r.eds) nn).1)==0))] ?_
  exact sqe
  refine cY ?_
  refine sqp [sPa 206 (((aH S nn).1) != 0) ((((bo (aH S) r.eds) nn).1)==0)] ?_
  refine aa (wbs (fun vg=>?_) fun vg=>?_)
  have vh:=vg
  simp only[zB] at vh
  obtain⟨P2,P3⟩:=vh
  refine sqr (au 10 mU ?_)
  refine sqp [.k 208 (vp sb),.k 209 (po sb 7)] ?_
  refine au 0 mU ?_
  refine sqp [.m 211 29] ?_
  refine sqc (eMx kcI ecB Tryz.prog 3 tb4 ((mzP Sl.told nn Sl.nt)) (cd Sl.told nn (some false))) 8 mU (by
    refine svA fun d b W X cx=>?_
    exact go (e:=4) (v:=false) (.inl rfl) (cx.ou 210) (show d _=Kc.enc kcI nn from(cx.ou 211)) (show d _=Ec.enc ecB false from(cx.co _)) cx (cx.init 8 _ rfl) rfl (trivial) (by omega) (hkn) rfl rfl rfl (fun _ _ _ _ _=>id) (hk:=show Program.underlying _ _= _ from by kernel_rfl)) fun SD ML=>?_
  refine aa (wq ?_)
  obtain⟨fp254_,hk254_⟩:=St.stf (S:=(eF Sl nn false)) (ML) (hrw4) (hrr4)
  obtain⟨Sx,hSx⟩:∃z,(eF Sl nn false)=z:=⟨_,rfl⟩
  have hxi:(if (aH S nn).1≠0/\((bo (aH S) r.eds) nn).1=0 then eF Sl nn false else Sl)=Sx:=by rw[<-hSx];exact if_pos (by have h_:=vg;simpa using h_)
  have hokx:SOk Sx (c+300+4*ii+1):=hSx ▸ hokl.told nn false
  have hxrec:Sx.recs=Sl.recs:=by cases hSx;rfl
  have hxrow:∀p∈Sl.rows,p∈Sx.rows:=fun p hp=>by rw[<-hSx];exact hp
  rw[show eSt sb db (eF Sl nn false)=eSt sb db Sx by rw[hSx]] at hk254_
  refine sqr (au 1 hk254_ ?_)
  refine sqp [.m 213 29] ?_
  refine bE 5 3 hk254_ ?_
  refine oI (fun x_=>tZ x_) (fun X_=>X_.fp) (fun er215_258=>vi er215_258) (fun er215_258 zM=>eSx sb db (fun S2=>eh Sx nn (⟨(((bo (aH S) r.eds) nn).1,(Sl.recs.length:Int),((bo (aH S) r.eds) nn).2.2),pg.A,pg.c⟩:PgR) S2 er215_258) zM) 0 hk254_ (by
    refine svA fun d b W X cx=>?_
    refine am.call (al (args:=#[vp sb,vi nn,.agg #[vi (((bo (aH S) r.eds) nn).1),vi ((Sl.recs.length:Int)),.slice pg.A (((bo (aH S) r.eds) nn).2.2.length) pg.c]]) rfl cx.sees rfl (by kernel_rfl) (dG (cx.ou 212) (cx.ou 213) (cx.ou 214))) ?_
    refine(sR sb db Sx nn (⟨(((bo (aH S) r.eds) nn).1,(Sl.recs.length:Int),((bo (aH S) r.eds) nn).2.2),pg.A,pg.c⟩:PgR) (c+300+4*ii+1) _ _ (CtxV.holdF cx (cx.init 0 _ rfl) rfl) (CtxV.ltF cx (cx.init 0 _ rfl) rfl) hokx (by omega) hkn (hxrow _ (hrowl _ hgl))).mono ?_
    rintro e W1 ⟨er4,rfl,fp4,aM⟩
    refine⟨_,rfl,aK (E:=eSt sb db Sx fp254_) [eSx sb db (fun S2=>eh Sx nn (⟨(((bo (aH S) r.eds) nn).1,(Sl.recs.length:Int),((bo (aH S) r.eds) nn).2.2),pg.A,pg.c⟩:PgR) S2 er4) fp4] (cx.init 0 _ rfl) rfl rfl aM (fun o q X' hs hb hv hN=>?_)⟩
    have aJ:=(hv 215 rfl).1;have aQ:=(hv 215 rfl).2
    exact⟨aJ.trans (by rw[aQ];exact rfl),(by rw[aQ];exact fK ((List.cons.inj hN).1))⟩) fun er215_258 zM SF MM=>?_
  refine sqp [.m 31 215] ?_
  refine aa (wq ?_)
  obtain⟨S7,hP7,hy260_⟩:=MM.unx
  have hpl:(⟨(((bo (aH S) r.eds) nn).1,(Sl.recs.length:Int),((bo (aH S) r.eds) nn).2.2),pg.A,pg.c⟩:PgR).p=ip (ez S r) ((bo (aH S) r.eds) nn):=by show (_,_,_)=(_,_,_);rw[hlsl]
  have hri:=jB (fun n=>iB hok n) her9 nn
  have hok7:SOk S7 (c+300+4*(ii+1)):=(hokx.put (by rw[hpl];exact lK hri (by have h1:=hokl.recs_len;omega)) hP7).mono (by omega)
  refine sqr (sqp [.m 216 31,.k 217 (.bool (er215_258 != 0))] ?_)
  refine aa (wbs (fun rM=>?_) fun rM=>?_)
  have MN:=bne_iff_ne.1 rM
  refine wq (sqr (sqp [.m 218 31,.k 4 (vi 0),.m 5 218] ?_))
  refine aa (wp_ret (ba (aj (aj (ba (aj ?_))))))
  refine bpr (.tuple #[vi 0,vi er215_258]) (aO Tryz.results17 rpt rpt) ?_
  exact fF.of (by have h_:=DoQ.put (rt:=(⟨r,cC,cH⟩:RcT)) hda hin hevj ⟨_,hokj⟩ her9 hfit (by rw[<-hosF];exact hai) rfl he5 (by rw[hS5,<-hosF];exact hcon4 _ _ (by rw[hdr];exact PuA.bad hpl (by rw[hxi];exact hP7) (by simpa using rM)));rw[if_neg (by simpa using rM)] at h_;exact h_) (hok7.mono (by omega)) (hy260_.pick [0] (by decide) rfl)
  have MN:=bne_eq_false_iff_eq.1 rM
  refine wp_skip (av (aa ?_))
  have hpu0:eh (if (aH S nn).1≠0/\((bo (aH S) r.eds) nn).1=0 then eF Sl nn false else Sl) nn (⟨(((bo (aH S) r.eds) nn).1,(Sl.recs.length:Int),((bo (aH S) r.eds) nn).2.2),pg.A,pg.c⟩:PgR) S7 0:=by rw[hxi];exact yO hP7 (by simpa using rM)
  refine sqr (sqp [sI 219 ((ii:Int)+1) (by omega),.m 184 219] ?_)
  refine aa ?_
  refine⟨m-((ii+1)),by omega,?_⟩
  exact⟨(ii+1),S7,zM,by omega,fun S9 er h=>hcon4 S9 er (by rw[hdr];exact PuA.cons hpl hpu0 h),hok7,by rw[hP7.rr.2.1,hxrec];exact hrecl,fun p hp=>hP7.rows p (hxrow p (hrowl p hp)),rfl,(by kernel_rfl),hy260_.pk [1,2,3,4,0]⟩
  have vh:=vg
  simp only[zB] at vh
  refine wp_skip (aa (wq ?_))
  obtain⟨fp269_,hk269_⟩:=St.stf (S:=Sl) (mU) (hrw4) (hrr4)
  obtain⟨Sx,hSx⟩:∃z,Sl=z:=⟨_,rfl⟩
  have hxi:(if (aH S nn).1≠0/\((bo (aH S) r.eds) nn).1=0 then eF Sl nn false else Sl)=Sx:=by rw[<-hSx];exact if_neg (by have h_:=vg;simpa using h_)
  have hokx:SOk Sx (c+300+4*ii+1):=hSx ▸ hokl.mono (by omega)
  have hxrec:Sx.recs=Sl.recs:=by cases hSx;rfl
  have hxrow:∀p∈Sl.rows,p∈Sx.rows:=fun p hp=>by rw[<-hSx];exact hp
  rw[show eSt sb db Sl=eSt sb db Sx by rw[hSx]] at hk269_
  refine sqr (au 1 hk269_ ?_)
  refine sqp [.m 213 29] ?_
  refine bE 5 3 hk269_ ?_
  refine oI (fun x_=>tZ x_) (fun X_=>X_.fp) (fun er215_273=>vi er215_273) (fun er215_273 zN=>eSx sb db (fun S2=>eh Sx nn (⟨(((bo (aH S) r.eds) nn).1,(Sl.recs.length:Int),((bo (aH S) r.eds) nn).2.2),pg.A,pg.c⟩:PgR) S2 er215_273) zN) 0 hk269_ (by
    refine svA fun d b W X cx=>?_
    refine am.call (al (args:=#[vp sb,vi nn,.agg #[vi (((bo (aH S) r.eds) nn).1),vi ((Sl.recs.length:Int)),.slice pg.A (((bo (aH S) r.eds) nn).2.2.length) pg.c]]) rfl cx.sees rfl (by kernel_rfl) (dG (cx.ou 212) (cx.ou 213) (cx.ou 214))) ?_
    refine(sR sb db Sx nn (⟨(((bo (aH S) r.eds) nn).1,(Sl.recs.length:Int),((bo (aH S) r.eds) nn).2.2),pg.A,pg.c⟩:PgR) (c+300+4*ii+1) _ _ (CtxV.holdF cx (cx.init 0 _ rfl) rfl) (CtxV.ltF cx (cx.init 0 _ rfl) rfl) hokx (by omega) hkn (hxrow _ (hrowl _ hgl))).mono ?_
    rintro e W1 ⟨er4,rfl,fp4,aM⟩
    refine⟨_,rfl,aK (E:=eSt sb db Sx fp269_) [eSx sb db (fun S2=>eh Sx nn (⟨(((bo (aH S) r.eds) nn).1,(Sl.recs.length:Int),((bo (aH S) r.eds) nn).2.2),pg.A,pg.c⟩:PgR) S2 er4) fp4] (cx.init 0 _ rfl) rfl rfl aM (fun o q X' hs hb hv hN=>?_)⟩
    have aJ:=(hv 215 rfl).1;have aQ:=(hv 215 rfl).2
    exact⟨aJ.trans (by rw[aQ];exact rfl),(by rw[aQ];exact fK ((List.cons.inj hN).1))⟩) fun er215_273 zN SG MO=>?_
  refine sqp [.m 31 215] ?_
  refine aa (wq ?_)
  obtain⟨S7,hP7,hy275_⟩:=MO.unx
  have hpl:(⟨(((bo (aH S) r.eds) nn).1,(Sl.recs.length:Int),((bo (aH S) r.eds) nn).2.2),pg.A,pg.c⟩:PgR).p=ip (ez S r) ((bo (aH S) r.eds) nn):=by show (_,_,_)=(_,_,_);rw[hlsl]
  have hri:=jB (fun n=>iB hok n) her9 nn
  have hok7:SOk S7 (c+300+4*(ii+1)):=(hokx.put (by rw[hpl];exact lK hri (by have h1:=hokl.recs_len;omega)) hP7).mono (by omega)
  refine sqr (sqp [.m 216 31,.k 217 (.bool (er215_273 != 0))] ?_)
  refine aa (wbs (fun rN=>?_) fun rN=>?_)
  have MP:=bne_iff_ne.1 rN
  refine wq (sqr (sqp [.m 218 31,.k 4 (vi 0),.m 5 218] ?_))
  refine aa (wp_ret (ba (aj (aj (ba (aj ?_))))))
  refine bpr (.tuple #[vi 0,vi er215_273]) (aO Tryz.results17 rpt rpt) ?_
  exact fF.of (by have h_:=DoQ.put (rt:=(⟨r,cC,cH⟩:RcT)) hda hin hevj ⟨_,hokj⟩ her9 hfit (by rw[<-hosF];exact hai) rfl he5 (by rw[hS5,<-hosF];exact hcon4 _ _ (by rw[hdr];exact PuA.bad hpl (by rw[hxi];exact hP7) (by simpa using rN)));rw[if_neg (by simpa using rN)] at h_;exact h_) (hok7.mono (by omega)) (hy275_.pick [0] (by decide) rfl)
  have MP:=bne_eq_false_iff_eq.1 rN
  refine wp_skip (av (aa ?_))
  have hpu0:eh (if (aH S nn).1≠0/\((bo (aH S) r.eds) nn).1=0 then eF Sl nn false else Sl) nn (⟨(((bo (aH S) r.eds) nn).1,(Sl.recs.length:Int),((bo (aH S) r.eds) nn).2.2),pg.A,pg.c⟩:PgR) S7 0:=by rw[hxi];exact yO hP7 (by simpa using rN)
  refine sqr (sqp [sI 219 ((ii:Int)+1) (by omega),.m 184 219] ?_)
  refine aa ?_
  refine⟨m-((ii+1)),by omega,?_⟩
  exact⟨(ii+1),S7,zN,by omega,fun S9 er h=>hcon4 S9 er (by rw[hdr];exact PuA.cons hpl hpu0 h),hok7,by rw[hP7.rr.2.1,hxrec];exact hrecl,fun p hp=>hP7.rows p (hxrow p (hrowl p hp)),rfl,(by kernel_rfl),hy275_.pk [1,2,3,4,0]⟩
 refine wp_exit (aq (aq (bj (aa (wq ?_)))))
 obtain⟨⟨hrw5,hrr5⟩,mb5,RA5,rc5,EA5,ec5,ib5,tb5,fpd5,hv284_⟩:=qU.u4.unf
 refine sqr (au 10 hv284_ ?_)
 refine sqp [.k 221 (vp sb),.k 222 (po sb 4)] ?_
 refine au 0 hv284_ ?_
 refine sqp [.k 224 (vi ((Sl.recs.length:Int))),.m 4 224,.k 5 (vi 0)] ?_
 refine aa (wp_ret ?_)
 refine bpr (.tuple #[vi ((Sl.recs.length:Int)),vi 0]) (aO Tryz.results17 rpt rpt) ?_
 obtain⟨fp292_,hk292_⟩:=St.stf (S:=Sl) (hv284_) (hrw5) (hrr5)
 exact fF.of (by have h_:=DoQ.put (rt:=(⟨r,cC,cH⟩:RcT)) hda hin hevj ⟨_,hokj⟩ her9 hfit (by rw[<-hosF];exact hai) rfl he5 (by rw[hS5,<-hosF];exact hcon4 _ _ (by rw[List.drop_of_length_le (by omega)];exact PuA.nil _));rw[if_pos rfl,<-hlsn,<-hrecl] at h_;exact h_) (hokl.mono (by omega)) (hk292_.pick [0] (by decide) rfl)
end
section
open Go.RowKit Go.Maps Go.ChangeMaps
def kg(x:Int×Nat):Ent:=eB x.2 3 #[.int .i64 x.1]
theorem Lm{l:List (Int×Nat)}{W:World}(h:(eA (l.map kg)).holds W){x:Int×Nat}(hx:x∈l):Blk W x.2 3 #[.int .i64 x.1]:=(h.1 (kg x) (List.mem_map.2 ⟨x,hx,rfl⟩)).1
theorem St.addN{w0 W:World}{bor:List Nat}{L:List Ent}{l:List (Int×Nat)}{x:Int×Nat}(h:St w0 bor (L++[eA (l.map kg),kg x]) W):St w0 bor (L++[eA ((x::l).map kg)]) W:=by
 rw[List.map_cons]
 exact St.inA (A:=[]) h
theorem St.anf{w0 W:World}{bor:List Nat}{L:List Ent}{l:List (Int×Nat)}{x:Int×Nat}(h:St w0 bor (eA (List.map kg l)::kg x::L) W):St w0 bor (eA (List.map kg (x::l))::L) W:=St.fr (R:=[_,_]) h St.addN
def clV(q:Nat)(x:Int×Nat):Value:= .func (.func 71) #[] #[.pointer (some ⟨q,0,none⟩),.pointer (some ⟨x.2,0,none⟩)]
inductive ClA:StM->List Int->StM->Int->Prop where
 |nil (S:StM):ClA S [] S 0
 |bad {S:StM}{t:BfT}{l:List Int}(ht:t∈S.pool) (he:(aL S t).2≠0):ClA S (t.n::l) (aL S t).1 (aL S t).2
 |cons {S S2:StM}{t:BfT}{l:List Int}{er:Int}(ht:t∈S.pool) (he:(aL S t).2=0) (hr:ClA (aL S t).1 l S2 er):ClA S (t.n::l) S2 er
def dU(S:StM)(D:DkM):StM:={S with D:=D}
def ckE(S:StM):StM:={S with frm:=(S.recs.length:Int),ni:=0,im:=fun _=>none}
inductive CkQ (S:StM) (note:ByteArray):StM->Int->Prop where
 |arg (h:60000<note.size):CkQ S note S 1
 |full {q:List RcT}(h:note.size<=60000) (hf:1048576<S.D.log.size+(aB (aE note)).size):CkQ S note {S with rr:=q} 31
 |cl {q:List RcT}{ns:List Int}{S1:StM}{er:Int}(h:note.size<=60000) (hf:S.D.log.size+(aB (aE note)).size<=1048576) (hns:∀n,n∈ns<->∃t∈S.pool,t.n=n) (hc:ClA {S with rr:=q} ns S1 er) (he:er≠0):CkQ S note S1 er
 |sync {q:List RcT}{ns:List Int}{S1:StM}(h:note.size<=60000) (hf:S.D.log.size+(aB (aE note)).size<=1048576) (hns:∀n,n∈ns<->∃t∈S.pool,t.n=n) (hc:ClA {S with rr:=q} ns S1 0) (he:(opD S1.D 0 syD).2≠0):CkQ S note (dU S1 (opD S1.D 0 syD).1) (opD S1.D 0 syD).2
 |app {q:List RcT}{ns:List Int}{S1:StM}(h:note.size<=60000) (hf:S.D.log.size+(aB (aE note)).size<=1048576) (hns:∀n,n∈ns<->∃t∈S.pool,t.n=n) (hc:ClA {S with rr:=q} ns S1 0) (h1:(opD S1.D 0 syD).2=0)
   (he:(bv (dU S1 (opD S1.D 0 syD).1) (rcI (aE note))).2≠0):CkQ S note (bv (dU S1 (opD S1.D 0 syD).1) (rcI (aE note))).1 (bv (dU S1 (opD S1.D 0 syD).1) (rcI (aE note))).2
 |flush {q:List RcT}{ns:List Int}{S1 S2:StM}(h:note.size<=60000) (hf:S.D.log.size+(aB (aE note)).size<=1048576) (hns:∀n,n∈ns<->∃t∈S.pool,t.n=n) (hc:ClA {S with rr:=q} ns S1 0) (h1:(opD S1.D 0 syD).2=0)
   (h2:bv (dU S1 (opD S1.D 0 syD).1) (rcI (aE note))=(S2,0)) (he:(opD S2.D 0 flD).2≠0):CkQ S note (dU S2 (opD S2.D 0 flD).1) (opD S2.D 0 flD).2
 |ok {q:List RcT}{ns:List Int}{S1 S2:StM}(h:note.size<=60000) (hf:S.D.log.size+(aB (aE note)).size<=1048576) (hns:∀n,n∈ns<->∃t∈S.pool,t.n=n) (hc:ClA {S with rr:=q} ns S1 0) (h1:(opD S1.D 0 syD).2=0)
   (h2:bv (dU S1 (opD S1.D 0 syD).1) (rcI (aE note))=(S2,0)) (he:(opD S2.D 0 flD).2=0):CkQ S note (ckE (dU S2 (opD S2.D 0 flD).1)) 0
theorem Au(q2 q5 sb db:Nat)(S:StM)(rt:RcT)(c:Nat)(fp:List Nat)(w:World)(hB:(eSt sb db S fp).holds w)(hlt:∀k∈fp,k<w.heap.size)(h2:Blk w q2 31 #[po sb 0])(n2:q2∉fp)(n5:q5∉fp)(h5:Blk w q5 27 #[.int .i64 rt.r.kind,.int .i64 rt.r.xid,.int .i64 rt.r.tbl,sn,sn,.slice rt.A rt.r.eds.length rt.c,sn,.string rt.r.note])(hok:SOk S c)(hr:bz rt.r=true)(hrt:rt∈S.rr):
  Calls Tryz.prog 70 #[po q2 0,po q5 0] w (d4 sb db (bv S rt) fp w):=by
 have st1:St w fp [eSt sb db S fp] w:=St.lend hB (dp _ _ _ _) hlt
 go_enter Tryz.func70,Tryz.ntmps70
 have ak:=st1
 refine wq (sqr (sqp [.k 2 (vi 0)] ?_))
 refine aa (wq (sqr ?_))
 refine sql (vp sb) ak (fun cx=>ae rfl (by kernel_rfl) (cx.ou 0) (Blk.cell (h2.upd cx.upd n2) 0)) ?_
 refine sql (.agg #[vi rt.r.kind,vi rt.r.xid,vi rt.r.tbl,sn,sn,.slice rt.A rt.r.eds.length rt.c,sn,.string rt.r.note]) ak (fun cx=>ce (n:=8) rfl (by kernel_rfl) (by kernel_rfl) (cx.ou 1) (h5.upd cx.upd n5) (nle rfl) rfl) ?_
 refine bG (fun X_=>X_.fp) (vi ((bv S rt).2)) (fun zO=>eSt sb db ((bv S rt).1) zO) 0 ak (by
   refine svA fun d a W X cx=>?_
   refine am.call (al (args:=#[vp sb,.agg #[vi rt.r.kind,vi rt.r.xid,vi rt.r.tbl,sn,sn,.slice rt.A rt.r.eds.length rt.c,sn,.string rt.r.note]]) rfl cx.sees rfl (by kernel_rfl) (aN (cx.ou 3) (cx.ou 4))) ?_
   refine(nv sb db S rt c _ _ (CtxV.holdF cx (cx.init 0 _ rfl) rfl) (CtxV.ltF cx (cx.init 0 _ rfl) rfl) hok hr hrt).mono ?_
   rintro e W1 ⟨rfl,fp4,aM⟩
   refine⟨_,rfl,aK (E:=eSt sb db S fp) [eSt sb db (bv S rt).1 fp4] (cx.init 0 _ rfl) rfl rfl aM (fun b f X' hs hb hv hN=>?_)⟩
   have aJ:=(hv 5 rfl).1;have aQ:=(hv 5 rfl).2
   exact⟨aJ.trans rfl,gK ((List.cons.inj hN).1)⟩) fun zO W4 bb=>?_
 refine sqp [.m 2 5] ?_
 refine aa (wp_ret ?_)
 refine bpr (vi ((bv S rt).2)) (ag Tryz.results70 rpt) ?_
 exact d4.of (R':=(bv S rt)) rfl (bb.pick [0] (by decide) rfl)
theorem Al(q2 q7 sb db:Nat)(S:StM)(A B:List BfT)(t:BfT)(c:Nat)(fp:List Nat)(w:World)(hB:(eSt sb db S fp).holds w)(hlt:∀k∈fp,k<w.heap.size)(h2:Blk w q2 31 #[po sb 0])(n2:q2∉fp)(n7:q7∉fp)(h7:Blk w q7 3 #[.int .i64 t.n])(hok:SOk S c)(hc:c<=900000000)(hAB:S.pool=A++t::B):
  Calls Tryz.prog 71 #[po q2 0,po q7 0] w (d4 sb db (aL S t) fp w):=by
 have st1:St w fp [eSt sb db S fp] w:=St.lend hB (dp _ _ _ _) hlt
 go_enter Tryz.func71,Tryz.ntmps71
 have ak:=st1
 refine wq (sqr (sqp [.k 2 (vi 0)] ?_))
 refine aa (wq (sqr ?_))
 refine sql (vp sb) ak (fun cx=>ae rfl (by kernel_rfl) (cx.ou 0) (Blk.cell (h2.upd cx.upd n2) 0)) ?_
 refine sql (vi t.n) ak (fun cx=>ae rfl (by kernel_rfl) (cx.ou 1) (Blk.cell (h7.upd cx.upd n7) 0)) ?_
 refine bG (fun X_=>X_.fp) (vi ((aL S t).2)) (fun zO=>eSt sb db ((aL S t).1) zO) 0 ak (by
   refine svA fun d a W X cx=>?_
   refine am.call (al (args:=#[vp sb,vi t.n]) rfl cx.sees rfl (by kernel_rfl) (aN (cx.ou 3) (cx.ou 4))) ?_
   refine(uq sb db S A B t c _ _ (CtxV.holdF cx (cx.init 0 _ rfl) rfl) (CtxV.ltF cx (cx.init 0 _ rfl) rfl) hok hc hAB).mono ?_
   rintro e W1 ⟨rfl,fp4,aM⟩
   refine⟨_,rfl,aK (E:=eSt sb db S fp) [eSt sb db (aL S t).1 fp4] (cx.init 0 _ rfl) rfl rfl aM (fun b f X' hs hb hv hN=>?_)⟩
   have aJ:=(hv 5 rfl).1;have aQ:=(hv 5 rfl).2
   exact⟨aJ.trans rfl,gK ((List.cons.inj hN).1)⟩) fun zO W4 bb=>?_
 refine sqp [.m 2 5] ?_
 refine aa (wp_ret ?_)
 refine bpr (vi ((aL S t).2)) (ag Tryz.results71 rpt) ?_
 exact d4.of (R':=(aL S t)) rfl (bb.pick [0] (by decide) rfl)
end
section
open Go.RowKit Go.Maps Go.ChangeMaps
theorem CtxV.apF{ops:Array Oper}{L:List Nat}{a0:Act}{w0:World}{bor:List Nat}{X0:List Ent}{us:List (List Nat)}{D:Nat->(Tmp->Value)->(Tmp->Value)->(Nat->Ent)->Prop}{i:Nat}{b:Operand->Value}{a:Tmp->Value}{W:World}{X:Nat->Ent}{q q' k:Nat}{E F:Ent}(cx:CtxV ops L a0 w0 bor X0 us D i b a W X)(hX:X q=E)(hX':X q'=F)(hk:k∈E.fp)(hu:(atV us i).contains q=true)(hu':(atV us i).contains q'=true)(hne:q≠q'):k∉F.fp:=by
 subst hX hX'
 exact cx.ap q q' hu hu' hne k hk
theorem xo(b:Nat)(t:TypeId)(c:Array Value):b∈(eB b t c).fp:=List.mem_singleton.2 rfl
theorem ND{l:List (Int×Nat)}{x:Int×Nat}(h:x∈l):x.2∈(eA (l.map kg)).fp:=List.mem_flatMap.2 ⟨kg x,List.mem_map.2 ⟨x,h,rfl⟩,xo _ _ _⟩
def ckT(q2 q5 db:Nat):List Value:=[.func (.func 69) #[.pointer (some ⟨db,0,none⟩)] #[],.func (.func 70) #[] #[.pointer (some ⟨q2,0,none⟩),.pointer (some ⟨q5,0,none⟩)],.func (.func 63) #[.pointer (some ⟨db,0,none⟩)] #[]]
def lz(q2 q5 db:Nat)(bs:List (Int×Nat)):List Value:=bs.map (clV q2)++ckT q2 q5 db
theorem nV(q2 q5 db:Nat)(bs:List (Int×Nat)):(lz q2 q5 db bs).length=bs.length+3:=by simp[lz,ckT]
theorem Jn(q2 q5 db:Nat)(bs:List (Int×Nat)):∀u∈lz q2 q5 db bs,u.oneCell'=true:=fun u hu=>by
 rcases List.mem_append.1 hu with h|h
 obtain⟨x,_,rfl⟩:=List.mem_map.1 h;rfl
 simp only[ckT,List.mem_cons,List.not_mem_nil,or_false] at h
 rcases h with rfl|rfl|rfl<;>rfl
theorem Lv{q2 q5 db:Nat}{bs:List (Int×Nat)}{i:Nat}{x:Int×Nat}(h:bs[i]? =some x):(lz q2 q5 db bs)[i]? =some (clV q2 x):=by
 obtain⟨hi,rfl⟩:=List.getElem?_eq_some_iff.1 h
 rw[lz,List.getElem?_append_left (by simpa using hi),List.getElem?_map,List.getElem?_eq_getElem hi];rfl
theorem Ck{q2 q5 db:Nat}{bs:List (Int×Nat)}{i j:Nat}(h:i=bs.length+j):(lz q2 q5 db bs)[i]? =(ckT q2 q5 db)[j]? :=by
 subst h
 rw[lz,List.getElem?_append_right (by simp)];simp
theorem J0{l A B:List BfT}{t:BfT}{n:Int}(hd:(l.map BfT.n).Nodup)(h:l=A++t::B)(hn:t.n=n):atM l n=some (some t.blk):=by
 subst h hn;exact kT hd
theorem Ka{l:List BfT}{bs:List (Int×Nat)}{n:Nat}(h:∀x,x∈bs.map Prod.fst<->(∃t∈l,t.n=x)/\x<(n:Int)){t:BfT}(ht:t∈l)(hn:t.n=(n:Int))(b:Nat):∀x,x∈(((n:Int),b)::bs).map Prod.fst<->(∃t∈l,t.n=x)/\x<((n+1:Nat):Int):=fun x=>by
 rw[List.map_cons,List.mem_cons,h x]
 constructor
 rintro(rfl|⟨h1,h2⟩)
 exact⟨⟨t,ht,hn⟩,by omega⟩
 exact⟨h1,by omega⟩
 rintro⟨h1,h2⟩
 by_cases e:x=(n:Int)
 exact .inl e
 exact .inr ⟨h1,by omega⟩
theorem Jv{l:List BfT}{bs:List (Int×Nat)}{n:Nat}(h:∀x,x∈bs.map Prod.fst<->(∃t∈l,t.n=x)/\x<(n:Int))(hno:∀t∈l,t.n≠(n:Int)):∀x,x∈bs.map Prod.fst<->(∃t∈l,t.n=x)/\x<((n+1:Nat):Int):=fun x=>by
 rw[h x]
 constructor
 rintro⟨h1,h2⟩;exact⟨h1,by omega⟩
 rintro⟨⟨t,h1,h3⟩,h2⟩
 refine⟨⟨t,h1,h3⟩,?_⟩
 have:=hno t h1
 omega
def CkI(S0:StM)(ns:List Int)(note:ByteArray)(i:Nat)(Si:StM):Prop:=
 (i<=ns.length/\∀S2 er,ClA Si (ns.drop i) S2 er->ClA S0 ns S2 er)\/
 (i=ns.length+1/\∃S1,ClA S0 ns S1 0/\(opD S1.D 0 syD).2=0/\Si=dU S1 (opD S1.D 0 syD).1)\/
 (i=ns.length+2/\∃S1,ClA S0 ns S1 0/\(opD S1.D 0 syD).2=0/\bv (dU S1 (opD S1.D 0 syD).1) (rcI (aE note))=(Si,0))\/
 (i=ns.length+3/\∃S1 S2,ClA S0 ns S1 0/\(opD S1.D 0 syD).2=0/\bv (dU S1 (opD S1.D 0 syD).1) (rcI (aE note))=(S2,0)/\(opD S2.D 0 flD).2=0/\Si=dU S2 (opD S2.D 0 flD).1)
theorem CkI.ways{S0 Si:StM}{ns:List Int}{note:ByteArray}{i:Nat}(h:CkI S0 ns note i Si):
  (i<ns.length/\∀S2 er,ClA Si (ns.drop i) S2 er->ClA S0 ns S2 er)\/(i=ns.length+0/\ClA S0 ns Si 0)\/
  (i=ns.length+1/\∃S1,ClA S0 ns S1 0/\(opD S1.D 0 syD).2=0/\Si=dU S1 (opD S1.D 0 syD).1)\/
  (i=ns.length+2/\∃S1,ClA S0 ns S1 0/\(opD S1.D 0 syD).2=0/\bv (dU S1 (opD S1.D 0 syD).1) (rcI (aE note))=(Si,0))\/
  (i=ns.length+3/\∃S1 S2,ClA S0 ns S1 0/\(opD S1.D 0 syD).2=0/\bv (dU S1 (opD S1.D 0 syD).1) (rcI (aE note))=(S2,0)/\(opD S2.D 0 flD).2=0/\Si=dU S2 (opD S2.D 0 flD).1):=by
 rcases h with ⟨h1,h2⟩|h|h|h
 rcases Nat.lt_or_ge i ns.length with h3|h3
 exact .inl ⟨h3,h2⟩
 exact .inr (.inl ⟨by omega,h2 _ _ (by rw[List.drop_of_length_le h3];exact .nil _)⟩)
 exact .inr (.inr (.inl h))
 exact .inr (.inr (.inr (.inl h)))
 exact .inr (.inr (.inr (.inr h)))
theorem tK(S:StM)(t:BfT):(aL S t).1.pool.map BfT.n=S.pool.map BfT.n/\(aL S t).1.rr=S.rr/\(aL S t).1.recs=S.recs:=by
 have hs:∀(l:List BfT) (n:Int),(da l n clB).map BfT.n=l.map BfT.n:=fun l n=>by
  rw[da,List.map_map]
  refine List.map_congr_left fun u _=>?_
  show (if u.n=n then clB u else u).n=u.n
  split<;>rfl
 unfold aL
 split
 unfold bM
 split
 exact⟨rfl,rfl,rfl⟩
 refine⟨?_,rfl,rfl⟩
 show (if _ then da S.pool t.n clB else S.pool).map BfT.n= _
 split
 exact hs _ _
 rfl
 exact⟨rfl,rfl,rfl⟩
theorem SOk.sync{S:StM}{c:Nat}(h:SOk S c):SOk (dU S (opD S.D 0 syD).1) (c+0):=by
 have hsh:∀n,shP (opD S.D 0 syD).1 n=shP S.D n:=fun n=>cX (P:=fun D'=>shP D' n=shP S.D n) rfl rfl fun _=>by
  show rdP (rdT ((S.D.pgs.map syS).getD n.toNat gz)).1= _
  have e:(S.D.pgs.map syS).getD n.toNat gz=syS (S.D.pgs.getD n.toNat gz):=by
   rw[List.getD,List.getD,List.getElem?_map]
   cases S.D.pgs[n.toNat]? <;>rfl
  rw[e];rfl
 have hws:∀x∈(opD S.D 0 syD).1.pgs,x.ws.length<=c:=cX (P:=fun D'=>∀x∈D'.pgs,x.ws.length<=c) h.ws h.ws fun _ x hx=>by
  obtain⟨y,_,rfl⟩:=List.mem_map.1 hx
  exact Nat.zero_le _
 have hl:(opD S.D 0 syD).1.pgs.length=S.D.pgs.length:=cX (P:=fun D'=>D'.pgs.length=S.D.pgs.length) rfl rfl fun _=>List.length_map ..
 have hlog:(opD S.D 0 syD).1.log=S.D.log:=cX (P:=fun D'=>D'.log=S.D.log) rfl rfl fun _=>rfl
 have hfl:(opD S.D 0 syD).1.fl=S.D.fl:=cX (P:=fun D'=>D'.fl=S.D.fl) rfl rfl fun _=>rfl
 exact⟨h.bufs,by show (opD S.D 0 syD).1.pgs.length<=400;rw[hl];exact h.pgs,hws,h.time,h.ni,h.nt,h.right,h.nodup,h.len,fun t ht=>by show 0<=t.n/\t.n<((opD S.D 0 syD).1.pgs.length:Int);rw[hl];exact h.keys t ht,h.recs,by show (opD S.D 0 syD).1.log= _;rw[hlog];exact h.log,by show (opD S.D 0 syD).1.log.size<= _;rw[hlog];exact h.lsz,by show (opD S.D 0 syD).1.fl<=(opD S.D 0 syD).1.log.size;rw[hlog,hfl];exact h.fl,fun t ht hd=>by show _=shP (opD S.D 0 syD).1 t.n;rw[hsh];exact h.cl t ht hd⟩
theorem SOk.ckE{S:StM}{c:Nat}(h:SOk S c):SOk (ckE S) c:=⟨h.bufs,h.pgs,h.ws,h.time,Nat.zero_le _,h.nt,h.right,h.nodup,h.len,h.keys,h.recs,h.log,h.lsz,h.fl,h.cl⟩
theorem SOk.flush{S:StM}{c:Nat}(h:SOk S c):SOk (dU S (opD S.D 0 flD).1) c:=by
 have hp:(opD S.D 0 flD).1.pgs=S.D.pgs:=cX (P:=fun D'=>D'.pgs=S.D.pgs) rfl rfl fun _=>rfl
 have hlog:(opD S.D 0 flD).1.log=S.D.log:=cX (P:=fun D'=>D'.log=S.D.log) rfl rfl fun _=>rfl
 have hfl:(opD S.D 0 flD).1.fl<=S.D.log.size:=cX (P:=fun D'=>D'.fl<=S.D.log.size) h.fl h.fl fun _=>Nat.le_refl _
 exact⟨h.bufs,by show (opD S.D 0 flD).1.pgs.length<=400;rw[hp];exact h.pgs,by show ∀x∈(opD S.D 0 flD).1.pgs,_;rw[hp];exact h.ws,h.time,h.ni,h.nt,h.right,h.nodup,h.len,fun t ht=>by show 0<=t.n/\t.n<((opD S.D 0 flD).1.pgs.length:Int);rw[hp];exact h.keys t ht,h.recs,by show (opD S.D 0 flD).1.log= _;rw[hlog];exact h.log,by show (opD S.D 0 flD).1.log.size<= _;rw[hlog];exact h.lsz,by show (opD S.D 0 flD).1.fl<=(opD S.D 0 flD).1.log.size;rw[hlog];exact hfl,fun t ht hd=>by show _=shP (opD S.D 0 flD).1 t.n;rw[gY hp];exact h.cl t ht hd⟩
theorem Gs{l l':List BfT}(h:l.map BfT.n=l'.map BfT.n){n:Int}(hn:∃t∈l',t.n=n):∃t∈l,t.n=n:=by
 obtain⟨t,ht,e⟩:=hn
 have h1:n∈l.map BfT.n:=by rw[h];exact List.mem_map.2 ⟨t,ht,e⟩
 exact List.mem_map.1 h1
theorem EZ{S:StM}{rt:RcT}{S2:StM}(h:(bv S rt).2=0)(h2:(bv S rt).1=S2):bv S rt=(S2,0):=Prod.ext h2 h
def jg(sb db:Nat)(S:StM)(note:ByteArray)(c:Nat)(fp:List Nat)(w:World)(e:Ending)(w':World):Prop:=∃er,e= .returned (.int .i64 er)/\∃fp',St w fp [eSx sb db (fun S2=>CkQ S note S2 er/\SOk S2 (c+500)) fp'] w'
theorem jg.of{sb db:Nat}{S S2:StM}{note:ByteArray}{c:Nat}{er:Int}{fp fp':List Nat}{w w':World}(h:CkQ S note S2 er)(ho:SOk S2 (c+500))(hs:St w fp ([]++[eSt sb db S2 fp']) w'):jg sb db S note c fp w (.returned (.int .i64 er)) w':=⟨er,rfl,fp',St.sx (L:=[]) hs ⟨h,ho⟩⟩
end
section
open Go.RowKit Go.Maps Go.ChangeMaps
theorem Tryz.infoFnJ:(Tryz.prog.info? 52).map (fun i=>(i.zero,i.size,i.bytes))=some (some Value.nilFunc,1,8):=by kernel_rfl
theorem BM(sb db:Nat)(S:StM)(note:ByteArray)(c:Nat)(fp:List Nat)(w:World)(hB:(eSt sb db S fp).holds w)(hlt:∀k∈fp,k<w.heap.size)(hok:SOk S c)(hc:c<=800000)(hns:note.size<=9000000):
  Calls Tryz.prog 28 #[po sb 0,.string note] w (jg sb db S note c fp w):=by
 have st1:St w fp [eSt sb db S fp] w:=St.lend hB (dp _ _ _ _) hlt
 have hpg:=hok.pgs
 go_enter Tryz.func28,Tryz.ntmps28
 have ak:=st1
 refine wq (sqr ?_)
 refine bY #[vp sb] ak fun bA W1 aA=>?_
 refine sqp [.k 4 (vi 0)] ?_
 refine aa (wq (wq (sqr (au 1 aA ?_))))
 refine sqv (.bool false) aA (by
   exact sv0 rfl rfl rfl rfl rfl (fun _ _ _ h=>h) fun b g W X cx=>by
    have Ia:b (.tmp 11)=vp sb:=(cx.ou 11)
    simp[go_sem,cx.sees.const,Ia]) fun W4 bb=>?_
 refine sqp [.k 13 (.bool false)] ?_
 refine c9 13 [14,15,16] rfl rfl ?_
 refine sqp [.m 14 1,.k 15 (vi ((note.size:Int))),.k 16 (.bool (decide (60000<(note.size:Int))))] ?_
 refine sqp [.k 17 (.bool (decide (60000<(note.size:Int))))] ?_
 refine aa (wds (fun kw pv=>?_) fun kw pv=>?_)
 refine wq (sqr (sqp [.k 4 (vi 1)] ?_))
 refine aa (wp_ret (aj ?_))
 refine bpr (vi 1) (ag Tryz.results28 rpt) ?_
 exact jg.of (.arg (by have h_:=kw;simp at h_;omega)) (hok.mono (by omega)) (bb.pick [0] (by decide) rfl)
 refine wp_skip (aa (wq ?_))
 have hn6:note.size<=60000:=by have h_:=kw;simp at h_;omega
 have hfs:=eR (du hn6)
 have hn12:=fh bb 84 3
 simp only[List.cons_append,List.nil_append] at hn12
 obtain⟨S0,fp13_,hS0,hg13_⟩:=St.rRn (r:=(rcI (aE note))) hn12.u2
 have hok0:SOk S0 c:=hS0 ▸ hok.rr _
 have hrt0:(rcI (aE note))∈S0.rr:=by rw[<-hS0];exact List.mem_append_right _ (List.mem_singleton.2 rfl)
 have hD0:S0.D=S.D:=by rw[<-hS0]
 have hP0:S0.pool=S.pool:=by rw[<-hS0]
 have hlz:=hok0.lsz
 have hpg0:=hok0.pgs
 refine sqr (sqp [.m 18 1,.k 19 (.agg #[vi 9,vi 0,vi 0,sn,sn,sn,sn,.string note])] ?_)
 refine b9 #[vi 0,vi 0,vi 0,sn,sn,sn,sn,.string ByteArray.empty] hg13_ fun gV qE dt=>?_
 refine aX (n:=8) 2 #[vi 9,vi 0,vi 0,sn,sn,sn,sn,.string note] dt fun uF dO=>?_
 refine aa (wq (wq ?_))
 obtain⟨⟨hrw1,hrr1⟩,mb1,RA1,rc1,EA1,ec1,ib1,tb1,fpd1,hv18_⟩:=dO.unf
 refine bR [0,1,3,7,15,31,0,95,223,511,1023] [[10],[],[],[0],[9],[],[11]] [.c 20 (vp sb),.k 21 (vp sb),.k 22 (vp sb),.c 23 (vp db),.c 24 (.string S0.D.log),.k 25 (vi ((S0.D.log.size:Int))),.c 26 (.agg #[vi 9,vi 0,vi 0,sn,sn,sn,sn,.string note]),.c 27 (.string (aB (aE note))),.k 28 (vi (((aB (aE note)).size:Int))),tI 29 ((S0.D.log.size:Int)+((aB (aE note)).size:Int)) (by omega),.k 30 (.bool (decide (1048576<(S0.D.log.size:Int)+((aB (aE note)).size:Int))))] [0,1,2,3,4,5,6,7,8,9,10,11] [0,3,4,6,7] [(20,0,11,31)] hv18_ ?_ fun r9 de=>?_
 refine⟨?_,?_,?_,?_,?_,trivial⟩
 exact xs4 rfl id fun cx=>ae rfl (by kernel_rfl) (cx.ou 2) ((cx.bi 10 rfl).cell 0)
 exact xs4 rfl id fun cx=>ae rfl (by kernel_rfl) (cx.an 2) ((cx.bi 0 rfl).cell 0)
 exact xsc rfl id rfl rfl fun cx=>⟨_,jz db S0.D _ (fa (CtxV.holdF cx (cx.init 9 _ rfl) rfl)),(aw (cx.an 3))⟩
 exact xs4 rfl id fun cx=>ce (n:=8) rfl (by kernel_rfl) (by kernel_rfl) (cx.ou 5) (cx.bi 11 rfl) (nle rfl) rfl
 exact xsc rfl id rfl rfl fun cx=>⟨_,j5 9 0 0 none 0 [] note _ (fun j u h=>by cases j<;>cases h) (by decide) (fun e he=>by cases he) (by omega),(aw (cx.an 6))⟩
 refine aa (wds (fun Il Od=>?_) fun Il Od=>?_)
 refine wq (sqr (sqp [.k 4 (vi 31)] ?_))
 refine aa (wp_ret (aj ?_))
 refine bpr (vi 31) (ag Tryz.results28 rpt) ?_
 obtain⟨fp22_,hk22_⟩:=St.stf (S:=S0) (de) (hrw1) (hrr1)
 exact jg.of (by have h_:=CkQ.full (S:=S) (note:=note) (q:=S.rr++[(rcI (aE note))]) hn6 (by rw[<-hD0];have h_:=Il;simp at h_;omega);rw[hS0] at h_;exact h_) (hok0.mono (by omega)) (hk22_.pick [0] (by decide) rfl)
 refine wp_skip (aa (wq ?_))
 have hfit:S.D.log.size+(aB (aE note)).size<=1048576:=by rw[<-hD0];have h_:=Il;simp at h_;omega
 refine aD [0,1,3,7,15,0,0,64,192,448,960,2047,4095] [[10],[],[],[0],[],[],[10],[],[],[0]] [[],[],[],[],[],[],[],[],[],[],[],[12]] [] [.c 31 (vp sb),.k 32 (vp sb),.k 33 (vp sb),.c 34 (vp db),.c 35 (.func (.func 69) #[vp db] #[]),.c 36 (.func (.func 70) #[] #[vp bA,vp gV]),.c 37 (vp sb),.k 38 (vp sb),.k 39 (vp sb),.c 40 (vp db),.c 41 (.func (.func 63) #[vp db] #[]),.a 42,.a 6] (fun ix l g X=>match ix with|0|1|2|3|4|5|6|7|8|9|10=>True|11=>l 42= .slice (sA (g 42)) 3 3/\X 12=eO 52 1 (.slice (sA (g 42)) 3 3) 3 ([.func (.func 69) #[vp db] #[],.func (.func 70) #[] #[vp bA,vp gV],.func (.func 63) #[vp db] #[]])|12=>l 6= .slice (sA (g 42)) 3 3|_=>True) [0,1,2,3,4,5,6,7,8,9,10,11,12] [0,3,4,5,6,9,10,11,12] [(6,12,1,7),(24,0,12,36)] de ?_ ?_ ?_
 exact fun ix _ _ _ _ _ _ hs hb hx h=>match ix,h with
 |11,h=>by dsimp only;rw[<-hs 42 rfl,<-hb 42 rfl,<-hx 12 rfl];exact h
 |12,h=>by dsimp only;rw[<-hs 6 rfl,<-hb 42 rfl];exact h
 |0,_|1,_|2,_|3,_|4,_|5,_|6,_|7,_|8,_|9,_|10,_|_+13,_=>trivial
 refine⟨?_,?_,?_,?_,?_,?_,?_,?_,?_,trivial⟩
 exact xs4 rfl id fun cx=>ae rfl (by kernel_rfl) (cx.ou 2) ((cx.bi 10 rfl).cell 0)
 exact xs4 rfl id fun cx=>ae rfl (by kernel_rfl) (cx.an 2) ((cx.bi 0 rfl).cell 0)
 exact sv0 rfl rfl rfl rfl rfl (fun _ _ _ h=>h) fun b g W X cx=>by
  have PK:b (.tmp 34)=vp db:=(cx.an 3)
  simp[go_sem,Instr.makeFunc,PK]
 exact sv0 rfl rfl rfl rfl rfl (fun _ _ _ h=>h) fun b g W X cx=>by
  have oq:b (.tmp 2)=vp bA:=(cx.ou 2)
  have qH:b (.tmp 5)=vp gV:=(cx.ou 5)
  simp[go_sem,Instr.makeFunc,oq,qH]
 exact xs4 rfl id fun cx=>ae rfl (by kernel_rfl) (cx.ou 2) ((cx.bi 10 rfl).cell 0)
 exact xs4 rfl id fun cx=>ae rfl (by kernel_rfl) (cx.an 8) ((cx.bi 0 rfl).cell 0)
 exact sv0 rfl rfl rfl rfl rfl (fun _ _ _ h=>h) fun b g W X cx=>by
  have PL:b (.tmp 40)=vp db:=(cx.an 9)
  simp[go_sem,Instr.makeFunc,PL]
 refine svA fun b g W X cx=>?_
 have Im:b (.tmp 35)= .func (.func 69) #[vp db] #[]:=(cx.an 4)
 have PM:b (.tmp 36)= .func (.func 70) #[] #[vp bA,vp gV]:=(cx.an 5)
 have zk:b (.tmp 41)= .func (.func 63) #[vp db] #[]:=(cx.an 10)
 exact dx (e:=52) (xs:=[.func (.func 69) #[vp db] #[],.func (.func 70) #[] #[vp bA,vp gV],.func (.func 63) #[vp db] #[]]) rfl (by simp[go_sem,Im,PM,zk]) rfl (by decide) rfl rfl (fun _ _ _ _ _=> .intro)
 exact sv rfl rfl rfl rfl rfl _ (fun _ _ _ h=>h) (fun g o h=>by rw[h 42 (by decide)]) fun b g W X cx=>di rfl (dTn (cx.an 11)).1
 intro l g X sa hD cq fr aC
 simp only[exq 12 ((dTn (hD 11 lq)).2)] at cq
 simp only[ed 42 ((dTn (hD 11 lq)).1),ed 6 ((dTn (hD 12 lq)))] at aC
 generalize sA (g 42)=MQ at cq aC
 clear hD;subst aC;clear l g X
 refine aa (wq (wq ?_))
 obtain⟨fp24_,hk24_⟩:=St.stf (S:=S0) (cq) (hrw1) (hrr1)
 refine sqr (au 1 hk24_ ?_)
 refine sqk (vi ((S0.D.pgs.length:Int))) hk24_ (fun cx=>⟨_,oP sb db S0 _ (p5 (CtxV.holdF cx (cx.init 0 _ rfl) rfl)),(aw (cx.ou 43))⟩) fun xd fv=>?_
 refine sqp [.k 45 (vi 0)] ?_
 refine aa (wp_block ?_)
 obtain⟨⟨hrw2,hrr2⟩,mb2,RA2,rc2,EA2,ec2,ib2,tb2,fpd2,hv28_⟩:=fv.unf
 have hA29_:=hv28_.nA kg
 refine aT (fun t_ mz az W=>∃k:Nat,∃bs:List (Int×Nat),∃m:Nat,∃SA:Option Addr,∃sc:Nat,k<=S0.D.pgs.length/\(∀x,x∈bs.map Prod.fst<->(∃t∈S0.pool,t.n=x)/\x<(k:Int))/\m=bs.length+3/\bs.length<=k/\mz=S0.D.pgs.length-k/\az=⟨(ovr (jv az) [(6,6,0,[.slice SA m sc]),(0,7,1,[]),(37,45,0,[vi ((k:Int))]),(0,46,14,[])] t_).toArray,[]⟩/\St w fp [eB bA 31 #[vp sb],eB gV 27 #[vi 9,vi 0,vi 0,sn,sn,sn,sn,.string note],eB sb 109 #[vp db,vi S0.bufs,.map (some mb2),vi S0.time,.slice RA2 S0.recs.length rc2,.slice EA2 S0.recs.length ec2,.map (some ib2),.map (some tb2),vi S0.frm],eMx kcI ptX Tryz.prog 3 mb2 S0.pool.length (atM S0.pool),eA (List.map fo S0.pool),eM (List.map dH S0.rows),eO 27 8 (.slice RA2 S0.recs.length rc2) S0.recs.length (S0.recs.flatMap rcC),eO 3 1 (.slice EA2 S0.recs.length ec2) S0.recs.length ((cJ S0.L S0.recs.length).map (Value.int .i64)),eRc S0.rr,eMx kcI ecB Tryz.prog 3 ib2 S0.ni (S0.im),eMx kcI ecB Tryz.prog 3 tb2 S0.nt (S0.told),eDk db S0.D fpd2,eO 52 1 (.slice SA m sc) m ((lz bA gV db bs)),eA (bs.map kg)] W) (S0.D.pgs.length-0) ?_ ?_
 exact⟨0,[],3,MQ,3,Nat.zero_le _,fun x=>⟨fun h=>(by cases h),fun h=>by obtain⟨⟨t,ht,rfl⟩,h2⟩:=h;have:=hok0.keys t ht;omega⟩,rfl,Nat.le_refl _,rfl,(by kernel_rfl),hA29_.pk [11,12,1,2,3,4,5,6,7,8,9,10,13,0]⟩
 rintro TY a30 Fb ⟨k,bs,m,SA,sc,hk,hbs,hm,hbk,rfl,hj_,jp⟩
 refine ovz hj_ fun SH=>?_
 refine wq (sqr (sqp [.k 46 (.bool (decide ((k:Int)<(S0.D.pgs.length:Int))))] ?_))
 refine aa (wq (wds (fun gP kH=>?_) fun gP kH=>?_))
 refine wp_skip (aa (wq (wp_block (wq (sqr (sqp [.m 47 45] ?_))))))
 refine b9 #[vi 0] jp fun jb w8 ei=>?_
 refine aX (n:=1) 14 #[vi ((k:Int))] ei fun w9 dN=>?_
 refine aa (wq ?_)
 have hkn:kcI.ok (k:Int):=by have:=hok0.pgs;constructor<;>omega
 rcases Bh S0.pool (k:Int) with hno|⟨A,t,B,hAB,hnt⟩
 refine bR [0,1,3,7,0,31,63] [[0],[],[],[2],[14],[3]] [.c 48 (vp sb),.k 49 (vp sb),.k 50 (po sb 2),.c 51 (.map (some mb2)),.c 52 (vi ((k:Int))),.c 53 (.pointer none),.c 54 (.bool false)] [0,1,2,3,4,5,6,7,8,9,10,11,12,13,14] [0,3,4,5,6] [(48,0,7,55)] dN ?_ fun zd eH=>?_
 refine⟨?_,?_,?_,?_,?_,trivial⟩
 exact xs4 rfl id fun cx=>ae rfl (by kernel_rfl) (cx.ou 2) ((cx.bi 0 rfl).cell 0)
 exact xs4 rfl id fun cx=>ae rfl (by kernel_rfl) (cx.an 2) ((cx.bi 2 rfl).cell 2)
 exact xs4 rfl id fun cx=>ae rfl (by kernel_rfl) (cx.ou 7) ((cx.bi 14 rfl).cell 0)
 exact xs4 rfl id fun cx=>(c5 (e:=115) (C:=ptX) (K:=kcI) (x:=(k:Int)) rfl (cx.an 3) (cx.an 4) (CtxV.mx cx (cx.init 3 _ rfl) rfl) (h0:=by rfl) (hx:=hkn) (hk:=show Program.underlying _ _= _ from by kernel_rfl)).trans (by rw[kt hno];rfl)
 exact sv0 rfl rfl rfl rfl rfl (fun _ _ _ h=>h) fun b g W X cx=>by
  have In:b (.tmp 53)= .pointer none:=(cx.an 5)
  simp[go_sem,cx.sees.const,In]
 refine aa (wcf rfl (wp_skip (av (aa (sqr (sqp [sI 59 ((k:Int)+1) (by omega),.m 45 59] ?_))))))
 refine aa ?_
 refine⟨S0.D.pgs.length-((k+1)),by omega,?_⟩
 exact⟨(k+1),bs,m,SA,sc,by omega,Jv hbs hno,hm,by omega,rfl,(by kernel_rfl),eH.pk [0,1,2,3,4,5,6,7,8,9,10,11,12,13]⟩
 refine bR [0,1,3,7,0,31,63] [[0],[],[],[2],[14],[3]] [.c 48 (vp sb),.k 49 (vp sb),.k 50 (po sb 2),.c 51 (.map (some mb2)),.c 52 (vi ((k:Int))),.c 53 (po t.blk 0),.c 54 (.bool true)] [0,1,2,3,4,5,6,7,8,9,10,11,12,13,14] [0,3,4,5,6] [(48,0,7,55)] dN ?_ fun qA dn=>?_
 refine⟨?_,?_,?_,?_,?_,trivial⟩
 exact xs4 rfl id fun cx=>ae rfl (by kernel_rfl) (cx.ou 2) ((cx.bi 0 rfl).cell 0)
 exact xs4 rfl id fun cx=>ae rfl (by kernel_rfl) (cx.an 2) ((cx.bi 2 rfl).cell 2)
 exact xs4 rfl id fun cx=>ae rfl (by kernel_rfl) (cx.ou 7) ((cx.bi 14 rfl).cell 0)
 exact xs4 rfl id fun cx=>(c5 (e:=115) (C:=ptX) (K:=kcI) (x:=(k:Int)) rfl (cx.an 3) (cx.an 4) (CtxV.mx cx (cx.init 3 _ rfl) rfl) (h0:=by rfl) (hx:=hkn) (hk:=show Program.underlying _ _= _ from by kernel_rfl)).trans (by rw[J0 hok0.nodup hAB hnt];rfl)
 exact sv0 rfl rfl rfl rfl rfl (fun _ _ _ h=>h) fun b g W X cx=>by
  have In:b (.tmp 53)=po t.blk 0:=(cx.an 5)
  simp[go_sem,cx.sees.const,In]
 refine aa (wct rfl (sqr ?_))
 refine sqv (.func (.func 71) #[] #[vp bA,vp jb]) dn (by
   exact sv0 rfl rfl rfl rfl rfl (fun _ _ _ h=>h) fun b g W X cx=>by
    have oq:b (.tmp 2)=vp bA:=(cx.ou 2)
    have Fq:b (.tmp 7)=vp jb:=(cx.ou 7)
    simp[go_sem,Instr.makeFunc,oq,Fq]) fun xa d6=>?_
 refine d9 (fun x_=>sA x_) (fun vj=> .slice vj 1 1) (fun vj=>eO 52 1 (.slice vj 1 1) 1 ([.func (.func 71) #[] #[vp bA,vp jb]])) d6 (by
   refine svA fun b g W X cx=>?_
   have H9:b (.tmp 55)= .func (.func 71) #[] #[vp bA,vp jb]:=(cx.ou 55)
   exact dx (e:=52) (xs:=[.func (.func 71) #[] #[vp bA,vp jb]]) rfl (by simp[go_sem,H9]) rfl (by decide) rfl rfl (fun _ _ _ _ _=> .intro)) fun vj E9 ir=>?_
 refine sqp [.m 57 6] ?_
 refine sg (fun x_=>sA x_) (fun x_=>sC x_) (fun qV qW=> .slice qV (1+m) qW) (fun qV qW=>eO 52 1 (.slice qV (1+m) qW) (1+m) ((lz bA gV db (((k:Int),jb)::bs)))) 15 ir (by
   refine svA fun b g W X cx=>?_
   obtain⟨i0,hi0,hz0,hz1,hz2⟩:=info_parts Tryz.infoFnJ
   refine fb (n:=1) (m:=m) (nm:=1+m) (xs:=[.func (.func 71) #[] #[vp bA,vp jb]]) (news:=(lz bA gV db bs)) (xs':=(lz bA gV db (((k:Int),jb)::bs))) rfl (ty:=123) rfl (by kernel_rfl) hi0 hz0 hz1 hz2 rfl (cx.ou 56) cx (cx.init 15 _ rfl) rfl (cx.ou 57) ((nV _ _ _ _).trans (by omega)) (At.of_own (cx.ri 12 rfl)) (Jn _ _ _ _) (by simp only[maxLen];omega) (by omega) rfl rfl rfl (by omega) (rfl) (fun l o X' hs hb hv hx=>?_)
   exact⟨hv,hx⟩) fun qV qW LN lS=>?_
 refine sqp [.m 6 58] ?_
 refine av (aa (sqr (sqp [sI 59 ((k:Int)+1) (by omega),.m 45 59] ?_)))
 refine aa ?_
 have hN47_:=St.anf (x:=((k:Int),jb)) lS.u14.u14
 refine⟨S0.D.pgs.length-((k+1)),by omega,?_⟩
 exact⟨(k+1),(((k:Int),jb)::bs),1+m,qV,qW,by omega,Ka hbs (by rw[hAB];simp) hnt _,by rw[hm];simp only[List.length_cons];omega,by simp only[List.length_cons];omega,rfl,(by kernel_rfl),hN47_.pk [1,2,3,4,5,6,7,8,9,10,11,12,14,0]⟩
 refine wp_exit (aq (aq (bj (aa (wq (wq ?_))))))
 have hnsS0:∀x,x∈bs.map Prod.fst<->∃t∈S0.pool,t.n=x:=fun x=>⟨fun h=>((hbs x).1 h).1,fun⟨t,ht,hx⟩=>(hbs x).2 ⟨⟨t,ht,hx⟩,by have:=(hok0.keys t ht).2;omega⟩⟩
 have hnsS:∀x,x∈bs.map Prod.fst<->∃t∈S.pool,t.n=x:=by rw[<-hP0];exact hnsS0
 have hbl:(bs.map Prod.fst).length=bs.length:=List.length_map ..
 have hbk4:bs.length<=400:=by have:=hok0.pgs;omega
 obtain⟨fp48_,hk48_⟩:=St.stf (S:=S0) (jp.u11.u11.u11.u11.u11.u11.u11.u11.u11.u11) (hrw2) (hrr2)
 refine sqr (sqp [.m 60 6,.k 61 (vi ((m:Int))),.k 62 (vi 0)] ?_)
 refine aa (wp_block ?_)
 refine aT (fun t_ mz az W=>∃i:Nat,∃Si:StM,∃fpi:List Nat,i<=m/\CkI S0 (bs.map Prod.fst) note i Si/\SOk Si (c+i)/\(rcI (aE note))∈Si.rr/\Si.pool.map BfT.n=S0.pool.map BfT.n/\mz=m-i/\az=⟨(ovr (jv az) [(4,4,1,[]),(4,9,2,[]),(51,62,0,[vi ((i:Int))]),(0,63,9,[])] t_).toArray,[]⟩/\St w fp [eB bA 31 #[vp sb],eB gV 27 #[vi 9,vi 0,vi 0,sn,sn,sn,sn,.string note],eO 52 1 (.slice SA m sc) m ((lz bA gV db bs)),eA (bs.map kg),eSt sb db Si fpi] W) (m-0) ?_ ?_
 exact⟨0,S0,fp48_,Nat.zero_le _,.inl ⟨Nat.zero_le _,fun S2 er h=>h⟩,hok0,hrt0,rfl,rfl,(by kernel_rfl),hk48_.pk [1,2,3,4,0]⟩
 rintro QV a52 Bu ⟨i,Si,fpi,hi,hCk,hokI,hrtI,hplI,rfl,hj_,cG⟩
 refine ovz hj_ fun Pu=>?_
 rcases hCk.ways with ⟨hlt_,hcn⟩|⟨hie,hcl⟩|⟨hie,S1,hcl,fM,hSi⟩|⟨hie,S1,hcl,fM,hap⟩|⟨hie,S1,S2,hcl,fM,hap,hf0,hSi⟩
 obtain⟨x,hx⟩:∃x,bs[i]? =some x:=⟨_,List.getElem?_eq_getElem (by omega)⟩
 have hxm:x∈bs:=List.mem_of_getElem? hx
 obtain⟨t,hti,htx⟩:∃t∈Si.pool,t.n=x.1:=Gs hplI ((hnsS0 x.1).1 (List.mem_map.2 ⟨x,hxm,rfl⟩))
 obtain⟨A,B,hAB⟩:=List.append_of_mem hti
 have hdr:(bs.map Prod.fst).drop i=t.n::(bs.map Prod.fst).drop (i+1):=by rw[List.drop_eq_getElem_cons (by omega)];congr 1;rw[htx];exact(List.getElem?_eq_some_iff.1 ((List.getElem?_map ..).trans (by rw[hx];rfl))).2
 refine wq (sqr ?_)
 have hd54:(decide ((i:Int)<(m:Int)))=true:=decide_eq_true (by omega)
 refine sqp [.e 63 (.bool (decide ((i:Int)<(m:Int)))) (.bool true) (congrArg Value.bool hd54)] ?_
 refine aa (wq (wct rfl (wp_skip (aa (wq (wp_block (wq (sqr ?_))))))))
 refine sql (.pointer (some ((ad SA).add i))) cG (fun cx=>bK (e:=52) (m:=i) rfl (by kernel_rfl) (by kernel_rfl) (cx.ou 60) (cx.ou 62) (by omega) (by omega) (At.of_own (cx.ri 2 rfl)) (by rw[nV];omega)) ?_
 refine sql (.func (.func 71) #[] #[vp bA,po x.2 0]) cG (fun cx=>ae rfl (by kernel_rfl) (cx.ou 64) (At.cellAd (At.of_own (cx.ri 2 rfl)) (Lv hx))) ?_
 refine sqp [.m 9 65] ?_
 refine aa (wq (sqr (sqp [.m 66 9] ?_)))
 refine bG (fun X_=>X_.fp) (vi ((aL Si t).2)) (fun CX=>eSt sb db ((aL Si t).1) CX) 4 cG (by
   refine svA fun b g W X cx=>?_
   refine am.call (cL (f:=71) (args:=#[]) (args':=#[vp bA,po x.2 0]) rfl rfl (cx.ou 66) (by kernel_rfl) jc rfl) ?_
   refine(Al bA x.2 sb db Si A B t (c+i) _ _ (CtxV.holdF cx (cx.init 4 _ rfl) rfl) (CtxV.ltF cx (cx.init 4 _ rfl) rfl) (cx.bi 0 rfl) (CtxV.apF cx (cx.init 0 _ rfl) (cx.init 4 _ rfl) (xo _ _ _) rfl rfl (by decide)) (CtxV.apF cx (cx.init 3 _ rfl) (cx.init 4 _ rfl) (ND hxm) rfl rfl (by decide)) (by rw[htx];exact Lm (CtxV.holdF cx (cx.init 3 _ rfl) rfl) hxm) hokI (by omega) hAB).mono ?_
   rintro e W1 ⟨rfl,fp4,aM⟩
   refine⟨_,rfl,aK (E:=eSt sb db Si fpi) [eSt sb db (aL Si t).1 fp4] (cx.init 4 _ rfl) rfl rfl aM (fun l o X' hs hb hv hN=>?_)⟩
   have aJ:=(hv 67 rfl).1;have aQ:=(hv 67 rfl).2
   exact⟨aJ.trans rfl,gK ((List.cons.inj hN).1)⟩) fun CX Fd fW=>?_
 refine sqp [.m 10 67] ?_
 refine aa (wq (sqr (sqp [.m 68 10,.k 69 (.bool (((aL Si t).2) != 0))] ?_)))
 refine aa (wbs (fun vY=>?_) fun vY=>?_)
 have Oe:=bne_iff_ne.1 vY
 refine wq (sqr (sqp [.m 70 10,.m 4 70] ?_))
 refine aa (wp_ret (ba (aj (aj (ba (aj ?_))))))
 refine bpr (vi ((aL Si t).2)) (ag Tryz.results28 rpt) ?_
 exact jg.of (CkQ.cl (q:=S.rr++[(rcI (aE note))]) (ns:=bs.map Prod.fst) hn6 hfit hnsS (by rw[hS0];exact hcn _ _ (by rw[hdr];exact ClA.bad hti (by simpa using vY))) (by simpa using vY)) ((hokI.clean t hti).mono (by omega)) (fW.pick [4] (by decide) rfl)
 have Oe:=bne_eq_false_iff_eq.1 vY
 refine wp_skip (av (aa (sqr (sqp [sI 71 ((i:Int)+1) (by omega),.m 62 71] ?_))))
 refine aa ?_
 refine⟨m-((i+1)),by omega,?_⟩
 exact⟨(i+1),(aL Si t).1,CX,by omega,.inl ⟨by omega,fun S9 er h=>hcn S9 er (by rw[hdr];exact ClA.cons hti (by simpa using vY) h)⟩,(hokI.clean t hti).mono (by omega),by rw[(tK _ _).2.1];exact hrtI,(tK _ _).1.trans hplI,rfl,(by kernel_rfl),fW.pk [0,1,2,3,4]⟩
 refine wq (sqr ?_)
 have hd69:(decide ((i:Int)<(m:Int)))=true:=decide_eq_true (by omega)
 refine sqp [.e 63 (.bool (decide ((i:Int)<(m:Int)))) (.bool true) (congrArg Value.bool hd69)] ?_
 refine aa (wq (wct rfl (wp_skip (aa (wq (wp_block (wq (sqr ?_))))))))
 refine sql (.pointer (some ((ad SA).add i))) cG (fun cx=>bK (e:=52) (m:=i) rfl (by kernel_rfl) (by kernel_rfl) (cx.ou 60) (cx.ou 62) (by omega) (by omega) (At.of_own (cx.ri 2 rfl)) (by rw[nV];omega)) ?_
 refine sql (.func (.func 69) #[vp db] #[]) cG (fun cx=>ae rfl (by kernel_rfl) (cx.ou 64) (At.cellAd (At.of_own (cx.ri 2 rfl)) (Ck (j:=0) (by omega)))) ?_
 refine sqp [.m 9 65] ?_
 refine aa (wq ?_)
 obtain⟨⟨hrw1,hrr1⟩,mb1,RA1,rc1,EA1,ec1,ib1,tb1,fpd1,hv73_⟩:=cG.u4.unf
 have hlzi:=hokI.lsz
 have hpgi:=hokI.pgs
 refine sqr (sqp [.m 66 9] ?_)
 refine bG (fun X_=>X_.fp) (vi ((opD Si.D 0 syD).2)) (fun Fx=>eDk db ((opD Si.D 0 syD).1) Fx) 9 hv73_ (by
   refine svA fun b g W X cx=>?_
   refine am.call (cL (f:=69) (args:=#[]) (args':=#[vp db]) rfl rfl (cx.ou 66) (by kernel_rfl) jc rfl) ?_
   refine(Ed db Si.D _ _ (CtxV.holdF cx (cx.init 9 _ rfl) rfl) (CtxV.ltF cx (cx.init 9 _ rfl) rfl) (fun x hx=>Nat.le_trans (hokI.ws x hx) (by omega)) hpgi).mono ?_
   rintro e W1 ⟨rfl,fp4,aM⟩
   refine⟨_,rfl,aK (E:=eDk db Si.D fpd1) [eDk db (opD Si.D 0 syD).1 fp4] (cx.init 9 _ rfl) rfl rfl aM (fun l o X' hs hb hv hN=>?_)⟩
   have aJ:=(hv 67 rfl).1;have aQ:=(hv 67 rfl).2
   exact⟨aJ.trans rfl,cE ((List.cons.inj hN).1)⟩) fun Fx LX kK=>?_
 refine sqp [.m 10 67] ?_
 refine aa (wq (sqr (sqp [.m 68 10,.k 69 (.bool (((opD Si.D 0 syD).2) != 0))] ?_)))
 refine aa (wbs (fun zP=>?_) fun zP=>?_)
 have Of:=bne_iff_ne.1 zP
 refine wq (sqr (sqp [.m 70 10,.m 4 70] ?_))
 refine aa (wp_ret (ba (aj (aj (ba (aj ?_))))))
 refine bpr (vi ((opD Si.D 0 syD).2)) (ag Tryz.results28 rpt) ?_
 obtain⟨fp82_,hk82_⟩:=St.stf (S:=(dU Si (opD Si.D 0 syD).1)) (kK) (hrw1) (hrr1)
 exact jg.of (CkQ.sync (q:=S.rr++[(rcI (aE note))]) (ns:=bs.map Prod.fst) hn6 hfit hnsS (by rw[hS0];exact hcl) (by simpa using zP)) (hokI.sync.mono (by omega)) (hk82_.pick [0] (by decide) rfl)
 have Of:=bne_eq_false_iff_eq.1 zP
 refine wp_skip (av (aa (sqr (sqp [sI 71 ((i:Int)+1) (by omega),.m 62 71] ?_))))
 refine aa ?_
 obtain⟨fp85_,hk85_⟩:=St.stf (S:=(dU Si (opD Si.D 0 syD).1)) (kK) (hrw1) (hrr1)
 refine⟨m-((i+1)),by omega,?_⟩
 exact⟨(i+1),(dU Si (opD Si.D 0 syD).1),fp85_,by omega,.inr (.inl ⟨by omega,Si,hcl,by simpa using zP,rfl⟩),hokI.sync.mono (by omega),hrtI,hplI,rfl,(by kernel_rfl),hk85_.pk [1,2,3,4,0]⟩
 refine wq (sqr ?_)
 have hd87:(decide ((i:Int)<(m:Int)))=true:=decide_eq_true (by omega)
 refine sqp [.e 63 (.bool (decide ((i:Int)<(m:Int)))) (.bool true) (congrArg Value.bool hd87)] ?_
 refine aa (wq (wct rfl (wp_skip (aa (wq (wp_block (wq (sqr ?_))))))))
 refine sql (.pointer (some ((ad SA).add i))) cG (fun cx=>bK (e:=52) (m:=i) rfl (by kernel_rfl) (by kernel_rfl) (cx.ou 60) (cx.ou 62) (by omega) (by omega) (At.of_own (cx.ri 2 rfl)) (by rw[nV];omega)) ?_
 refine sql (.func (.func 70) #[] #[vp bA,vp gV]) cG (fun cx=>ae rfl (by kernel_rfl) (cx.ou 64) (At.cellAd (At.of_own (cx.ri 2 rfl)) (Ck (j:=1) (by omega)))) ?_
 refine sqp [.m 9 65] ?_
 refine aa (wq (sqr (sqp [.m 66 9] ?_)))
 refine bG (fun X_=>X_.fp) (vi ((bv Si (rcI (aE note))).2)) (fun CY=>eSt sb db ((bv Si (rcI (aE note))).1) CY) 4 cG (by
   refine svA fun b g W X cx=>?_
   refine am.call (cL (f:=70) (args:=#[]) (args':=#[vp bA,vp gV]) rfl rfl (cx.ou 66) (by kernel_rfl) jc rfl) ?_
   refine(Au bA gV sb db Si (rcI (aE note)) (c+i) _ _ (CtxV.holdF cx (cx.init 4 _ rfl) rfl) (CtxV.ltF cx (cx.init 4 _ rfl) rfl) (cx.bi 0 rfl) (CtxV.apF cx (cx.init 0 _ rfl) (cx.init 4 _ rfl) (xo _ _ _) rfl rfl (by decide)) (CtxV.apF cx (cx.init 1 _ rfl) (cx.init 4 _ rfl) (xo _ _ _) rfl rfl (by decide)) (cx.bi 1 rfl) hokI (du hn6) hrtI).mono ?_
   rintro e W1 ⟨rfl,fp4,aM⟩
   refine⟨_,rfl,aK (E:=eSt sb db Si fpi) [eSt sb db (bv Si (rcI (aE note))).1 fp4] (cx.init 4 _ rfl) rfl rfl aM (fun l o X' hs hb hv hN=>?_)⟩
   have aJ:=(hv 67 rfl).1;have aQ:=(hv 67 rfl).2
   exact⟨aJ.trans rfl,gK ((List.cons.inj hN).1)⟩) fun CY Md lX=>?_
 refine sqp [.m 10 67] ?_
 refine aa (wq (sqr (sqp [.m 68 10,.k 69 (.bool (((bv Si (rcI (aE note))).2) != 0))] ?_)))
 refine aa (wbs (fun kx=>?_) fun kx=>?_)
 have CV:=bne_iff_ne.1 kx
 refine wq (sqr (sqp [.m 70 10,.m 4 70] ?_))
 refine aa (wp_ret (ba (aj (aj (ba (aj ?_))))))
 refine bpr (vi ((bv Si (rcI (aE note))).2)) (ag Tryz.results28 rpt) ?_
 exact jg.of (by have h_:=CkQ.app (q:=S.rr++[(rcI (aE note))]) (ns:=bs.map Prod.fst) hn6 hfit hnsS (by rw[hS0];exact hcl) fM (by rw[<-hSi];simpa using kx);rw[<-hSi] at h_;exact h_) ((hokI.append (du hn6)).mono (by omega)) (lX.pick [4] (by decide) rfl)
 have CV:=bne_eq_false_iff_eq.1 kx
 refine wp_skip (av (aa (sqr (sqp [sI 71 ((i:Int)+1) (by omega),.m 62 71] ?_))))
 refine aa ?_
 refine⟨m-((i+1)),by omega,?_⟩
 exact⟨(i+1),(bv Si (rcI (aE note))).1,CY,by omega,.inr (.inr (.inl ⟨by omega,S1,hcl,fM,by rw[<-hSi];exact EZ (by simpa using kx) rfl⟩)),(hokI.append (du hn6)).mono (by omega),by rw[(jD _ _).2.1];exact hrtI,by rw[(jD _ _).2.2.2.2.1];exact hplI,rfl,(by kernel_rfl),lX.pk [0,1,2,3,4]⟩
 refine wq (sqr ?_)
 have hd102:(decide ((i:Int)<(m:Int)))=true:=decide_eq_true (by omega)
 refine sqp [.e 63 (.bool (decide ((i:Int)<(m:Int)))) (.bool true) (congrArg Value.bool hd102)] ?_
 refine aa (wq (wct rfl (wp_skip (aa (wq (wp_block (wq (sqr ?_))))))))
 refine sql (.pointer (some ((ad SA).add i))) cG (fun cx=>bK (e:=52) (m:=i) rfl (by kernel_rfl) (by kernel_rfl) (cx.ou 60) (cx.ou 62) (by omega) (by omega) (At.of_own (cx.ri 2 rfl)) (by rw[nV];omega)) ?_
 refine sql (.func (.func 63) #[vp db] #[]) cG (fun cx=>ae rfl (by kernel_rfl) (cx.ou 64) (At.cellAd (At.of_own (cx.ri 2 rfl)) (Ck (j:=2) (by omega)))) ?_
 refine sqp [.m 9 65] ?_
 refine aa (wq ?_)
 obtain⟨⟨hrw1,hrr1⟩,mb1,RA1,rc1,EA1,ec1,ib1,tb1,fpd1,hv106_⟩:=cG.u4.unf
 have hlzi:=hokI.lsz
 have hpgi:=hokI.pgs
 refine sqr (sqp [.m 66 9] ?_)
 refine bG (fun X_=>X_.fp) (vi ((opD Si.D 0 flD).2)) (fun Bx=>eDk db ((opD Si.D 0 flD).1) Bx) 9 hv106_ (by
   refine svA fun b g W X cx=>?_
   refine am.call (cL (f:=63) (args:=#[]) (args':=#[vp db]) rfl rfl (cx.ou 66) (by kernel_rfl) jc rfl) ?_
   refine(lR db Si.D _ _ (CtxV.holdF cx (cx.init 9 _ rfl) rfl) (CtxV.ltF cx (cx.init 9 _ rfl) rfl) (by omega)).mono ?_
   rintro e W1 ⟨rfl,fp4,aM⟩
   refine⟨_,rfl,aK (E:=eDk db Si.D fpd1) [eDk db (opD Si.D 0 flD).1 fp4] (cx.init 9 _ rfl) rfl rfl aM (fun l o X' hs hb hv hN=>?_)⟩
   have aJ:=(hv 67 rfl).1;have aQ:=(hv 67 rfl).2
   exact⟨aJ.trans rfl,cE ((List.cons.inj hN).1)⟩) fun Bx Pn ov=>?_
 refine sqp [.m 10 67] ?_
 refine aa (wq (sqr (sqp [.m 68 10,.k 69 (.bool (((opD Si.D 0 flD).2) != 0))] ?_)))
 refine aa (wbs (fun vk=>?_) fun vk=>?_)
 have MR:=bne_iff_ne.1 vk
 refine wq (sqr (sqp [.m 70 10,.m 4 70] ?_))
 refine aa (wp_ret (ba (aj (aj (ba (aj ?_))))))
 refine bpr (vi ((opD Si.D 0 flD).2)) (ag Tryz.results28 rpt) ?_
 obtain⟨fp115_,hk115_⟩:=St.stf (S:=(dU Si (opD Si.D 0 flD).1)) (ov) (hrw1) (hrr1)
 exact jg.of (CkQ.flush (q:=S.rr++[(rcI (aE note))]) (ns:=bs.map Prod.fst) hn6 hfit hnsS (by rw[hS0];exact hcl) fM hap (by simpa using vk)) (hokI.flush.mono (by omega)) (hk115_.pick [0] (by decide) rfl)
 have MR:=bne_eq_false_iff_eq.1 vk
 refine wp_skip (av (aa (sqr (sqp [sI 71 ((i:Int)+1) (by omega),.m 62 71] ?_))))
 refine aa ?_
 obtain⟨fp118_,hk118_⟩:=St.stf (S:=(dU Si (opD Si.D 0 flD).1)) (ov) (hrw1) (hrr1)
 refine⟨m-((i+1)),by omega,?_⟩
 exact⟨(i+1),(dU Si (opD Si.D 0 flD).1),fp118_,by omega,.inr (.inr (.inr ⟨by omega,S1,Si,hcl,fM,hap,by simpa using vk,rfl⟩)),hokI.flush.mono (by omega),hrtI,hplI,rfl,(by kernel_rfl),hk118_.pk [1,2,3,4,0]⟩
 refine wq (sqr ?_)
 have hd120:(decide ((i:Int)<(m:Int)))=false:=decide_eq_false (by omega)
 refine sqp [.e 63 (.bool (decide ((i:Int)<(m:Int)))) (.bool false) (congrArg Value.bool hd120)] ?_
 refine aa (wq (wcf rfl (wp_exit (aq (aq (bj (aa (wq ?_))))))))
 obtain⟨⟨hrw9,hrr9⟩,mb9,RA9,rc9,EA9,ec9,ib9,tb9,fpd9,hv121_⟩:=cG.u4.unf
 have hni9:=hokI.ni
 refine aD [0,0,2,6,14,30,63,127,255] [[10],[10],[],[],[0],[],[],[],[0]] [[],[],[],[],[],[],[],[],[14]] [[],[],[],[],[],[],[],[],[0]] [.c 72 (vp sb),.c 73 (vp sb),.k 74 (vp sb),.k 75 (po sb 4),.c 76 (.slice RA9 Si.recs.length rc9),.k 77 (vi ((Si.recs.length:Int))),.k 78 (vp sb),.k 79 (po sb 8),.n] (fun ix l g X=>match ix with|0|1|2|3|4|5|6|7=>True|8=>X 14=eB sb 109 #[vp db,vi Si.bufs,.map (some mb9),vi Si.time,.slice RA9 Si.recs.length rc9,.slice EA9 Si.recs.length ec9,.map (some ib9),.map (some tb9),vi ((Si.recs.length:Int))]|_=>True) [1,2,3,4,5,6,7,8,9,10,11,12,13,14] [0,1,4,8] [(72,0,8,80)] hv121_ ?_ ?_ ?_
 exact fun ix _ _ _ _ _ _ hs hb hx h=>match ix,h with
 |8,h=>by dsimp only;rw[<-hx 14 rfl];exact h
 |0,_|1,_|2,_|3,_|4,_|5,_|6,_|7,_|_+9,_=>trivial
 refine⟨?_,?_,?_,?_,trivial⟩
 exact xs4 rfl id fun cx=>ae rfl (by kernel_rfl) (cx.ou 2) ((cx.bi 10 rfl).cell 0)
 exact xs4 rfl id fun cx=>ae rfl (by kernel_rfl) (cx.ou 2) ((cx.bi 10 rfl).cell 0)
 exact xs4 rfl id fun cx=>ae rfl (by kernel_rfl) (cx.an 3) ((cx.bi 0 rfl).cell 4)
 refine svA fun b g W X cx=>?_
 exact bu (n:=1) rfl (cx.an 7) (cx.an 5) (by kernel_rfl) (by kernel_rfl) (by kernel_rfl) cx (cx.init 0 _ rfl) rfl (nle rfl) (by kernel_rfl) rfl rfl rfl (fun _ _ _ _ _=>id)
 intro l g X SI hD vl fr aC
 simp only[exq 14 ((dTn (hD 8 lq)))] at vl
 clear hD;subst aC;clear l g X
 refine aa (wq (sqr (au 9 vl ?_)))
 refine sqp [.k 81 (vp sb),.k 82 (po sb 6)] ?_
 refine au 13 vl ?_
 refine sqc (eMx kcI ecB Tryz.prog 3 ib9 0 (fun _=>none)) 6 vl (by
   refine svA fun b g W X cx=>?_
   exact Cx (e:=4) (d:=0) rfl (cx.ou 83) cx (cx.init 6 _ rfl) rfl rfl rfl (fun _ _ _ _ _=>id)) fun SJ MS=>?_
 refine aa (wq (sqr (sqp [.k 4 (vi 0)] ?_)))
 refine aa (wp_ret ?_)
 refine bpr (vi 0) (ag Tryz.results28 rpt) ?_
 obtain⟨fp129_,hk129_⟩:=St.stf (S:=(ckE Si)) (MS.u9.c0.u9.c0.u9.c0.u9.c0.u9) (hrw9) (hrr9)
 exact jg.of (by rw[hSi];exact CkQ.ok (q:=S.rr++[(rcI (aE note))]) (ns:=bs.map Prod.fst) hn6 hfit hnsS (by rw[hS0];exact hcl) fM hap hf0) (hokI.ckE.mono (by omega)) hk129_
end
section
open Go.RowKit
structure WI (S:StM) (told:Int->Bool):Prop where
 cur:∀n:Int,0<=n->n<(S.D.pgs.length:Int)->aH S n=ai S.L n
 im:∀n:Int,0<=n->n<(S.D.pgs.length:Int)->(S.im n).getD false=ft S.L n
 frm:S.frm=(bc S.L:Int)
 told:∀n:Int,0<=n->n<(S.D.pgs.length:Int)->(S.told n).getD false=told n
theorem Ev.L{S S':StM}(h:Ev S S'):S'.L=S.L:=by show S'.recs.map RcT.r= _;rw[h.recs]
theorem Ev.wi{S S':StM}{told:Int->Bool}(h:Ev S S')(hw:WI S told):WI S' told:=
 ⟨fun n h0 h1=>by rw[h.L,h.cur n h0];exact hw.cur n h0 (by rw[<-h.len];exact h1),fun n h0 h1=>by rw[h.L,h.im];exact hw.im n h0 (by rw[<-h.len];exact h1),by rw[h.L,h.frm];exact hw.frm,fun n h0 h1=>by rw[h.told];exact hw.told n h0 (by rw[<-h.len];exact h1)⟩
def ef(L:List RecM)(os:List Int):List RecM:=(os.filter fun n=>!ft L n).map fun n=>⟨8,0,n,[],aI (ai L n)⟩
def rfL(L:List RecM)(r:RecM):List RecM:=L++ef L (cD r.eds)++[r]
def rfE(pages:Nat)(L:List RecM)(r:RecM):Int:=
 if bz r=false\/r.kind=8\/r.kind=9 then 1 else if r.eds.any (d7 pages)=true then 22 else if cQ (ai L) r.eds≠0 then cQ (ai L) r.eds else if 1048576<szF L+((aB r).size+szF (ef L (cD r.eds))) then 31 else 0
def rfT(told:Int->Bool)(L:List RecM)(r:RecM):Int->Bool:=fun n=>if n∈cD r.eds/\(ai L n).1≠0/\(bo (ai L) r.eds n).1=0 then false else told n
def rfD(pages:Nat)(L:List RecM)(told:Int->Bool)(r:RecM):List RecM×Int×Int×(Int->Bool):=if rfE pages L r=0 then (rfL L r,((rfL L r).length:Int),0,rfT told L r) else (L,0,rfE pages L r,told)
theorem BE(l:List EdT):∀(N M:Int->PgS),(∀e∈l,N e.1=M e.1)->cQ N l=cQ M l:=by
 induction l with
 |nil=>intro N M _;rfl
 |cons e l ih=>
  intro N M h
  rw[cQ,cQ,h e (by simp)]
  split
  refine ih _ _ fun x hx=>?_
  rw[eP,eP]
  rw[h e (by simp),h x (by simp[hx])]
  rfl
theorem ul(l:List EdT)(n:Int):∀(N M:Int->PgS),(∀e∈l,N e.1=M e.1)->N n=M n->bo N l n=bo M l n:=by
 induction l with
 |nil=>intro N M _ h;exact h
 |cons e l ih=>
  intro N M h hn
  refine ih _ _ (fun x hx=>?_) ?_
  rw[eP,eP];rw[h e (by simp),h x (by simp[hx])]
  rw[eP,eP];rw[h e (by simp),hn]
theorem GM{p q:PgS}{e:EdT}{a b:Int}(hp:bI p)(hq:bI q)(h1:p.1=q.1)(h2:p.2.2=q.2.2)(ha:0<=a/\a<=2147483647)(hb:0<=b/\b<=2147483647):doE p e a=doE q e b:=by
 have e1:=hp.1
 have e2:=hq.1
 have n1:¬(a<0\/2147483647<a):=by omega
 have n2:¬(b<0\/2147483647<b):=by omega
 rw[h2] at e1
 simp only[doE,c7,h2,e1,e2,if_neg n1,if_neg n2,h2,Bool.true_eq_false,if_false]
theorem yV{p q:PgS}{e:EdT}{a b:Int}(h1:p.1=q.1)(h2:p.2.2=q.2.2):(doV p e a).1=(doV q e b).1/\(doV p e a).2.2=(doV q e b).2.2:=by
 unfold doV
 split
 exact⟨rfl,rfl⟩
 exact⟨h1,by rw[h2]⟩
theorem Lj{n lsn:Int}(hl:0<=lsn/\lsn<=2147483647):∀(l:List EdT) (N:Int->PgS) (p:PgS),(∀m,bI (N m))->bI p->p.1=(N n).1->p.2.2=(N n).2.2->cQ N l=0->
  (bm n lsn p l).1=(bo N l n).1/\(bm n lsn p l).2.2=(bo N l n).2.2/\((∃e∈l,e.1=n)->(bm n lsn p l).2.1=lsn):=by
 intro l
 induction l with
 |nil=>intro N p _ _ h1 h2 _;exact⟨h1,h2,fun⟨e,he,_⟩=>by cases he⟩
 |cons e l ih=>
  intro N p hN hp h1 h2 h0
  rw[cQ] at h0
  split at h0
  rename_i hd
  have hN2:∀m,bI (eP N e m):=fun m=>by
   unfold eP
   split
   exact ki hd
   exact hN m
  by_cases he:e.1=n
  have hd2:doE p e lsn=0:=by rw[GM hp (hN n) h1 h2 hl (b:=1) (by omega),<-he];exact hd
  have e1:edA n lsn p e=doV p e lsn:=if_pos ⟨he,hd2⟩
  have e2:eP N e n=doV (N n) e 1:=by rw[eP];rw[if_pos he.symm,he]
  obtain⟨a,b,c⟩:=ih (eP N e) (doV p e lsn) hN2 (ki hd2) (by rw[e2];exact(yV h1 h2).1) (by rw[e2];exact(yV h1 h2).2) h0
  show (bm n lsn (edA n lsn p e) l).1= _/\(bm n lsn (edA n lsn p e) l).2.2= _/\(_->(bm n lsn (edA n lsn p e) l).2.1= _)
  rw[e1]
  refine⟨a,b,fun _=>?_⟩
  by_cases hx:∃x∈l,x.1=n
  exact c hx
  rw[sH (fun x hx1 hx2=>hx ⟨x,hx1,hx2⟩),KD]
  have e1:edA n lsn p e=p:=if_neg (fun h=>he h.1)
  have e2:eP N e n=N n:=by rw[eP];rw[if_neg (fun h=>he h.symm)]
  obtain⟨a,b,c⟩:=ih (eP N e) p hN2 hp (by rw[e2];exact h1) (by rw[e2];exact h2) h0
  show (bm n lsn (edA n lsn p e) l).1= _/\(bm n lsn (edA n lsn p e) l).2.2= _/\(_->(bm n lsn (edA n lsn p e) l).2.1= _)
  rw[e1]
  refine⟨a,b,fun⟨x,hx,hn⟩=>?_⟩
  rcases List.mem_cons.1 hx with rfl|hx
  exact absurd hn he
  exact c ⟨x,hx,hn⟩
  rename_i hd;exact absurd h0 hd
theorem Gj{L:List RecM}{r:RecM}{n:Int}(hL:(L.length:Int)+1<=2147483647)(h0:cQ (ai L) r.eds=0)(hn:n∈cD r.eds):ai (L++[r]) n=ip ((L.length:Int)+1) (bo (ai L) r.eds n):=by
 obtain⟨a,b,c⟩:=Lj (n:=n) (lsn:=(L.length:Int)+1) (by omega) r.eds (ai L) (ai L n) (gm L) (gm L n) rfl rfl h0
 rw[iR]
 exact Prod.ext a (Prod.ext (c (kq.1 hn)) b)
theorem DD{L:List RecM}{r:RecM}{n:Int}(hn:n∉cD r.eds):ai (L++[r]) n=ai L n:=by
 rw[iR,sH (fun e he h=>hn (kq.2 ⟨e,he,h⟩))]
theorem ro{L:List RecM}{os:List Int}:∀r∈ef L os,r.eds=[]/\r.kind=8/\∃n∈os,ft L n=false/\r=⟨8,0,n,[],aI (ai L n)⟩:=fun r hr=>by
 obtain⟨n,hn,rfl⟩:=List.mem_map.1 hr
 obtain⟨h1,h2⟩:=List.mem_filter.1 hn
 exact⟨rfl,rfl,n,h1,by simpa using h2,rfl⟩
theorem uk{L ims:List RecM}(h:∀r∈ims,r.eds=[])(n:Int):ai (L++ims) n=ai L n:=BI fun r hr e he=>by rw[h r hr] at he;cases he
theorem Ea{ims:List RecM}(n:Int):∀(L:List RecM),(∀r∈ims,r.kind=8)->ft (L++ims) n=(ft L n||decide (n∈ims.map RecM.tbl)):=by
 induction ims with
 |nil=>intro L _;simp
 |cons r ims ih=>
  intro L h
  have e:L++r::ims=(L++[r])++ims:=by simp
  have hk:=h r (by simp)
  rw[e,ih _ (fun x hx=>h x (by simp[hx])),nf,if_neg (by rw[hk];decide),hk,Bool.or_assoc]
  congr 1
  rw[List.map_cons]
  by_cases ht:r.tbl=n
  rw[decide_eq_true (p:=n∈r.tbl::ims.map RecM.tbl) (by rw[ht];exact List.mem_cons_self)];simp[ht]
  have:(n∈r.tbl::ims.map RecM.tbl)=(n∈ims.map RecM.tbl):=propext ⟨fun h=>(List.mem_cons.1 h).elim (fun h=>absurd h.symm ht) id,List.mem_cons_of_mem _⟩
  simp only[this]
  rw[show (r.tbl==n)=false by simpa using ht,Bool.and_false,Bool.false_or]
theorem ut{ims:List RecM}:∀(L:List RecM),(∀r∈ims,r.kind≠9)->bc (L++ims)=bc L:=by
 induction ims with
 |nil=>intro L _;simp
 |cons r ims ih=>
  intro L h
  rw[show L++r::ims=(L++[r])++ims by simp,ih _ (fun x hx=>h x (by simp[hx])),eW,if_neg (h r (by simp))]
end
end Go.Proofs.YtcdjaepgahbhfaaGreat
import Derived.Test.YtcdjaepgahbhfaaGreatZ5
set_option linter.unusedVariables false
set_option linter.unusedSimpArgs false
set_option maxRecDepth 100000
set_option maxHeartbeats 16000000
namespace Go.Proofs.YtcdjaepgahbhfaaGreat
section
open Go.RowKit
theorem yP(s:ByteArray)(w:World)(hs:s.size<=9223372036854775807):
  Calls Tryz.prog 75 #[.string s] w (gI (.int .u32 (bj s)) w):=by
 go_enter Tryz.func75,Tryz.ntmps75
 go_wp2
 go_loop [3,4,5] (fun x y v=>∃k:Nat,v= .int .i64 k/\k<=s.size/\x= .int .i64 (adl (s.data.toList.take k)).1/\y= .int .i64 (adl (s.data.toList.take k)).2) (fun _ _ v=>s.size-(intOf v).toNat)
 case atStart=>exact⟨0,rfl,Nat.zero_le _,rfl,rfl⟩
 case round=>
  obtain⟨k,rfl,hk,rfl,rfl⟩:=hrel
  have hlt:=xP (s.data.toList.take k)
  rcases Nat.lt_or_ge k s.size with hk1|hk1
  ·have HS:=Lib.hid (yB s k hk1)
   obtain⟨a,ha⟩:∃a,a=(adl (s.data.toList.take k)).1:=⟨_,rfl⟩
   obtain⟨b,hb⟩:∃b,b=(adl (s.data.toList.take k)).2:=⟨_,rfl⟩
   rw[<-ha,<-hb] at HS hlt |-
   obtain⟨hlt1,hlt2⟩:=hlt
   have hcb:s[k].toNat<256:=UInt8.toNat_lt _
   clear ha hb
   obtain⟨c,hc⟩:∃c:UInt8,c=s[k]:=⟨_,rfl⟩
   have HC:=Lib.hid hc
   have hk2:(k:Int)<(s.size:Int):=by omega
   have hk3:(0:Int)<=(k:Int):=by omega
   clear hc
   go_wp2
   go_round
   case rel=>exact⟨k+1,by go_num,by omega,by rw[HS.out];congr 1,by rw[HS.out];congr 1⟩
   case measure=>simp[intOf];omega
  obtain rfl:k=s.size:=by omega
  have e:s.data.toList.take s.size=s.data.toList:=List.take_of_length_le (by simp)
  rw[e] at hlt |-
  obtain⟨a,ha⟩:∃a,a=(adl s.data.toList).1:=⟨_,rfl⟩
  obtain⟨b,hb⟩:∃b,b=(adl s.data.toList).2:=⟨_,rfl⟩
  rw[<-ha,<-hb] at hlt |-
  obtain⟨hlt1,hlt2⟩:=hlt
  have HF:=Lib.hid (show bj s=b*65536+a by rw[bj,<-ha,<-hb])
  clear e ha hb
  go_wp2
  go_ret
  exact gI.int (by rw[HF.out];omega) (Ext.refl _)
def shN(N:Int)(k:Nat):Int:=N / 256^k
theorem IL(N:Int):shN N 0=N:=by simp[shN]
theorem Hk(N:Int)(k:Nat):(shN N k).fdiv (2^8)=shN N (k+1):=by
 rw[shN,shN,Int.fdiv_eq_ediv_of_nonneg _ (by decide),Int.pow_succ]
 exact Int.ediv_ediv_of_nonneg (Int.le_of_lt (Int.pow_pos (by decide)))
theorem Dt(N:Int):aj N 0=⟨#[]⟩:=rfl
theorem wI(N:Int){k:Nat}(h:k<8):aj N (k+1)=strOfNums [shN N k % 256]++aj N k:=by
 apply g9
 rw[cY]
 unfold aj bl
 rw[strOfNums_data,strOfNums_data,strOfNums_data,<-List.map_append]
 congr 1
 have hu:IntKind.u64.wrap N=N % 18446744073709551616:=by rw[IntKind.wrap_u64]
 unfold ly shN
 rw[hu]
 rcases(by omega:k=0\/k=1\/k=2\/k=3\/k=4\/k=5\/k=6\/k=7) with rfl|rfl|rfl|rfl|rfl|rfl|rfl|rfl<;>
  simp only[Nat.reduceSub,Nat.reduceAdd,Int.reducePow,List.drop_succ_cons,List.drop_zero,List.cons_append,List.nil_append,List.cons.injEq,and_true]<;>omega
theorem Ld{x sl:Int}{s:ByteArray}(h:(decide (x<0)||decide (399<x))=true):false=edR (x,sl,s):=by
 have:inB x 0 399=false:=by
  simp only[Bool.or_eq_true,decide_eq_true_eq] at h
  unfold inB
  rcases h with h|h
  rw[decide_eq_false (by omega)];rfl
  rw[decide_eq_false (p:=x<=399) (by omega)];simp
 rw[k9,this];rfl
theorem D3{x:Int}(h:(decide (x<0)||decide (399<x))=false):inB x 0 399=true:=by
 simp only[Bool.or_eq_false_iff,decide_eq_false_iff_not] at h
 unfold inB
 rw[decide_eq_true (by omega),decide_eq_true (by omega)];rfl
theorem J8{x sl:Int}{s:ByteArray}(h:(decide (x<0)||decide (399<x))=false)(h2:(sl== -1)=true):(((s.size:Int)==1)&&decide (bW (bl s) 0<=2))=edR (x,sl,s):=by
 rw[k9,D3 h,if_pos (by simpa using h2),Bool.true_and,eR,Bool.not_or]
 congr 1
 rw[Bool.eq_iff_iff];simp;omega
 rw[Bool.eq_iff_iff];simp
theorem JM{x sl:Int}{s:ByteArray}(h:(decide (x<0)||decide (399<x))=false)(h2:(sl== -1)=false):((decide (0<=sl)&&decide (sl<=23))&&decide ((s.size:Int)<=400))=edR (x,sl,s):=by
 rw[k9,D3 h,if_neg (by simpa using h2),Bool.true_and];rfl
theorem A5{r:RecM}(h:bz r=true->False):false=bz r:=by
 cases hr:bz r
 rfl
 exact(h hr).elim
theorem GO{r:RecM}(h:RecOk r):true=bz r:=by
 symm
 simp only[bz,inB,Bool.and_eq_true,decide_eq_true_eq,List.all_eq_true]
 exact⟨h.kind,h.xid,h.tbl,by have:=h.many;omega,h.eds,by have:=h.note;omega⟩
theorem apn(s:ByteArray):s++(⟨#[]⟩:ByteArray)=s:=by apply g9;rw[cY];exact List.append_nil _
theorem LG(a b c:ByteArray):(a++b)++c=cd [a,b,c]:=by rw[bD,bD,bD,fL,apn,ByteArray.append_assoc]
theorem NI(a b c:ByteArray):(a++b)++c=cd [cd [a,b],c]:=by rw[bD,bD,bD,bD,fL,apn,apn,ByteArray.append_assoc]
theorem Nx(a b c d:ByteArray):cd [a,b,c,d]=((a++b)++c)++d:=by rw[bD,bD,bD,bD,fL,apn,ByteArray.append_assoc,ByteArray.append_assoc]
theorem Nt(a b c d e f:ByteArray):((((a++b)++c)++d)++e)++f=cd [a,b,c,d,e,f]:=by rw[bD,bD,bD,bD,bD,bD,fL,apn,ByteArray.append_assoc,ByteArray.append_assoc,ByteArray.append_assoc,ByteArray.append_assoc]
section
variable{P:Program}{o:Oper}{ρ:Operand->Value}{W:World}
theorem J9{t t':TypeId}{x y:Operand}{k k':IntKind}{a b z:Int}(h:o.op= .binOp .shr t x y t')(hx:ρ x= .int k a)(hy:ρ y= .int k' b)(hb:0<=b)(hz:a.fdiv (2^min b.toNat k.bits)=z):(execOp ρ o).run P W= .ok (.value (.int k z)) W:=by
 subst hz
 unfold execOp;rw[h]
 have:¬b<0:=by omega
 simp[hx,hy,eqGuard,binOp,Op.shift,this]
end
theorem e6(N:Int)(m:Nat)(w:World)(hm:m<=8):
  Calls Tryz.prog 74 #[.int .i64 N,.int .i64 ((m:Int))] w (Ret (.string (aj N m)) w):=by
 go_enter Tryz.func74,Tryz.ntmps74
 have ak:=St.start w
 refine wq (sqr (sqp [.k 4 (.string ⟨#[]⟩)] ?_))
 refine aa (wq (sqr (sqp [.k 5 (.string ⟨#[]⟩)] ?_)))
 refine aa (wq (wq (sqr (sqp [.k 6 (vi 0)] ?_))))
 refine aa (wp_block ?_)
 refine aM (fun t_ mz az W=>∃k:Nat,k<=m/\mz=m-k/\az=⟨(ovr (jv az) [(0,0,0,[vi (shN N k)]),(4,5,0,[.string (aj N k),vi ((k:Int))]),(0,7,14,[])] t_).toArray,[]⟩/\St w [] [] W) (m-0) ?_ ?_
 exact⟨0,by omega,rfl,(by rw[IL,Dt];rfl),ak.pk []⟩
 rintro n4 a4 W4 ⟨k,hk,rfl,hj_,bb⟩
 refine ovz hj_ fun TZ=>?_
 refine wq (wq (sqr (sqp [.m 7 6,.m 8 1,.k 9 (.bool (decide ((k:Int)<(m:Int))))] ?_)))
 refine aa (wds (fun Mt Ip=>?_) fun Mt Ip=>?_)
 refine wp_skip (aa (wq (wp_block (wq (sqr (sqp [.m 12 0,sAn 13 .i64 (shN N k) 255 ((shN N k) % 256) (wH (shN N k) 8 (by decide)),sW 14 .u8 ((shN N k) % 256) ((shN N k) % 256) (IntWalk.u8_in _ (by omega))] ?_))))))
 refine d3 (fun x_=>sA x_) (fun uY=> .slice uY 1 1) (fun uY=>eO 5 1 (.slice uY 1 1) 1 ([.int .u8 ((shN N k) % 256)])) bb (by
   refine svA fun a b W X cx=>?_
   have PC:a (.tmp 14)= .int .u8 ((shN N k) % 256):=(cx.ou 14)
   exact dz (e:=5) (xs:=[.int .u8 ((shN N k) % 256)]) rfl (by simp[go_sem,PC]) rfl (by decide) rfl rfl (fun _ _ _ _ _=> .intro)) fun uY zv cT=>?_
 refine sql (.string (strOfNums ([((shN N k) % 256)]))) cT (fun cx=>kQ (e:=5) rfl (by kernel_rfl) (by kernel_rfl) (by kernel_rfl) (cx.ou 15) (cx.ri 0 rfl)) ?_
 refine sqp [.m 17 5] ?_
 refine sql (.string (aj N (k+1))) cT (fun cx=>(by rw[wI N (by omega)];exact tR rfl (cx.ou 16) (cx.ou 17) (by rw[strOfNums_size,aF N k (by omega)];first|omega|(simp only[List.length_cons,List.length_nil];omega)))) ?_
 refine sqp [.m 5 18] ?_
 refine aa (sqr (sqp [.m 19 0] ?_))
 refine sql (vi (shN N (k+1))) cT (fun cx=>J9 rfl (cx.ou 19) (cx.co _) (by decide) (Hk N k)) ?_
 refine sqp [.m 0 20] ?_
 refine av (aa (sqr (sqp [.m 10 6,sI 11 ((k:Int)+1) (by omega),.m 6 11] ?_)))
 refine aa ?_
 refine⟨m-((k+1)),by omega,?_⟩
 exact⟨(k+1),by omega,rfl,(by kernel_rfl),cT.pk []⟩
 refine wp_exit (al (al (bh (aa (wq (sqr (sqp [.m 21 5,.m 4 21] ?_)))))))
 refine aa (wp_ret ?_)
 refine bpr (.string (aj N k)) (ag Tryz.results74 rpt) ?_
 exact Ret.of (by rw[show k=m by omega]) bb.ext
theorem kC(s:ByteArray)(w:World)(hs:s.size<=65535):
  Calls Tryz.prog 139 #[.string s] w (Ret (.string (aX s)) w):=by
 have hp:=aF (s.size:Int) 2 (by omega)
 go_enter Tryz.func139,Tryz.ntmps139
 have ak:=St.start w
 refine wq (sqr (sqp [.k 2 (.string ⟨#[]⟩)] ?_))
 refine aa (wq (sqr (sqp [.m 3 0,.k 4 (vi ((s.size:Int)))] ?_)))
 refine sqk (.string (aj (s.size:Int) 2)) ak (fun cx=>⟨_,e6 (s.size:Int) 2 _ (by omega),(aT (cx.ou 4) (cx.co _))⟩) fun W4 bb=>?_
 refine sqp [.m 6 0,sS 7 (aj (s.size:Int) 2) s (by omega),.m 2 7] ?_
 refine aa (wp_ret ?_)
 refine bpr (.string ((aj (s.size:Int) 2)++s)) (ag Tryz.results139 rpt) ?_
 exact Ret.of rfl bb.ext
theorem Ap(x sl:Int)(s:ByteArray)(w:World)(hs:s.size<=9223372036854775807):
  Calls Tryz.prog 49 #[.agg #[.int .i64 x,.int .i64 sl,.string s]] w (Ret (.bool (edR (x,sl,s))) w):=by
 go_enter Tryz.func49,Tryz.ntmps49
 have ak:=St.start w
 refine wq (sqr ?_)
 refine b9 #[vi x,vi sl,.string s] ak fun aA W1 aB=>?_
 refine sqp [.k 2 (.bool false)] ?_
 refine aa (wq (wq (sqr (sqp [.k 3 (vp aA)] ?_))))
 refine au 0 aB ?_
 refine sqp [.k 5 (.bool (decide (x<0))),.m 6 5] ?_
 refine d5 6 [7,8,9] ?_ rfl (fun hq=>?_) ?_
 rotate_left
 refine sqp [.k 7 (vp aA)] ?_
 refine au 0 aB ?_
 refine sqp [.k 9 (.bool (decide (399<x)))] ?_
 exact sqe
 refine c8 ?_
 refine sqp [sPo 10 (decide (x<0)) (decide (399<x))] ?_
 refine aa (wbs (fun dq=>?_) fun dq=>?_)
 have gY:=dq
 simp only[zB] at gY
 refine wq (sqr (sqp [.k 2 (.bool false)] ?_))
 refine aa (wp_ret (ai ?_))
 refine bpr (.bool false) (ag Tryz.results49 rpt) ?_
 exact Ret.bool (Ld dq) aB.ext
 have gY:=dq
 simp only[zB] at gY
 obtain⟨Mu,Mv⟩:=gY
 refine wp_skip (aa (wq (wq (sqr (sqp [.k 11 (po aA 1)] ?_)))))
 refine au 0 aB ?_
 refine sqp [.k 13 (.bool (sl==(-1)))] ?_
 refine aa (wbs (fun dj=>?_) fun dj=>?_)
 ·have l0:=beq_iff_eq.1 dj
  refine wq (sqr (sqp [.k 14 (po aA 2)] ?_))
  refine au 0 aB ?_
  refine sqp [.k 16 (vi ((s.size:Int))),.k 17 (.bool ((s.size:Int)==1)),.m 18 17] ?_
  refine d5 18 [19,20,21,22] ?_ rfl (fun hq=>?_) ?_
  rotate_left
  have hq_:=hq
  try simp only[zB] at hq_
  refine sqp [.k 19 (po aA 2)] ?_
  refine au 0 aB ?_
  refine sql (.int .u8 (bW (bl s) 0)) aB (fun cx=>jW (m:=0) rfl (by kernel_rfl) (cx.ou 20) (cx.co _) (by omega) (by omega)) ?_
  refine sqp [.k 22 (.bool (decide (bW (bl s) 0<=2)))] ?_
  exact sqe
  refine c8 ?_
  refine sqp [sPa 23 ((s.size:Int)==1) (decide (bW (bl s) 0<=2)),.m 2 23] ?_
  refine aa (wp_ret (ai ?_))
  refine bpr (.bool (((s.size:Int)==1)&&(decide (bW (bl s) 0<=2)))) (ag Tryz.results49 rpt) ?_
  exact Ret.bool (J8 dq dj) aB.ext
 have l0:=beq_eq_false_iff_ne.1 dj
 refine wp_skip (aa (wq (sqr (sqp [.k 24 (po aA 1)] ?_))))
 refine au 0 aB ?_
 refine sqp [.k 26 (.bool (decide (0<=sl))),.m 27 26] ?_
 refine d5 27 [28,29,30] ?_ rfl (fun hq=>?_) ?_
 rotate_left
 refine sqp [.k 28 (po aA 1)] ?_
 refine au 0 aB ?_
 refine sqp [.k 30 (.bool (decide (sl<=23)))] ?_
 exact sqe
 refine c8 ?_
 refine sqp [sPa 31 (decide (0<=sl)) (decide (sl<=23)),.m 32 31] ?_
 refine d5 32 [33,34,35,36] ?_ rfl (fun hq=>?_) ?_
 rotate_left
 refine sqp [.k 33 (po aA 2)] ?_
 refine au 0 aB ?_
 refine sqp [.k 35 (vi ((s.size:Int))),.k 36 (.bool (decide ((s.size:Int)<=400)))] ?_
 exact sqe
 refine c8 ?_
 refine sqp [sPa 37 ((decide (0<=sl))&&(decide (sl<=23))) (decide ((s.size:Int)<=400)),.m 2 37] ?_
 refine aa (wp_ret ?_)
 refine bpr (.bool (((decide (0<=sl))&&(decide (sl<=23)))&&(decide ((s.size:Int)<=400)))) (ag Tryz.results49 rpt) ?_
 exact Ret.bool (JM dq dj) aB.ext
theorem sw(w:World):
  Calls Tryz.prog 50 #[sn] w (Ret (.bool true) w):=by
 go_enter Tryz.func50,Tryz.ntmps50
 have ak:=St.start w
 refine wq (sqr (sqp [.k 2 (.bool false)] ?_))
 refine aa (wq (wq (sqr (sqp [.k 3 (vi 0)] ?_))))
 refine aa (wp_block ?_)
 refine aM (fun t_ mz az W=>∃j:Nat,j<=0/\mz=0-j/\az=⟨(ovr (jv az) [(2,2,1,[vi ((j:Int))]),(0,4,12,[])] t_).toArray,[]⟩/\St w [] [] W) (0-0) ?_ ?_
 exact⟨0,Nat.zero_le _,rfl,(by kernel_rfl),ak.pk []⟩
 rintro n3 a3 W3 ⟨j,hj,rfl,hj_,aW⟩
 refine ovz hj_ fun QW=>?_
 refine wq (wq (sqr ?_))
 have hd8:(decide ((j:Int)<0))=false:=(decide_eq_false (by omega))
 refine sqp [.m 4 3,.m 5 0,.k 6 (vi 0),.e 7 (.bool (decide ((j:Int)<0))) (.bool false) (congrArg Value.bool hd8)] ?_
 refine aa (wcf rfl (wp_exit (al (al (bh (aa (wq (sqr (sqp [.m 16 0,.k 17 (vi 0),.k 18 (.bool true),.k 2 (.bool true)] ?_)))))))))
 refine aa (wp_ret ?_)
 refine bpr (.bool true) (ag Tryz.results50 rpt) ?_
 exact Ret.bool (by decide) aW.ext
theorem He(w:World):
  Calls Tryz.prog 170 #[.int .i64 0] w (Ret (.string ⟨#[0]⟩) w):=by
 go_enter Tryz.func170,Tryz.ntmps170
 have ak:=St.start w
 refine wq (sqr (sqp [.k 2 (.string ⟨#[]⟩)] ?_))
 refine aa (wq (sqr (sqp [.m 3 0,sW 4 .u8 0 0 (by decide)] ?_)))
 refine d3 (fun x_=>sA x_) (fun C3=> .slice C3 1 1) (fun C3=>eO 5 1 (.slice C3 1 1) 1 ([.int .u8 0])) ak (by
   refine svA fun a b W X cx=>?_
   have uM:a (.tmp 4)= .int .u8 0:=(cx.ou 4)
   exact dz (e:=5) (xs:=[.int .u8 0]) rfl (by simp[go_sem,uM]) rfl (by decide) rfl rfl (fun _ _ _ _ _=> .intro)) fun C3 W4 bb=>?_
 refine sql (.string (strOfNums ([0]))) bb (fun cx=>kQ (e:=5) rfl (by kernel_rfl) (by kernel_rfl) (by kernel_rfl) (cx.ou 5) (cx.ri 0 rfl)) ?_
 refine sqp [.m 2 6] ?_
 refine aa (wp_ret ?_)
 refine bpr (.string (strOfNums ([0]))) (ag Tryz.results170 rpt) ?_
 exact Ret.of rfl bb.ext
theorem tM(w:World):
  Calls Tryz.prog 140 #[sn] w (Ret (.string ⟨#[0]⟩) w):=by
 go_enter Tryz.func140,Tryz.ntmps140
 have ak:=St.start w
 refine wq (sqr (sqp [.k 2 (.string ⟨#[]⟩)] ?_))
 refine aa (wq (wq (sqr (sqp [.m 5 0] ?_))))
 refine sqk (.bool true) ak (fun cx=>⟨_,sw _,(aw (cx.ou 5))⟩) fun W3 aW=>?_
 refine sqp [.k 7 (.bool false)] ?_
 refine aa (wcf rfl (wp_skip (aa (wq (sqr (sqp [.m 8 0,.k 9 (vi 0)] ?_))))))
 refine sqk (.string ((⟨#[0]⟩:ByteArray))) aW (fun cx=>⟨_,He _,(aw (cx.ou 9))⟩) fun W7 aZ=>?_
 refine sqp [.m 3 10] ?_
 refine aa (wq (wq (sqr (sqp [.k 4 (vi 0)] ?_))))
 refine aa (wp_block ?_)
 refine aM (fun t_ mz az W=>∃j:Nat,j<=0/\mz=0-j/\az=⟨(ovr (jv az) [(4,4,0,[vi ((j:Int))]),(6,11,49,[])] t_).toArray,[]⟩/\St w [] [] W) (0-0) ?_ ?_
 exact⟨0,Nat.zero_le _,rfl,(by kernel_rfl),aZ.pk []⟩
 rintro T0 a10 w4 ⟨j,hj,rfl,hj_,dP⟩
 refine ovz hj_ fun Sg=>?_
 refine wq (wq (sqr ?_))
 have hd15:(decide ((j:Int)<0))=false:=(decide_eq_false (by omega))
 refine sqp [.m 11 4,.m 12 0,.k 13 (vi 0),.e 14 (.bool (decide ((j:Int)<0))) (.bool false) (congrArg Value.bool hd15)] ?_
 refine aa (wcf rfl (wp_exit (al (al (bh (aa (wq (sqr (sqp [.m 60 3,.m 2 60] ?_)))))))))
 refine aa (wp_ret ?_)
 refine bpr (.string ((⟨#[0]⟩:ByteArray))) (ag Tryz.results140 rpt) ?_
 exact Ret.of rfl dP.ext
theorem mD(k x t:Int)(A:Option Addr)(c:Nat)(l:List EdT)(note:ByteArray)(w:World)(hA:At w A (l.flatMap edC))(hl:l.length<=1000000)(hz:∀e∈l,e.2.2.size<=9223372036854775807)(hns:note.size<=9223372036854775807):
  Calls Tryz.prog 16 #[.agg #[.int .i64 k,.int .i64 x,.int .i64 t,sn,sn,.slice A l.length c,sn,.string note]] w (Ret (.bool (bz ⟨k,x,t,l,note⟩)) w):=by
 go_enter Tryz.func16,Tryz.ntmps16
 have ak:=St.start w
 refine wq (sqr ?_)
 refine b9 #[vi k,vi x,vi t,sn,sn,.slice A l.length c,sn,.string note] ak fun aA W1 aB=>?_
 refine sqp [.k 2 (.bool false)] ?_
 refine aa (wq (wq (sqr (sqp [.k 6 (vp aA)] ?_))))
 refine au 0 aB ?_
 refine sqp [.k 8 (.bool (decide (k<1))),.m 9 8] ?_
 refine d5 9 [10,11,12] ?_ rfl (fun hq=>?_) ?_
 rotate_left
 refine sqp [.k 10 (vp aA)] ?_
 refine au 0 aB ?_
 refine sqp [.k 12 (.bool (decide (10<k)))] ?_
 exact sqe
 refine c8 ?_
 refine sqp [sPo 13 (decide (k<1)) (decide (10<k)),.m 14 13] ?_
 refine d5 14 [15,16,17] ?_ rfl (fun hq=>?_) ?_
 rotate_left
 refine sqp [.k 15 (po aA 1)] ?_
 refine au 0 aB ?_
 refine sqp [.k 17 (.bool (decide (x<0)))] ?_
 exact sqe
 refine c8 ?_
 refine sqp [sPo 18 ((decide (k<1))||(decide (10<k))) (decide (x<0)),.m 19 18] ?_
 refine d5 19 [20,21,22] ?_ rfl (fun hq=>?_) ?_
 rotate_left
 refine sqp [.k 20 (po aA 1)] ?_
 refine au 0 aB ?_
 refine sqp [.k 22 (.bool (decide (127<x)))] ?_
 exact sqe
 refine c8 ?_
 refine sqp [sPo 23 (((decide (k<1))||(decide (10<k)))||(decide (x<0))) (decide (127<x)),.m 24 23] ?_
 refine d5 24 [25,26,27] ?_ rfl (fun hq=>?_) ?_
 rotate_left
 refine sqp [.k 25 (po aA 2)] ?_
 refine au 0 aB ?_
 refine sqp [.k 27 (.bool (decide (t<0)))] ?_
 exact sqe
 refine c8 ?_
 refine sqp [sPo 28 ((((decide (k<1))||(decide (10<k)))||(decide (x<0)))||(decide (127<x))) (decide (t<0)),.m 29 28] ?_
 refine d5 29 [30,31,32] ?_ rfl (fun hq=>?_) ?_
 rotate_left
 refine sqp [.k 30 (po aA 2)] ?_
 refine au 0 aB ?_
 refine sqp [.k 32 (.bool (decide (65535<t)))] ?_
 exact sqe
 refine c8 ?_
 refine sqp [sPo 33 (((((decide (k<1))||(decide (10<k)))||(decide (x<0)))||(decide (127<x)))||(decide (t<0))) (decide (65535<t)),.m 34 33] ?_
 refine d5 34 [35,36,37,38] ?_ rfl (fun hq=>?_) ?_
 rotate_left
 refine sqp [.k 35 (po aA 5)] ?_
 refine au 0 aB ?_
 refine sqp [.k 37 (vi ((l.length:Int))),.k 38 (.bool (decide (64<(l.length:Int))))] ?_
 exact sqe
 refine c8 ?_
 refine sqp [sPo 39 ((((((decide (k<1))||(decide (10<k)))||(decide (x<0)))||(decide (127<x)))||(decide (t<0)))||(decide (65535<t))) (decide (64<(l.length:Int))),.m 40 39] ?_
 refine d5 40 [41,42,43,44] ?_ rfl (fun hq=>?_) ?_
 rotate_left
 refine sqp [.k 41 (po aA 6)] ?_
 refine au 0 aB ?_
 refine sqp [.k 43 (vi 0),.k 44 (.bool false)] ?_
 exact sqe
 refine c8 ?_
 refine sqp [sPo 45 (((((((decide (k<1))||(decide (10<k)))||(decide (x<0)))||(decide (127<x)))||(decide (t<0)))||(decide (65535<t)))||(decide (64<(l.length:Int)))) false,.m 46 45] ?_
 refine d5 46 [47,48,49,50] ?_ rfl (fun hq=>?_) ?_
 rotate_left
 refine sqp [.k 47 (po aA 7)] ?_
 refine au 0 aB ?_
 refine sqp [.k 49 (vi ((note.size:Int))),.k 50 (.bool (decide (60000<(note.size:Int))))] ?_
 exact sqe
 refine c8 ?_
 refine sqp [sPo 51 ((((((((decide (k<1))||(decide (10<k)))||(decide (x<0)))||(decide (127<x)))||(decide (t<0)))||(decide (65535<t)))||(decide (64<(l.length:Int))))||false) (decide (60000<(note.size:Int)))] ?_
 refine aa (wbs (fun zH=>?_) fun zH=>?_)
 have xA:=zH
 simp only[zB] at xA
 refine wq (sqr (sqp [.k 2 (.bool false)] ?_))
 refine aa (wp_ret (ai ?_))
 refine bpr (.bool false) (ag Tryz.results16 rpt) ?_
 exact Ret.bool (A5 fun hh=>by have h1:=d9 hh;have a1:=h1.kind;have a2:=h1.xid;have a3:=h1.tbl;have a4:=h1.many;have a5:=h1.note;dsimp only at a1 a2 a3 a4 a5;have h_:=zH;simp at h_;omega) aB.ext
 have xA:=zH
 simp only[zB] at xA
 obtain⟨⟨⟨⟨⟨⟨⟨⟨QX,QY⟩,QZ⟩,Q0⟩,Q1⟩,Q2⟩,Q3⟩,Q4⟩,Q5⟩:=xA
 refine wp_skip (aa (wq (wq (sqr (sqp [.k 3 (vi 0)] ?_)))))
 refine aa (wp_block ?_)
 refine aM (fun t_ mz az W=>∃j:Nat,j<=l.length/\(∀i x,i<j->l[i]? =some x->edR x=true)/\mz=l.length-j/\az=⟨(ovr (jv az) [(2,2,1,[vi ((j:Int))]),(0,4,1,[]),(47,52,15,[])] t_).toArray,[]⟩/\St w [] [eB aA 27 #[vi k,vi x,vi t,sn,sn,.slice A l.length c,sn,.string note]] W) (l.length-0) ?_ ?_
 exact⟨0,Nat.zero_le _,fun i x h=>absurd h (Nat.not_lt_zero i),rfl,(by kernel_rfl),aB.pk [0]⟩
 rintro Q6 a52 BD ⟨j,hj,ha,rfl,hj_,cL⟩
 refine ovz hj_ fun PD=>?_
 refine wq (wq (sqr (sqp [.m 52 3,.k 53 (po aA 5)] ?_)))
 refine au 0 cL ?_
 refine sqp [.k 55 (vi ((l.length:Int))),.k 56 (.bool (decide ((j:Int)<(l.length:Int))))] ?_
 refine aa (wds (fun PE N3=>?_) fun PE N3=>?_)
 refine wp_skip (aa (wq (wp_block (wq ?_))))
 obtain⟨ep,es,eb,hek⟩:=kU (l:=l) (k:=j) (by omega)
 have hez:eb.size<=9223372036854775807:=hz _ (List.mem_of_getElem? hek)
 refine sqr (sqp [.k 59 (po aA 5)] ?_)
 refine au 0 cL ?_
 refine sqp [.m 61 3] ?_
 refine sql (.pointer (some ((ad A).add (j*3)))) cL (fun cx=>ay (e:=84) (m:=j) (sz:=3) rfl (by kernel_rfl) (by kernel_rfl) (cx.ou 60) (cx.ou 61) (by omega) (by omega) (hA.ext cx.upd.to_ext) (be (sz:=3) bA (by decide) (by omega))) ?_
 refine sql (.agg #[vi ep,vi es,.string eb]) cL (fun cx=>bH (f:=edC) (m:=j) (sz:=3) (off:=0) (n:=3) rfl (by kernel_rfl) (by kernel_rfl) (cx.ou 62) rfl bA (hA.ext cx.upd.to_ext) hek (fun k hk=>match k,hk with|0,_=>rfl|1,_=>rfl|2,_=>rfl|k+3,hk=>absurd hk (by omega))) ?_
 refine sqk (.bool (edR (ep,es,eb))) cL (fun cx=>⟨_,Ap ep es eb _ hez,(aw (cx.ou 63))⟩) fun Mw iy=>?_
 refine sqp [.m 4 64] ?_
 refine aa (wq (sqr (sqp [.m 65 4,.k 66 (.bool (!(edR (ep,es,eb))))] ?_)))
 refine aa ?_
 rcases Bool.eq_false_or_eq_true (edR (ep,es,eb)) with nR|nR
 refine wp_cond_false (show Act.eval _ _= .bool false from(congrArg Value.bool (by rw[nR];rfl))) (wp_skip (av (aa (sqr (sqp [.m 57 3,sI 58 ((j:Int)+1) (by omega),.m 3 58] ?_)))))
 refine aa ?_
 refine⟨l.length-((j+1)),by omega,?_⟩
 exact⟨(j+1),by omega,xK ha hek (by simpa using nR),rfl,(by kernel_rfl),iy.pk [0]⟩
 refine wp_cond_true (show Act.eval _ _= .bool true from(congrArg Value.bool (by rw[nR];rfl))) (wq (sqr (sqp [.k 2 (.bool false)] ?_)))
 refine aa (wp_ret (aV (ai (ai (aV (ai ?_))))))
 refine bpr (.bool false) (ag Tryz.results16 rpt) ?_
 exact Ret.bool (A5 fun hh=>by have h1:=(d9 hh).eds _ (List.mem_of_getElem? hek);have h_:=nR;simp[h1] at h_) iy.ext
 refine wp_exit (al (al (bh (aa (wq (wq (sqr (sqp [.k 5 (vi 0)] ?_))))))))
 refine aa (wp_block ?_)
 refine aM (fun t_ mz az W=>∃j2:Nat,j2<=0/\mz=0-j2/\az=⟨(ovr (jv az) [(2,2,1,[]),(2,5,0,[vi ((j2:Int))]),(61,67,21,[])] t_).toArray,[]⟩/\St w [] [eB aA 27 #[vi k,vi x,vi t,sn,sn,.slice A l.length c,sn,.string note]] W) (0-0) ?_ ?_
 exact⟨0,Nat.zero_le _,rfl,(by kernel_rfl),cL.pk [0]⟩
 rintro T1 a74 IY ⟨j2,hj2,rfl,hj_,gX⟩
 refine ovz hj_ fun Sm=>?_
 refine wq (wq (sqr (sqp [.m 67 5,.k 68 (po aA 6)] ?_)))
 refine au 0 gX ?_
 have hd80:(decide ((j2:Int)<0))=false:=(decide_eq_false (by omega))
 refine sqp [.k 70 (vi 0),.e 71 (.bool (decide ((j2:Int)<0))) (.bool false) (congrArg Value.bool hd80)] ?_
 refine aa (wcf rfl (wp_exit (al (al (bh (aa (wq (sqr (sqp [.k 88 (po aA 3)] ?_)))))))))
 refine au 0 gX ?_
 refine sqk (.bool true) gX (fun cx=>⟨_,sw _,(aw (cx.ou 89))⟩) fun T2 I8=>?_
 refine sqp [.k 91 (.bool true)] ?_
 refine dF 91 [92,93,94] rfl rfl ?_
 refine sqp [.k 92 (po aA 4)] ?_
 refine au 0 I8 ?_
 refine sqk (.bool true) I8 (fun cx=>⟨_,sw _,(aw (cx.ou 93))⟩) fun L7 kN=>?_
 refine sqp [.k 95 (.bool true),.k 2 (.bool true)] ?_
 refine aa (wp_ret ?_)
 refine bpr (.bool true) (ag Tryz.results16 rpt) ?_
 exact Ret.bool (GO (by have h_:=zH;simp at h_;exact⟨by dsimp only;omega,by dsimp only;omega,by dsimp only;omega,by dsimp only;omega,fun y hy=>by obtain⟨i,hi,rfl⟩:=List.mem_iff_getElem.1 hy;exact ha i _ (by dsimp only at hi;omega) (List.getElem?_eq_getElem hi),by dsimp only;omega⟩)) kN.ext
theorem xG(k x t:Int)(A:Option Addr)(c:Nat)(l:List EdT)(note:ByteArray)(w:World)(hA:At w A (l.flatMap edC))(hl:l.length<=1000000)(hz:∀e∈l,e.2.2.size<=9223372036854775807)(hns:note.size<=9223372036854775807):
  Calls Tryz.prog 73 #[.agg #[.int .i64 k,.int .i64 x,.int .i64 t,sn,sn,.slice A l.length c,sn,.string note]] w (Ret (.string (ax ⟨k,x,t,l,note⟩)) w):=by
 go_enter Tryz.func73,Tryz.ntmps73
 have ak:=St.start w
 refine wq (sqr ?_)
 refine b9 #[vi k,vi x,vi t,sn,sn,.slice A l.length c,sn,.string note] ak fun aA W1 aB=>?_
 refine sqp [.k 2 (.string ⟨#[]⟩)] ?_
 refine aa (wq (wq (sqr ?_)))
 refine bJ 0 8 aB ?_
 refine sqk (.bool (bz ⟨k,x,t,l,note⟩)) aB (fun cx=>⟨_,mD k x t _ _ l note _ (hA.ext cx.upd.to_ext) hl hz hns,(aw (cx.ou 6))⟩) fun W4 bb=>?_
 refine sqp [.k 8 (.bool (!(bz ⟨k,x,t,l,note⟩)))] ?_
 refine aa ?_
 rcases Bool.eq_false_or_eq_true (bz ⟨k,x,t,l,note⟩) with dB|dB
 refine wp_cond_false (show Act.eval _ _= .bool false from(congrArg Value.bool (by rw[dB];rfl))) (wp_skip (aa (wq ?_)))
 have hrr:=dB
 have hro:=d9 hrr
 have hrm:l.length<=64:=hro.many
 have hrn:note.size<=60000:=hro.note
 have pV:∀z:Int,(aj z 1).size=1:=fun z=>aF z 1 (by omega)
 have oq:∀z:Int,(aj z 2).size=2:=fun z=>aF z 2 (by omega)
 have htz:(aX ⟨#[0]⟩).size=3:=gN _
 refine bL [0,1,3,0,8,31,63,0,128,447,1023,0,2048,7103,15295,32767,0,65536,228287,490431,1048575,0,2097152,6291456,15694783,33554431,67108863] [[],[0],[],[],[0],[],[],[],[0],[],[],[],[0],[],[],[],[],[0],[],[],[],[],[0]] [.k 9 (vp aA),.c 10 (vi k),.c 11 (.string (aj k 1)),.k 12 (po aA 1),.c 13 (vi x),.c 14 (.string (aj x 1)),tS 15 (aj k 1) (aj x 1) (by simp only[ByteArray.size_append,pV,oq,htz];omega),.k 16 (po aA 2),.c 17 (vi t),.c 18 (.string (aj t 2)),tS 19 ((aj k 1)++(aj x 1)) (aj t 2) (by simp only[ByteArray.size_append,pV,oq,htz];omega),.k 20 (po aA 3),.c 21 (sn),.c 22 (.string ((⟨#[0]⟩:ByteArray))),.c 23 (.string (aX (⟨#[0]⟩:ByteArray))),tS 24 (((aj k 1)++(aj x 1))++(aj t 2)) (aX (⟨#[0]⟩:ByteArray)) (by simp only[ByteArray.size_append,pV,oq,htz];omega),.k 25 (po aA 4),.c 26 (sn),.c 27 (.string ((⟨#[0]⟩:ByteArray))),.c 28 (.string (aX (⟨#[0]⟩:ByteArray))),tS 29 ((((aj k 1)++(aj x 1))++(aj t 2))++(aX (⟨#[0]⟩:ByteArray))) (aX (⟨#[0]⟩:ByteArray)) (by simp only[ByteArray.size_append,pV,oq,htz];omega),.k 30 (po aA 5),.c 31 (.slice A l.length c),.k 32 (vi ((l.length:Int))),.c 33 (.string (aj (l.length:Int) 1)),tS 34 (((((aj k 1)++(aj x 1))++(aj t 2))++(aX (⟨#[0]⟩:ByteArray)))++(aX (⟨#[0]⟩:ByteArray))) (aj (l.length:Int) 1) (by simp only[ByteArray.size_append,pV,oq,htz];omega),.k 3 (.string ((((((aj k 1)++(aj x 1))++(aj t 2))++(aX (⟨#[0]⟩:ByteArray)))++(aX (⟨#[0]⟩:ByteArray)))++(aj (l.length:Int) 1)))] [0] [1,2,4,5,8,9,12,13,14,17,18,19,22,24] [(3,26,1,4),(5,0,26,31)] bb ?_ fun W7 aZ=>?_
 refine⟨?_,?_,?_,?_,?_,?_,?_,?_,?_,?_,?_,?_,?_,?_,trivial⟩
 exact xs4 rfl id fun cx=>ae rfl (by kernel_rfl) (cx.an 0) ((cx.bi 0 rfl).cell 0)
 exact xsc rfl id rfl rfl fun cx=>⟨_,e6 k 1 _ (by omega),(aT (cx.an 1) (cx.co _))⟩
 exact xs4 rfl id fun cx=>ae rfl (by kernel_rfl) (cx.an 3) ((cx.bi 0 rfl).cell 1)
 exact xsc rfl id rfl rfl fun cx=>⟨_,e6 x 1 _ (by omega),(aT (cx.an 4) (cx.co _))⟩
 exact xs4 rfl id fun cx=>ae rfl (by kernel_rfl) (cx.an 7) ((cx.bi 0 rfl).cell 2)
 exact xsc rfl id rfl rfl fun cx=>⟨_,e6 t 2 _ (by omega),(aT (cx.an 8) (cx.co _))⟩
 exact xs4 rfl id fun cx=>ae rfl (by kernel_rfl) (cx.an 11) ((cx.bi 0 rfl).cell 3)
 exact xsc rfl id rfl rfl fun cx=>⟨_,tM _,(aw (cx.an 12))⟩
 exact xsc rfl id rfl rfl fun cx=>⟨_,kC (⟨#[0]⟩:ByteArray) _ (by decide),(aw (cx.an 13))⟩
 exact xs4 rfl id fun cx=>ae rfl (by kernel_rfl) (cx.an 16) ((cx.bi 0 rfl).cell 4)
 exact xsc rfl id rfl rfl fun cx=>⟨_,tM _,(aw (cx.an 17))⟩
 exact xsc rfl id rfl rfl fun cx=>⟨_,kC (⟨#[0]⟩:ByteArray) _ (by decide),(aw (cx.an 18))⟩
 exact xs4 rfl id fun cx=>ae rfl (by kernel_rfl) (cx.an 21) ((cx.bi 0 rfl).cell 5)
 exact xsc rfl id rfl rfl fun cx=>⟨_,e6 (l.length:Int) 1 _ (by omega),(aT (cx.an 23) (cx.co _))⟩
 refine aa (wq (wq (sqr (sqp [.k 4 (vi 0)] ?_))))
 refine aa (wp_block ?_)
 refine aM (fun t_ mz az W=>∃j:Nat,∃sj:ByteArray,j<=l.length/\sj=cU (hdB ⟨k,x,t,l,note⟩) (l.take j)/\mz=l.length-j/\az=⟨(ovr (jv az) [(3,3,0,[.string sj,vi ((j:Int))]),(30,35,33,[])] t_).toArray,[]⟩/\St w [] [eB aA 27 #[vi k,vi x,vi t,sn,sn,.slice A l.length c,sn,.string note]] W) (l.length-0) ?_ ?_
 exact⟨0,(((((aj k 1)++(aj x 1))++(aj t 2))++(aX (⟨#[0]⟩:ByteArray)))++(aX (⟨#[0]⟩:ByteArray)))++(aj (l.length:Int) 1),Nat.zero_le _,Nt _ _ _ _ _ _,rfl,(by kernel_rfl),aZ.pk [0]⟩
 rintro n9 a9 W9 ⟨j,sj,hj,hsj,rfl,hj_,cG⟩
 refine ovz hj_ fun Qq=>?_
 refine wq (wq (sqr (sqp [.m 35 4,.k 36 (po aA 5)] ?_)))
 refine au 0 cG ?_
 refine sqp [.k 38 (vi ((l.length:Int))),.k 39 (.bool (decide ((j:Int)<(l.length:Int))))] ?_
 refine aa (wds (fun dJ kL=>?_) fun dJ kL=>?_)
 refine wp_skip (aa (wq (wp_block ?_)))
 obtain⟨ep,es,eb,hek⟩:=kU (l:=l) (k:=j) (by omega)
 have her:edR (ep,es,eb)=true:=hro.eds _ (List.mem_of_getElem? hek)
 have hez:eb.size<=400:=dn her
 obtain⟨hep_,hes_⟩:=jL her
 have hes_: -1<=es/\es<=23:=hes_
 have hsz:=kX (l:=l.take j) (fun e he=>dn (hro.eds e (List.mem_of_mem_take he))) (hdB ⟨k,x,t,l,note⟩)
 rw[<-hsj,iF,List.length_take] at hsz
 have htb:=gN eb
 refine bL [0,0,2,0,14,30,62,126,255,0,512,0,3584,7680,15872,32256,65278,131071,0,262144,0,1835008,3932160,8126464,16645886,33554431,67108863] [[],[],[0],[],[],[],[],[],[],[],[0],[],[],[],[],[],[],[],[],[0]] [.k 42 (.string sj),.k 43 (po aA 5),.c 44 (.slice A l.length c),.k 45 (vi ((j:Int))),.c 46 (.pointer (some ((ad A).add (j*3)))),.c 47 (.pointer (some ((ad A).add (j*3+0)))),.c 48 (vi ep),.c 49 (.string (aj ep 2)),tS 50 sj (aj ep 2) (by simp only[ByteArray.size_append,pV,oq,htz];omega),.k 51 (po aA 5),.c 52 (.slice A l.length c),.k 53 (vi ((j:Int))),.c 54 (.pointer (some ((ad A).add (j*3)))),.c 55 (.pointer (some ((ad A).add (j*3+1)))),.c 56 (vi es),tI 57 (es+1) (by omega),.c 58 (.string (aj (es+1) 1)),tS 59 (sj++(aj ep 2)) (aj (es+1) 1) (by simp only[ByteArray.size_append,pV,oq,htz];omega),.k 60 (po aA 5),.c 61 (.slice A l.length c),.k 62 (vi ((j:Int))),.c 63 (.pointer (some ((ad A).add (j*3)))),.c 64 (.pointer (some ((ad A).add (j*3+2)))),.c 65 (.string eb),.c 66 (.string (aX eb)),tS 67 ((sj++(aj ep 2))++(aj (es+1) 1)) (aX eb) (by simp only[ByteArray.size_append,pV,oq,htz];omega),.k 3 (.string (((sj++(aj ep 2))++(aj (es+1) 1))++(aX eb)))] [0] [2,4,5,6,7,10,12,13,14,16,19,21,22,23,24] [(3,26,1,4),(38,0,26,64)] cG ?_ fun qQ dx=>?_
 refine⟨?_,?_,?_,?_,?_,?_,?_,?_,?_,?_,?_,?_,?_,?_,?_,trivial⟩
 exact xs4 rfl id fun cx=>ae rfl (by kernel_rfl) (cx.an 1) ((cx.bi 0 rfl).cell 5)
 exact xs4 rfl id fun cx=>ay (e:=84) (m:=j) (sz:=3) rfl (by kernel_rfl) (by kernel_rfl) (cx.an 2) (cx.an 3) (by omega) (by omega) (hA.ext cx.upd.to_ext) (be (sz:=3) bA (by decide) (by omega))
 exact xs4 rfl id fun cx=>bg rfl (by kernel_rfl) (cx.an 4)
 exact xs4 rfl id fun cx=>ae rfl (by kernel_rfl) (cx.an 5) (At.eltc (f:=edC) (k:=0) bA (hA.ext cx.upd.to_ext) hek rfl)
 exact xsc rfl id rfl rfl fun cx=>⟨_,e6 ep 2 _ (by omega),(aT (cx.an 6) (cx.co _))⟩
 exact xs4 rfl id fun cx=>ae rfl (by kernel_rfl) (cx.an 9) ((cx.bi 0 rfl).cell 5)
 exact xs4 rfl id fun cx=>ay (e:=84) (m:=j) (sz:=3) rfl (by kernel_rfl) (by kernel_rfl) (cx.an 10) (cx.an 11) (by omega) (by omega) (hA.ext cx.upd.to_ext) (be (sz:=3) bA (by decide) (by omega))
 exact xs4 rfl id fun cx=>bg rfl (by kernel_rfl) (cx.an 12)
 exact xs4 rfl id fun cx=>ae rfl (by kernel_rfl) (cx.an 13) (At.eltc (f:=edC) (k:=1) bA (hA.ext cx.upd.to_ext) hek rfl)
 exact xsc rfl id rfl rfl fun cx=>⟨_,e6 (es+1) 1 _ (by omega),(aT (cx.an 15) (cx.co _))⟩
 exact xs4 rfl id fun cx=>ae rfl (by kernel_rfl) (cx.an 18) ((cx.bi 0 rfl).cell 5)
 exact xs4 rfl id fun cx=>ay (e:=84) (m:=j) (sz:=3) rfl (by kernel_rfl) (by kernel_rfl) (cx.an 19) (cx.an 20) (by omega) (by omega) (hA.ext cx.upd.to_ext) (be (sz:=3) bA (by decide) (by omega))
 exact xs4 rfl id fun cx=>bg rfl (by kernel_rfl) (cx.an 21)
 exact xs4 rfl id fun cx=>ae rfl (by kernel_rfl) (cx.an 22) (At.eltc (f:=edC) (k:=2) bA (hA.ext cx.upd.to_ext) hek rfl)
 exact xsc rfl id rfl rfl fun cx=>⟨_,kC eb _ (by omega),(aw (cx.an 23))⟩
 refine av (aa (sqr (sqp [.m 40 4,sI 41 ((j:Int)+1) (by omega),.m 4 41] ?_)))
 refine aa ?_
 refine⟨l.length-((j+1)),by omega,?_⟩
 exact⟨(j+1),(((sj++(aj ep 2))++(aj (es+1) 1))++(aX eb)),by omega,by rw[wh hek,<-hsj];exact(Nx _ _ _ _).symm,rfl,(by kernel_rfl),dx.pk [0]⟩
 refine wp_exit (al (al (bh (aa (wq ?_)))))
 obtain rfl:j=l.length:=by omega
 rw[List.take_length] at hsj
 have hsz:=kX (l:=l) (fun e he=>dn (hro.eds e he)) (hdB ⟨k,x,t,l,note⟩)
 rw[<-hsj,iF] at hsz
 have htn:=gN note
 refine sqr (sqp [.m 68 3,.k 69 (po aA 6)] ?_)
 refine au 0 cG ?_
 refine sqp [.k 71 (vi 0)] ?_
 refine sqk (.string (aj 0 1)) cG (fun cx=>⟨_,e6 0 1 _ (by omega),(aT (cx.ou 71) (cx.co _))⟩) fun zm fb=>?_
 refine sqp [sS 73 sj (aj 0 1) (by simp only[ByteArray.size_append,pV,oq,htz];omega),.m 3 73] ?_
 refine aa (wq (wq (sqr (sqp [.k 5 (vi 0)] ?_))))
 refine aa (wp_block ?_)
 refine aM (fun t_ mz az W=>∃j2:Nat,j2<=0/\mz=0-j2/\az=⟨(ovr (jv az) [(5,5,0,[vi ((j2:Int))]),(68,74,15,[])] t_).toArray,[]⟩/\St w [] [eB aA 27 #[vi k,vi x,vi t,sn,sn,.slice A l.length c,sn,.string note]] W) (0-0) ?_ ?_
 exact⟨0,Nat.zero_le _,rfl,(by kernel_rfl),fb.pk [0]⟩
 rintro T3 a28 zu ⟨j2,hj2,rfl,hj_,dR⟩
 refine ovz hj_ fun Sn=>?_
 refine wq (wq (sqr (sqp [.m 74 5,.k 75 (po aA 6)] ?_)))
 refine au 0 dR ?_
 have hd34:(decide ((j2:Int)<0))=false:=(decide_eq_false (by omega))
 refine sqp [.k 77 (vi 0),.e 78 (.bool (decide ((j2:Int)<0))) (.bool false) (congrArg Value.bool hd34)] ?_
 refine aa (wcf rfl (wp_exit (al (al (bh (aa (wq (sqr (sqp [.m 89 3,.k 90 (po aA 7)] ?_)))))))))
 refine au 0 dR ?_
 refine sqk (.string (aX note)) dR (fun cx=>⟨_,kC note _ (by omega),(aw (cx.ou 91))⟩) fun Fs iw=>?_
 refine sqp [sS 93 (sj++(aj 0 1)) (aX note) (by simp only[ByteArray.size_append,pV,oq,htz];omega),.m 2 93] ?_
 refine aa (wp_ret ?_)
 refine bpr (.string ((sj++(aj 0 1))++(aX note))) (ag Tryz.results73 rpt) ?_
 exact Ret.of (congrArg Value.string (by rw[ax,if_pos hrr,<-hsj];exact(NI _ _ _))) iw.ext
 refine wp_cond_true (show Act.eval _ _= .bool true from(congrArg Value.bool (by rw[dB];rfl))) (wq (sqr (sqp [.k 2 (.string ⟨#[]⟩)] ?_)))
 refine aa (wp_ret (ai ?_))
 refine bpr (.string ⟨#[]⟩) (ag Tryz.results73 rpt) ?_
 exact Ret.of (by rw[ax,dB];rfl) bb.ext
theorem jH(k x t:Int)(A:Option Addr)(c:Nat)(l:List EdT)(note:ByteArray)(w:World)(hA:At w A (l.flatMap edC))(hl:l.length<=1000000)(hz:∀e∈l,e.2.2.size<=9223372036854775807)(hns:note.size<=9223372036854775807):
  Calls Tryz.prog 29 #[.agg #[.int .i64 k,.int .i64 x,.int .i64 t,sn,sn,.slice A l.length c,sn,.string note]] w (Ret (.string (aC ⟨k,x,t,l,note⟩)) w):=by
 go_enter Tryz.func29,Tryz.ntmps29
 have ak:=St.start w
 refine wq (sqr ?_)
 refine b9 #[vi k,vi x,vi t,sn,sn,.slice A l.length c,sn,.string note] ak fun aA W1 aB=>?_
 refine sqp [.k 2 (.string ⟨#[]⟩)] ?_
 refine aa (wq (wq (sqr ?_)))
 refine bJ 0 8 aB ?_
 refine sqk (.bool (bz ⟨k,x,t,l,note⟩)) aB (fun cx=>⟨_,mD k x t _ _ l note _ (hA.ext cx.upd.to_ext) hl hz hns,(aw (cx.ou 4))⟩) fun W4 bb=>?_
 refine sqp [.k 6 (.bool (!(bz ⟨k,x,t,l,note⟩)))] ?_
 refine aa ?_
 rcases Bool.eq_false_or_eq_true (bz ⟨k,x,t,l,note⟩) with dB|dB
 refine wp_cond_false (show Act.eval _ _= .bool false from(congrArg Value.bool (by rw[dB];rfl))) (wp_skip (aa (wq (sqr ?_))))
 refine bJ 0 8 bb ?_
 refine sqk (.string (ax ⟨k,x,t,l,note⟩)) bb (fun cx=>⟨_,xG k x t _ _ l note _ (hA.ext cx.upd.to_ext) hl hz hns,(aw (cx.ou 7))⟩) fun W8 dM=>?_
 refine sqp [.m 3 8] ?_
 refine aa (wq ?_)
 have hbz:=jg ⟨k,x,t,l,note⟩
 have hsl:=kt (ax ⟨k,x,t,l,note⟩)
 have zj:∀z:Int,(aj z 4).size=4:=fun z=>aF z 4 (by omega)
 refine sqr (sqp [.m 9 3,.k 10 (vi (((ax ⟨k,x,t,l,note⟩).size:Int)))] ?_)
 refine sqk (.string (aj ((ax ⟨k,x,t,l,note⟩).size:Int) 4)) dM (fun cx=>⟨_,e6 ((ax ⟨k,x,t,l,note⟩).size:Int) 4 _ (by omega),(aT (cx.ou 10) (cx.co _))⟩) fun zv cT=>?_
 refine sqp [.m 12 3] ?_
 refine sqk (.int .u32 ((bj (ax ⟨k,x,t,l,note⟩):Int))) cT (fun cx=>⟨_,yP (ax ⟨k,x,t,l,note⟩) _ (by omega),(aw (cx.ou 12))⟩) fun zp cF=>?_
 refine sqp [sW 14 .i64 (bj (ax ⟨k,x,t,l,note⟩):Int) (bj (ax ⟨k,x,t,l,note⟩):Int) (IntWalk.i64_in _ (by omega))] ?_
 refine sqk (.string (aj (bj (ax ⟨k,x,t,l,note⟩):Int) 4)) cF (fun cx=>⟨_,e6 (bj (ax ⟨k,x,t,l,note⟩):Int) 4 _ (by omega),(aT (cx.ou 14) (cx.co _))⟩) fun qQ dx=>?_
 refine sqp [sS 16 (aj ((ax ⟨k,x,t,l,note⟩).size:Int) 4) (aj (bj (ax ⟨k,x,t,l,note⟩):Int) 4) (by simp only[ByteArray.size_append,zj];omega),.m 17 3,sS 18 ((aj ((ax ⟨k,x,t,l,note⟩).size:Int) 4)++(aj (bj (ax ⟨k,x,t,l,note⟩):Int) 4)) (ax ⟨k,x,t,l,note⟩) (by simp only[ByteArray.size_append,zj];omega),.m 2 18] ?_
 refine aa (wp_ret ?_)
 refine bpr (.string (((aj ((ax ⟨k,x,t,l,note⟩).size:Int) 4)++(aj (bj (ax ⟨k,x,t,l,note⟩):Int) 4))++(ax ⟨k,x,t,l,note⟩))) (ag Tryz.results29 rpt) ?_
 exact Ret.of (congrArg Value.string (by rw[aC,if_pos dB];exact LG _ _ _)) dx.ext
 refine wp_cond_true (show Act.eval _ _= .bool true from(congrArg Value.bool (by rw[dB];rfl))) (wq (sqr (sqp [.k 2 (.string ⟨#[]⟩)] ?_)))
 refine aa (wp_ret (ai ?_))
 refine bpr (.string ⟨#[]⟩) (ag Tryz.results29 rpt) ?_
 exact Ret.of (by rw[aC,dB];rfl) bb.ext
end
section
open Go.RowKit
theorem wu{L:List RecM}{n:Nat}(h:L.length=n+1):(cy L L.length)[n]? =some (szF L:Int):=by
 rw[cy,List.getElem?_map,List.getElem?_range (by omega)]
 rw[Option.map_some,<-h,List.take_length]
theorem yS{S S2:StM}{lsn er:Int}{r:RecM}(h:RdR S lsn r S2 er)(h0:er=0):RdR S lsn r S2 0:=h0 ▸ h
theorem DT(db:Nat)(D:DkM)(bufs:Int)(L:List RecM)(tl:ByteArray)(c:Nat)(fp:List Nat)(w:World)(hB:(eDk db D fp).holds w)(hlt:∀k∈fp,k<w.heap.size)(hlog:D.log=da L++tl)(hL:∀r∈L,bz r=true)(hta:ua D.log (szF L))(hz6:D.log.size<=1048576)(hfz:D.fl<=D.log.size)(hpg:D.pgs.length<=400)(hws:∀x∈D.pgs,x.ws.length<=c)(hc:c+200*L.length<=900000)(h8:∀r∈L,r.kind=8->r.note.size=512):
  Calls Tryz.prog 18 #[po db 0,.int .i64 bufs] w (fF db D bufs L fp w):=by
 have st1:St w fp [eDk db D fp] w:=St.lend hB (dS _ _ _) hlt
 go_enter Tryz.func18,Tryz.ntmps18
 have ak:=st1
 refine wq (sqr (sqp [.k 4 (.pointer none),.k 5 (vi 0)] ?_))
 refine aa (wq (wq (sqr (sqp [.m 13 1,.k 14 (.bool (decide (bufs<1))),.m 15 14] ?_))))
 refine sqw 15 [16,17] rfl (fun _=>sqp [.m 16 1,.k 17 (.bool (decide (64<bufs)))] sqe) ?_
 refine sqp [sPo 18 (decide (bufs<1)) (decide (64<bufs))] ?_
 refine aa (wbs (fun pW=>?_) fun pW=>?_)
 have qW:=pW
 simp only[zB] at qW
 refine wq (sqr (sqp [.k 4 (.pointer none),.k 5 (vi 30)] ?_))
 refine aa (wp_ret (ai ?_))
 refine bpr (.tuple #[.pointer none,vi 30]) (aN Tryz.results18 rpt rpt) ?_
 exact fF.dk (.bufs (by have h_:=pW;simp at h_;omega)) (ak.pick [0] (by decide) rfl)
 have qW:=pW
 simp only[zB] at qW
 obtain⟨RN,RO⟩:=qW
 refine wp_skip (aa (wq (wq ?_)))
 obtain⟨onv,hon⟩:∃z,(!D.off)=z:=⟨_,rfl⟩
 have hbb:1<=bufs/\bufs<=64:=by have h_:=pW;simp at h_;omega
 refine sqr (sqp [.m 19 0] ?_)
 refine sqk (.bool onv) ak (fun cx=>⟨_,rB hon (l9 db D _ (fe (CtxV.holdF cx (cx.init 0 _ rfl) rfl))),(aw (cx.ou 19))⟩) fun IU i7=>?_
 refine sqp [.k 21 (.bool (!(onv)))] ?_
 refine aa ?_
 rcases Bool.eq_false_or_eq_true (onv) with dJ|dJ
 refine wp_cond_false (show Act.eval _ _= .bool false from(congrArg Value.bool (by rw[dJ];rfl))) (wp_skip (aa (wq (sqr (sqp [.m 22 0,.m 23 1] ?_)))))
 refine d3 (fun x_=>pbx x_) (fun iM=> .map (some iM)) (fun iM=>eMx kcI ptX Tryz.prog 3 iM 0 (fun _=>none)) i7 (by
   refine svA fun g b W X cx=>?_
   exact kR rfl rfl rfl rfl (fun _ _ _ _ _=> .intro)) fun iM Mh np=>?_
 refine d3 (fun x_=>pbx x_) (fun iN=> .map (some iN)) (fun iN=>eMx kcI ecB Tryz.prog 3 iN 0 (fun _=>none)) np (by
   refine svA fun g b W X cx=>?_
   exact kR rfl rfl rfl rfl (fun _ _ _ _ _=> .intro)) fun iN si dl=>?_
 refine d3 (fun x_=>pbx x_) (fun iP=> .map (some iP)) (fun iP=>eMx kcI ecB Tryz.prog 3 iP 0 (fun _=>none)) dl (by
   refine svA fun g b W X cx=>?_
   exact kR rfl rfl rfl rfl (fun _ _ _ _ _=> .intro)) fun iP Ml ke=>?_
 refine sqp [.k 27 (.agg #[vp db,vi bufs,.map (some iM),vi 0,sn,sn,.map (some iN),.map (some iP),vi 0])] ?_
 refine b9 #[vp db,vi bufs,.map (some iM),vi 0,sn,sn,.map (some iN),.map (some iP),vi 0] ke fun bx w8 dH=>?_
 refine sqp [.m 6 28] ?_
 refine aa (wq (aE [0,0,0,4,12,28,60,60,125,381,893,2047,4095,8191] [[],[],[],[0],[],[],[],[],[],[],[4],[],[],[6]] [[],[],[],[],[5],[],[],[],[],[],[6],[],[],[7]] [[],[],[],[],[],[],[],[],[],[],[4],[],[],[6]] [.k 30 (vp bx),.k 31 (vp bx),.k 32 (vp db),.c 33 (.string D.log),.a 34,.a 29,.a 35,.a 36,.k 37 (vp bx),.k 38 (po bx 4),.n,.k 39 (vp bx),.k 40 (po bx 5),.n] (fun ix d b X=>match ix with|0|1|2|3=>True|4=>d 34= .tuple #[.slice (sA (tg (b 34) 0)) L.length (sC (tg (b 34) 0)),.slice (sA (tg (b 34) 1)) L.length (sC (tg (b 34) 1))]/\X 5=eSc L (sA (tg (b 34) 0)) (sC (tg (b 34) 0)) (sA (tg (b 34) 1)) (sC (tg (b 34) 1)) ((X 5).fp)|5=>d 29= .tuple #[.slice (sA (tg (b 34) 0)) L.length (sC (tg (b 34) 0)),.slice (sA (tg (b 34) 1)) L.length (sC (tg (b 34) 1))]|6=>d 35= .slice (sA (tg (b 34) 0)) L.length (sC (tg (b 34) 0))|7=>d 36= .slice (sA (tg (b 34) 1)) L.length (sC (tg (b 34) 1))|8|9=>True|10=>X 6=eB bx 109 #[vp db,vi bufs,.map (some iM),vi 0,.slice (sA (tg (b 34) 0)) L.length (sC (tg (b 34) 0)),sn,.map (some iN),.map (some iP),vi 0]|11|12=>True|13=>X 7=eB bx 109 #[vp db,vi bufs,.map (some iM),vi 0,.slice (sA (tg (b 34) 0)) L.length (sC (tg (b 34) 0)),.slice (sA (tg (b 34) 1)) L.length (sC (tg (b 34) 1)),.map (some iN),.map (some iP),vi 0]|_=>True) [0,1,2,3,5,7] [3,4,5,6,7,10,13] [(29,5,1,30),(0,0,5,5),(0,6,7,6)] dH ?_ ?_ ?_))
 exact fun ix _ _ _ _ _ _ hs hb hx h=>match ix,h with
 |4,h=>by dsimp only;rw[<-hs 34 rfl,<-hb 34 rfl,<-hx 5 rfl];exact h
 |5,h=>by dsimp only;rw[<-hs 29 rfl,<-hb 34 rfl];exact h
 |6,h=>by dsimp only;rw[<-hs 35 rfl,<-hb 34 rfl];exact h
 |7,h=>by dsimp only;rw[<-hs 36 rfl,<-hb 34 rfl];exact h
 |10,h=>by dsimp only;rw[<-hb 34 rfl,<-hx 6 rfl];exact h
 |13,h=>by dsimp only;rw[<-hb 34 rfl,<-hx 7 rfl];exact h
 |0,_|1,_|2,_|3,_|8,_|9,_|11,_|12,_|_+14,_=>trivial
 refine⟨?_,?_,?_,?_,?_,?_,?_,trivial⟩
 exact xsc rfl id rfl rfl fun cx=>⟨_,jz db D _ (fe (CtxV.holdF cx (cx.init 0 _ rfl) rfl)),(aw (cx.an 2))⟩
 refine svA fun g b W X cx=>?_
 refine am.call (aq (args:=#[.string D.log]) rfl cx.sees rfl (by kernel_rfl) (aw (cx.an 3))) ?_
 refine(yi (wZ D.log tl L _ hlog hL hta (by omega))).mono ?_
 rintro e W1 ⟨LA4,lc4,EA4,ec4,fp4,rfl,aQ⟩
 refine⟨_,rfl,rE [eSc L LA4 lc4 EA4 ec4 fp4] rfl rfl aQ (fun d i X' hs hb hv hN=>?_)⟩
 have aJ:=(hv 34 rfl).1;have aR:=(hv 34 rfl).2
 exact⟨aJ.trans (by rw[aR];rfl),(by rw[aR];exact y0 ((List.cons.inj hN).1))⟩
 exact sv rfl rfl rfl rfl rfl _ (fun _ _ _ h=>h) (fun b i h=>by rw[h 34 (by decide)]) fun g b W X cx=>cD rfl (dTn (cx.an 4)).1
 exact sv rfl rfl rfl rfl rfl _ (fun _ _ _ h=>h) (fun b i h=>by rw[h 34 (by decide)]) fun g b W X cx=>bC rfl (dTn (cx.an 5)) rfl
 exact sv rfl rfl rfl rfl rfl _ (fun _ _ _ h=>h) (fun b i h=>by rw[h 34 (by decide)]) fun g b W X cx=>bC rfl (dTn (cx.an 5)) rfl
 refine svA fun g b W X cx=>?_
 exact bv (n:=1) rfl (cx.an 9) (dTn (cx.an 6)) (by kernel_rfl) (by kernel_rfl) (by kernel_rfl) cx (cx.init 4 _ rfl) rfl (nle rfl) (by kernel_rfl) rfl rfl rfl (fun d i X' hs hb hx=>by rw[hb 34];exact hx)
 refine svA fun g b W X cx=>?_
 exact bv (n:=1) rfl (cx.an 12) (dTn (cx.an 7)) (by kernel_rfl) (by kernel_rfl) (by kernel_rfl) cx (dTn (cx.an 10)) rfl (nle rfl) (by kernel_rfl) rfl rfl rfl (fun d i X' hs hb hx=>by rw[hb 34];exact hx)
 intro d b X zm hD fb fr aD
 obtain⟨LA34_24,pE⟩:∃z,sA (tg (b 34) 0)=z:=⟨_,rfl⟩
 obtain⟨lc34_24,pF⟩:∃z,sC (tg (b 34) 0)=z:=⟨_,rfl⟩
 obtain⟨EA34_24,pG⟩:∃z,sA (tg (b 34) 1)=z:=⟨_,rfl⟩
 obtain⟨ec34_24,pH⟩:∃z,sC (tg (b 34) 1)=z:=⟨_,rfl⟩
 have zI:X 5= _:=(dTn (hD 4 lq)).2
 obtain⟨RP,zJ⟩:∃z,(X 5).fp=z:=⟨_,rfl⟩
 rw[zJ] at zI
 clear zJ
 simp only[zI,exq 7 ((dTn (hD 13 lq))),pE,pF,pG,pH] at fb
 simp only[ed 34 ((dTn (hD 4 lq)).1),ed 29 ((dTn (hD 5 lq))),ed 35 ((dTn (hD 6 lq))),ed 36 ((dTn (hD 7 lq))),pE,pF,pG,pH] at aD
 clear hD zI pE pF pG pH;subst aD;clear d b X
 refine aa (wq (wq ?_))
 obtain⟨rs,hrs,ht25_⟩:=fb.u4.unscf
 have hrl:rs.length=L.length:=by rw[<-hrs,List.length_map]
 refine sqr (sqp [.m 41 6,.k 42 (vp bx),.k 43 (po bx 4)] ?_)
 refine au 7 ht25_ ?_
 refine sqp [.k 45 (vi ((L.length:Int))),.k 46 (vi 0)] ?_
 refine aa (wp_block ?_)
 refine aM (fun t_ mz az W=>∃j:Nat,j<=L.length/\mz=L.length-j/\az=⟨(ovr (jv az) [(7,7,2,[]),(37,46,0,[vi ((j:Int))]),(0,47,13,[])] t_).toArray,[]⟩/\St w fp [eO 27 8 (.slice LA34_24 L.length lc34_24) L.length (rs.flatMap rcC),eO 3 1 (.slice EA34_24 L.length ec34_24) L.length ((cy L L.length).map (Value.int .i64)),eRc rs,eDk db D fp,eMx kcI ptX Tryz.prog 3 iM 0 (fun _=>none),eMx kcI ecB Tryz.prog 3 iN 0 (fun _=>none),eMx kcI ecB Tryz.prog 3 iP 0 (fun _=>none),eB bx 109 #[vp db,vi bufs,.map (some iM),vi 0,.slice LA34_24 L.length lc34_24,.slice EA34_24 L.length ec34_24,.map (some iN),.map (some iP),vi ((bc (L.take j):Int))]] W) (L.length-0) ?_ ?_
 exact⟨0,Nat.zero_le _,rfl,(by kernel_rfl),ht25_.pk [0,1,2,3,4,5,6,7]⟩
 rintro ON a32 zn ⟨j,hj,rfl,hj_,dc⟩
 refine ovz hj_ fun H4=>?_
 refine wq (sqr (sqp [.k 47 (.bool (decide ((j:Int)<(L.length:Int))))] ?_))
 refine aa (wq (wds (fun jA lX=>?_) fun jA lX=>?_))
 refine wp_skip (aa (wq (wp_block (wq ?_))))
 obtain⟨rt,hrt⟩:∃rt,rs[j]? =some rt:=⟨_,List.getElem?_eq_getElem (by omega)⟩
 have hlj:L[j]? =some rt.r:=by rw[<-hrs,List.getElem?_map,hrt];rfl
 refine sqr (sqp [.m 48 46] ?_)
 refine sql (.pointer (some ((ad LA34_24).add (j*8)))) dc (fun cx=>ay (e:=27) (m:=j) (sz:=8) rfl (by kernel_rfl) (by kernel_rfl) (cx.ou 44) (cx.ou 46) (by omega) (by omega) (At.of_ownN (cx.ri 0 rfl)) (be (sz:=8) bY (by decide) (by omega))) ?_
 refine sql (.agg #[vi rt.r.kind,vi rt.r.xid,vi rt.r.tbl,sn,sn,.slice rt.A rt.r.eds.length rt.c,sn,.string rt.r.note]) dc (fun cx=>bH (f:=rcC) (m:=j) (sz:=8) (off:=0) (n:=8) rfl (by kernel_rfl) (by kernel_rfl) (cx.ou 49) rfl bY (At.of_ownN (cx.ri 0 rfl)) hrt (fun k hk=>match k,hk with|0,_=>rfl|1,_=>rfl|2,_=>rfl|3,_=>rfl|4,_=>rfl|5,_=>rfl|6,_=>rfl|7,_=>rfl|k+8,hk=>absurd hk (by omega))) ?_
 refine cf #[vi 0,vi 0,vi 0,sn,sn,sn,sn,.string ByteArray.empty] dc fun N4 Fs iw=>?_
 refine sqp [.m 7 48] ?_
 refine aY (n:=8) 8 #[vi rt.r.kind,vi rt.r.xid,vi rt.r.tbl,sn,sn,.slice rt.A rt.r.eds.length rt.c,sn,.string rt.r.note] iw fun w7 ee=>?_
 refine aa (wq (sqr (sqp [.k 51 (vp N4)] ?_)))
 refine au 8 ee ?_
 refine sqp [.k 53 (.bool (rt.r.kind==9))] ?_
 refine aa (wbs (fun zK=>?_) fun zK=>?_)
 have N5:=beq_iff_eq.1 zK
 refine sqr (sqp [.m 54 6,.m 55 7,sI 56 ((j:Int)+1) (by omega),.k 57 (vp bx),.k 58 (po bx 8)] ?_)
 refine aY (n:=1) 7 #[vp db,vi bufs,.map (some iM),vi 0,.slice LA34_24 L.length lc34_24,.slice EA34_24 L.length ec34_24,.map (some iN),.map (some iP),vi ((j:Int)+1)] ee fun Mf lY=>?_
 refine av (aa (sqr (sqp [sI 59 ((j:Int)+1) (by omega),.m 46 59] ?_)))
 refine aa ?_
 have hft:bc (L.take (j+1))=j+1:=by rw[uq hlj,if_pos (by simpa using zK)]
 rw[show ((j:Int)+1)=((bc (L.take (j+1)):Nat):Int) by rw[hft];omega] at lY
 refine⟨L.length-((j+1)),by omega,?_⟩
 exact⟨(j+1),by omega,rfl,(by kernel_rfl),lY.pk [0,1,2,3,4,5,6,7]⟩
 have N5:=beq_eq_false_iff_ne.1 zK
 refine wp_skip (av (aa (sqr (sqp [sI 59 ((j:Int)+1) (by omega),.m 46 59] ?_))))
 refine aa ?_
 have hft:bc (L.take (j+1))=bc (L.take j):=by rw[uq hlj,if_neg (by simpa using zK)]
 rw[<-hft] at ee
 refine⟨L.length-((j+1)),by omega,?_⟩
 exact⟨(j+1),by omega,rfl,(by kernel_rfl),ee.pk [0,1,2,3,4,5,6,7]⟩
 refine wp_exit (al (al (bh (aa (wq (wq ?_))))))
 obtain rfl:j=L.length:=by omega
 rw[List.take_length] at dc
 refine sqr (sqp [.m 60 6,.k 61 (vp bx),.k 62 (po bx 8)] ?_)
 refine au 7 dc ?_
 refine sqp [.k 64 (.bool ((bc L:Int)==0))] ?_
 refine aa (wbs (fun mR=>?_) fun mR=>?_)
 have C1:=beq_iff_eq.1 mR
 refine wq (sqr (sqp [.k 4 (.pointer none),.k 5 (vi 11)] ?_))
 refine aa (wp_ret (ai ?_))
 refine bpr (.tuple #[.pointer none,vi 11]) (aN Tryz.results18 rpt rpt) ?_
 exact fF.dk (.form hbb (by have h_:=hon.trans dJ;simpa using h_) (by have h_:=mR;simp at h_;omega)) (dc.pick [3] (by decide) rfl)
 have C1:=beq_eq_false_iff_ne.1 mR
 refine wp_skip (aa (wq (wq ?_)))
 have hf0:bc L≠0:=by have h_:=mR;simp at h_;omega
 have hfl:=my L
 obtain⟨nl,hnl⟩:∃n,L.length=n+1:=⟨L.length-1,by omega⟩
 refine bL [0,1,3,7,0,16,48,112,240,496,1023,2047,4095] [[],[],[],[7],[],[],[],[7],[],[],[1],[1]] [.k 65 (vp bx),.k 66 (vp bx),.k 67 (po bx 5),.c 68 (.slice EA34_24 L.length ec34_24),.k 69 (vp bx),.k 70 (vp bx),.k 71 (po bx 5),.c 72 (.slice EA34_24 L.length ec34_24),.k 73 (vi ((L.length:Int))),tJ 74 ((L.length:Int)-1) (nl:Int) (by omega) (by omega),.c 75 (.pointer (some ((ad EA34_24).add nl))),.c 76 (vi ((szF L:Int))),.k 9 (vi ((szF L:Int)))] [0,1,2,3,4,5,6,7] [3,7,10,11] [(9,12,1,10),(55,0,12,67)] dc ?_ fun OP rL=>?_
 refine⟨?_,?_,?_,?_,trivial⟩
 exact xs4 rfl id fun cx=>ae rfl (by kernel_rfl) (cx.an 2) ((cx.bi 7 rfl).cell 5)
 exact xs4 rfl id fun cx=>ae rfl (by kernel_rfl) (cx.an 6) ((cx.bi 7 rfl).cell 5)
 exact xs4 rfl id fun cx=>bG (e:=3) (m:=nl) rfl (by kernel_rfl) (by kernel_rfl) (cx.an 3) (cx.an 9) (by omega) (by omega) (At.of_own (cx.ri 1 rfl)) (by rw[List.length_map,kk]<;>omega)
 exact xs4 rfl id fun cx=>ae rfl (by kernel_rfl) (cx.an 10) (At.cellAd (At.of_own (cx.ri 1 rfl)) ((List.getElem?_map ..).trans (by rw[wu hnl];rfl)))
 refine aa (wq (sqr (sqp [.m 77 9,.m 78 0] ?_)))
 refine sqk (.string D.log) rL (fun cx=>⟨_,jz db D _ (fe (CtxV.holdF cx (cx.init 3 _ rfl) rfl)),(aw (cx.ou 78))⟩) fun Fq gy=>?_
 refine sqp [.k 80 (vi ((D.log.size:Int))),.k 81 (.bool (decide ((szF L:Int)<(D.log.size:Int))))] ?_
 refine aa (wds (fun nT N6=>?_) fun nT N6=>?_)
 refine wq (sqr (sqp [.m 82 0,.m 83 9] ?_))
 refine bN (fun X_=>X_.fp) (vi ((opD D (ctE D (szF L)) (ctD (szF L))).2)) (fun I9=>eDk db ((opD D (ctE D (szF L)) (ctD (szF L))).1) I9) 3 gy (by
   refine svA fun g b W X cx=>?_
   refine am.call (aq (args:=#[vp db,vi ((szF L:Int))]) rfl cx.sees rfl (by kernel_rfl) (aT (cx.ou 82) (cx.ou 83))) ?_
   refine(G4 db D (szF L:Int) _ _ (CtxV.holdF cx (cx.init 3 _ rfl) rfl) (CtxV.ltF cx (cx.init 3 _ rfl) rfl) (by omega)).mono ?_
   rintro e W1 ⟨rfl,fp4,aQ⟩
   refine⟨_,rfl,aK (E:=eDk db D fp) [eDk db (opD D (ctE D (szF L)) (ctD (szF L))).1 fp4] (cx.init 3 _ rfl) rfl rfl aQ (fun d i X' hs hb hv hN=>?_)⟩
   have aJ:=(hv 84 rfl).1;have aR:=(hv 84 rfl).2
   exact⟨aJ.trans rfl,cK ((List.cons.inj hN).1)⟩) fun I9 IY gX=>?_
 refine sqp [.m 10 84] ?_
 refine aa (wq (sqr (sqp [.m 85 10,.k 86 (.bool (((opD D (ctE D (szF L)) (ctD (szF L))).2) != 0))] ?_)))
 refine aa (wbs (fun zL=>?_) fun zL=>?_)
 have N7:=bne_iff_ne.1 zL
 refine wq (sqr (sqp [.m 87 10,.k 4 (.pointer none),.m 5 87] ?_))
 refine aa (wp_ret (ai ?_))
 refine bpr (.tuple #[.pointer none,vi ((opD D (ctE D (szF L)) (ctD (szF L))).2)]) (aN Tryz.results18 rpt rpt) ?_
 have hop:fZ D L=opD D (ctE D (szF L)) (ctD (szF L)):=if_pos (by have h_:=of_decide_eq_true nT;omega)
 exact fF.dk (by have h_:=OpnR.cut (L:=L) hbb (by have h_:=hon.trans dJ;simpa using h_) hf0 (by rw[hop];simpa using zL);rw[hop] at h_;exact h_) (gX.pick [3] (by decide) rfl)
 have N7:=bne_eq_false_iff_eq.1 zL
 refine wp_skip (aa (wq (wq ?_)))
 have hop:fZ D L=opD D (ctE D (szF L)) (ctD (szF L)):=if_pos (by have h_:=of_decide_eq_true nT;omega)
 have hc0:(fZ D L).2=0:=by rw[hop];simpa using zL
 obtain⟨D1,hD1⟩:∃z,(fZ D L).1=z:=⟨_,rfl⟩
 rw[<-hop,hD1] at gX
 have hdk:=A6 hlog hfz hc0
 rw[hD1] at hdk
 have hok0:SOk (iG D1 bufs rs (bc L)) c:=SOk.opn hbb (by rw[hdk.2.1];exact hpg) (by rw[hdk.2.1];exact hws) (by rw[hrs];exact hL) (by rw[hrs];exact hdk.1) (by rw[hdk.1,ck];have h_:=congrArg ByteArray.size hlog;rw[ByteArray.size_append,ck] at h_;omega) (by rw[hdk.2.2.1,hdk.1,ck];omega)
 have hn82_:=(gX.nM dm).nA ft
 refine sqr (sqp [.m 88 6,.k 89 (vp bx),.k 90 (po bx 8)] ?_)
 refine au 9 hn82_ ?_
 refine sqp [.m 11 91] ?_
 refine aa (wp_block ?_)
 obtain⟨fp88_,hk88_⟩:=St.stf (S:=iG D1 bufs rs (bc L)) (by have h_:=hn82_.u8.u8.u6.u6.u6.u6.u6.u8.u9;rw[stL,stC,StM.L,show (iG D1 bufs rs (bc L)).recs.map RcT.r=L from hrs,show (iG D1 bufs rs (bc L)).recs.length=L.length from hrl];exact h_) (fun t ht=>by cases ht) (fun t ht=>ht)
 refine aM (fun t_ mz az W=>∃j:Nat,∃Sj:StM,∃fpj:List Nat,j<=L.length/\(∀S2 er,RdL j Sj (L.drop j) S2 er->RdL (bc L) (iG D1 bufs rs (bc L)) (L.drop (bc L)) S2 er)/\SOk Sj (c+200*j)/\Sj.recs=rs/\Sj.rr=rs/\mz=L.length-j/\az=⟨(ovr (jv az) [(4,4,2,[]),(5,11,0,[vi ((j:Int))]),(0,12,1,[]),(79,92,23,[])] t_).toArray,[]⟩/\St w fp [eSt bx db Sj fpj] W) (L.length-((bc L))) ?_ ?_
 exact⟨(bc L),(iG D1 bufs rs (bc L)),fp88_,hfl,fun S2 er h=>h,hok0.mono (by omega),rfl,rfl,rfl,(by kernel_rfl),hk88_.pk [0]⟩
 rintro T4 a89 Mm ⟨j,Sj,fpj,hj,hcont,hokj,hrj,hrrj,rfl,hj_,lZ⟩
 refine ovz hj_ fun So=>?_
 refine wq (wq ?_)
 obtain⟨mb90_,RA90_,rc90_,EA90_,ec90_,ib90_,tb90_,fpd90_,ha90_⟩:=St.toA (L:=[]) (lZ.pick [0] (by decide) rfl)
 have hb90_:St w fp [nJ bx db Sj mb90_ RA90_ rc90_ EA90_ ec90_ ib90_ tb90_ fpd90_ fpj] Mm:=ha90_
 have hrjl:Sj.recs.length=L.length:=by rw[hrj,hrl]
 have hcj:200*j<=200*L.length:=by omega
 refine sqr (sqp [.m 92 11,.m 93 6,.k 94 (vp bx),.k 95 (po bx 4)] ?_)
 refine sql (.slice RA90_ Sj.recs.length rc90_) hb90_ (fun cx=>ae rfl (by kernel_rfl) (cx.ou 95) ((k8 (CtxV.holdF cx (cx.init 0 _ rfl) rfl)).blkL.cell 4)) ?_
 refine sqp [.k 97 (vi ((Sj.recs.length:Int))),.k 98 (.bool (decide ((j:Int)<(Sj.recs.length:Int))))] ?_
 refine aa (wds (fun PF N8=>?_) fun PF N8=>?_)
 refine wp_skip (aa (wq (wp_block (wq ?_))))
 have hjl:j<L.length:=by omega
 obtain⟨rt,hrt⟩:∃rt,rs[j]? =some rt:=⟨_,List.getElem?_eq_getElem (by omega)⟩
 have hrt2:Sj.recs[j]? =some rt:=by rw[hrj];exact hrt
 have hlj:L[j]? =some rt.r:=by rw[<-hrs,List.getElem?_map,hrt];rfl
 have hrm:rt∈Sj.rr:=by rw[hrrj];exact List.mem_of_getElem? hrt
 have hlm:=List.mem_of_getElem? hlj
 refine sqr (sqp [.m 101 6,.m 102 11,sI 103 ((j:Int)+1) (by omega),.m 104 6,.k 105 (vp bx),.k 106 (po bx 4)] ?_)
 refine sql (.slice RA90_ Sj.recs.length rc90_) hb90_ (fun cx=>ae rfl (by kernel_rfl) (cx.ou 106) ((k8 (CtxV.holdF cx (cx.init 0 _ rfl) rfl)).blkL.cell 4)) ?_
 refine sqp [.m 108 11] ?_
 refine sql (.pointer (some ((ad RA90_).add (j*8)))) hb90_ (fun cx=>ay (e:=27) (m:=j) (sz:=8) rfl (by kernel_rfl) (by kernel_rfl) (cx.ou 107) (cx.ou 108) (by omega) (by omega) (k8 (CtxV.holdF cx (cx.init 0 _ rfl) rfl)).recs (be (sz:=8) bY (by decide) (by omega))) ?_
 refine sql (.agg #[vi rt.r.kind,vi rt.r.xid,vi rt.r.tbl,sn,sn,.slice rt.A rt.r.eds.length rt.c,sn,.string rt.r.note]) hb90_ (fun cx=>bH (f:=rcC) (m:=j) (sz:=8) (off:=0) (n:=8) rfl (by kernel_rfl) (by kernel_rfl) (cx.ou 109) rfl bY (k8 (CtxV.holdF cx (cx.init 0 _ rfl) rfl)).recs hrt2 (fun k hk=>match k,hk with|0,_=>rfl|1,_=>rfl|2,_=>rfl|3,_=>rfl|4,_=>rfl|5,_=>rfl|6,_=>rfl|7,_=>rfl|k+8,hk=>absurd hk (by omega))) ?_
 refine ph (fun x_=>tZ x_) (fun X_=>X_.fp) (fun er111_109=>vi er111_109) (fun er111_109 zM=>eSx bx db (fun S2=>RdR Sj ((j:Int)+1) rt.r S2 er111_109) zM) 0 hb90_ (by
   refine svA fun g b W X cx=>?_
   refine am.call (aq (args:=#[vp bx,vi ((j:Int)+1),.agg #[vi rt.r.kind,vi rt.r.xid,vi rt.r.tbl,sn,sn,.slice rt.A rt.r.eds.length rt.c,sn,.string rt.r.note]]) rfl cx.sees rfl (by kernel_rfl) (dG (cx.ou 101) (cx.ou 103) (cx.ou 110))) ?_
   refine(wL bx db Sj ((j:Int)+1) rt (c+200*j) _ _ (vF (CtxV.holdF cx (cx.init 0 _ rfl) rfl)) (CtxV.ltF cx (cx.init 0 _ rfl) rfl) hokj (by omega) (hL _ hlm) hrm (h8 _ hlm)).mono ?_
   rintro e W1 ⟨er4,rfl,fp4,aQ⟩
   refine⟨_,rfl,aK (E:=nJ bx db Sj mb90_ RA90_ rc90_ EA90_ ec90_ ib90_ tb90_ fpd90_ fpj) [eSx bx db (fun S2=>RdR Sj ((j:Int)+1) rt.r S2 er4) fp4] (cx.init 0 _ rfl) rfl rfl aQ (fun d i X' hs hb hv hN=>?_)⟩
   have aJ:=(hv 111 rfl).1;have aR:=(hv 111 rfl).2
   exact⟨aJ.trans (by rw[aR];exact rfl),(by rw[aR];exact fK ((List.cons.inj hN).1))⟩) fun er111_109 zM PG zN=>?_
 refine sqp [.m 12 111] ?_
 refine aa (wq ?_)
 obtain⟨S1,hR,hy111_⟩:=zN.unx
 have hrd_:=hR.ok hokj (hL _ hlm)
 refine sqr (sqp [.m 112 12,.k 113 (.bool (er111_109 != 0))] ?_)
 refine aa (wbs (fun rP=>?_) fun rP=>?_)
 have Mx:=bne_iff_ne.1 rP
 refine wq (sqr (sqp [.m 114 12,.k 4 (.pointer none),.m 5 114] ?_))
 refine aa (wp_ret (aV (ai (ai (aV (ai ?_))))))
 refine bpr (.tuple #[.pointer none,vi er111_109]) (aN Tryz.results18 rpt rpt) ?_
 obtain⟨fpz,hz118_⟩:=St.dkOf (L:=[]) (hy111_.pick [0] (by decide) rfl)
 exact fF.dk (.bad hbb (by have h_:=hon.trans dJ;simpa using h_) hf0 hc0 rs hrs (by rw[hD1];exact hcont _ _ (by rw[List.drop_eq_getElem_cons hjl,show L[j]'hjl=rt.r from(List.getElem?_eq_some_iff.1 hlj).2];exact RdL.bad hR (by simpa using rP))) (by simpa using rP)) hz118_
 have Mx:=bne_eq_false_iff_eq.1 rP
 refine wp_skip (av (aa (sqr (sqp [.m 99 11,sI 100 ((j:Int)+1) (by omega),.m 11 100] ?_))))
 refine aa ?_
 refine⟨L.length-((j+1)),by omega,?_⟩
 exact⟨(j+1),S1,zM,by omega,(fun S2 er h=>hcont S2 er (by rw[List.drop_eq_getElem_cons (by omega:j<L.length),show L[j]'(by omega)=rt.r from(List.getElem?_eq_some_iff.1 hlj).2];exact RdL.cons (yS hR (by simpa using rP)) h)),(hrd_.1.mono (by omega)),hrd_.2.2.1.trans hrj,hrd_.2.1.trans hrrj,rfl,(by kernel_rfl),hy111_.pk [0]⟩
 refine wp_exit (al (al (bh (aa (wq (sqr (sqp [.m 115 6,.m 4 115,.k 5 (vi 0)] ?_)))))))
 refine aa (wp_ret ?_)
 refine bpr (.tuple #[vp bx,vi 0]) (aN Tryz.results18 rpt rpt) ?_
 exact fF.st (.ok hbb (by have h_:=hon.trans dJ;simpa using h_) hf0 hc0 rs hrs (by rw[hD1];exact hcont _ _ (by rw[List.drop_of_length_le (by omega)];exact RdL.nil _ _))) (St.ofA (L:=[]) (hb90_.pick [0] (by decide) rfl))
 refine wp_skip (aa (wq (wq ?_)))
 have hop:fZ D L=(D,0):=if_neg (by have h_:=of_decide_eq_false nT;omega)
 have hc0:(fZ D L).2=0:=by rw[hop]
 obtain⟨D1,hD1⟩:∃z,(fZ D L).1=z:=⟨_,rfl⟩
 have hD2:D=D1:=by rw[<-hD1,hop]
 rw[show eDk db D=eDk db D1 by rw[hD2]] at gy
 have hdk:=A6 hlog hfz hc0
 rw[hD1] at hdk
 have hok0:SOk (iG D1 bufs rs (bc L)) c:=SOk.opn hbb (by rw[hdk.2.1];exact hpg) (by rw[hdk.2.1];exact hws) (by rw[hrs];exact hL) (by rw[hrs];exact hdk.1) (by rw[hdk.1,ck];have h_:=congrArg ByteArray.size hlog;rw[ByteArray.size_append,ck] at h_;omega) (by rw[hdk.2.2.1,hdk.1,ck];omega)
 have hn125_:=(gy.nM dm).nA ft
 refine sqr (sqp [.m 88 6,.k 89 (vp bx),.k 90 (po bx 8)] ?_)
 refine au 9 hn125_ ?_
 refine sqp [.m 11 91] ?_
 refine aa (wp_block ?_)
 obtain⟨fp131_,hk131_⟩:=St.stf (S:=iG D1 bufs rs (bc L)) (by have h_:=hn125_.u8.u8.u6.u6.u6.u6.u6.u8.u9;rw[stL,stC,StM.L,show (iG D1 bufs rs (bc L)).recs.map RcT.r=L from hrs,show (iG D1 bufs rs (bc L)).recs.length=L.length from hrl];exact h_) (fun t ht=>by cases ht) (fun t ht=>ht)
 refine aM (fun t_ mz az W=>∃j:Nat,∃Sj:StM,∃fpj:List Nat,j<=L.length/\(∀S2 er,RdL j Sj (L.drop j) S2 er->RdL (bc L) (iG D1 bufs rs (bc L)) (L.drop (bc L)) S2 er)/\SOk Sj (c+200*j)/\Sj.recs=rs/\Sj.rr=rs/\mz=L.length-j/\az=⟨(ovr (jv az) [(4,4,2,[]),(5,11,0,[vi ((j:Int))]),(0,12,1,[]),(79,92,23,[])] t_).toArray,[]⟩/\St w fp [eSt bx db Sj fpj] W) (L.length-((bc L))) ?_ ?_
 exact⟨(bc L),(iG D1 bufs rs (bc L)),fp131_,hfl,fun S2 er h=>h,hok0.mono (by omega),rfl,rfl,rfl,(by kernel_rfl),hk131_.pk [0]⟩
 rintro Sp a132 PH ⟨j,Sj,fpj,hj,hcont,hokj,hrj,hrrj,rfl,hj_,My⟩
 refine ovz hj_ fun RQ=>?_
 refine wq (wq ?_)
 obtain⟨mb133_,RA133_,rc133_,EA133_,ec133_,ib133_,tb133_,fpd133_,ha133_⟩:=St.toA (L:=[]) (My.pick [0] (by decide) rfl)
 have hb133_:St w fp [nJ bx db Sj mb133_ RA133_ rc133_ EA133_ ec133_ ib133_ tb133_ fpd133_ fpj] PH:=ha133_
 have hrjl:Sj.recs.length=L.length:=by rw[hrj,hrl]
 have hcj:200*j<=200*L.length:=by omega
 refine sqr (sqp [.m 92 11,.m 93 6,.k 94 (vp bx),.k 95 (po bx 4)] ?_)
 refine sql (.slice RA133_ Sj.recs.length rc133_) hb133_ (fun cx=>ae rfl (by kernel_rfl) (cx.ou 95) ((k8 (CtxV.holdF cx (cx.init 0 _ rfl) rfl)).blkL.cell 4)) ?_
 refine sqp [.k 97 (vi ((Sj.recs.length:Int))),.k 98 (.bool (decide ((j:Int)<(Sj.recs.length:Int))))] ?_
 refine aa (wds (fun N9 Mz=>?_) fun N9 Mz=>?_)
 refine wp_skip (aa (wq (wp_block (wq ?_))))
 have hjl:j<L.length:=by omega
 obtain⟨rt,hrt⟩:∃rt,rs[j]? =some rt:=⟨_,List.getElem?_eq_getElem (by omega)⟩
 have hrt2:Sj.recs[j]? =some rt:=by rw[hrj];exact hrt
 have hlj:L[j]? =some rt.r:=by rw[<-hrs,List.getElem?_map,hrt];rfl
 have hrm:rt∈Sj.rr:=by rw[hrrj];exact List.mem_of_getElem? hrt
 have hlm:=List.mem_of_getElem? hlj
 refine sqr (sqp [.m 101 6,.m 102 11,sI 103 ((j:Int)+1) (by omega),.m 104 6,.k 105 (vp bx),.k 106 (po bx 4)] ?_)
 refine sql (.slice RA133_ Sj.recs.length rc133_) hb133_ (fun cx=>ae rfl (by kernel_rfl) (cx.ou 106) ((k8 (CtxV.holdF cx (cx.init 0 _ rfl) rfl)).blkL.cell 4)) ?_
 refine sqp [.m 108 11] ?_
 refine sql (.pointer (some ((ad RA133_).add (j*8)))) hb133_ (fun cx=>ay (e:=27) (m:=j) (sz:=8) rfl (by kernel_rfl) (by kernel_rfl) (cx.ou 107) (cx.ou 108) (by omega) (by omega) (k8 (CtxV.holdF cx (cx.init 0 _ rfl) rfl)).recs (be (sz:=8) bY (by decide) (by omega))) ?_
 refine sql (.agg #[vi rt.r.kind,vi rt.r.xid,vi rt.r.tbl,sn,sn,.slice rt.A rt.r.eds.length rt.c,sn,.string rt.r.note]) hb133_ (fun cx=>bH (f:=rcC) (m:=j) (sz:=8) (off:=0) (n:=8) rfl (by kernel_rfl) (by kernel_rfl) (cx.ou 109) rfl bY (k8 (CtxV.holdF cx (cx.init 0 _ rfl) rfl)).recs hrt2 (fun k hk=>match k,hk with|0,_=>rfl|1,_=>rfl|2,_=>rfl|3,_=>rfl|4,_=>rfl|5,_=>rfl|6,_=>rfl|7,_=>rfl|k+8,hk=>absurd hk (by omega))) ?_
 refine ph (fun x_=>tZ x_) (fun X_=>X_.fp) (fun er111_152=>vi er111_152) (fun er111_152 zO=>eSx bx db (fun S2=>RdR Sj ((j:Int)+1) rt.r S2 er111_152) zO) 0 hb133_ (by
   refine svA fun g b W X cx=>?_
   refine am.call (aq (args:=#[vp bx,vi ((j:Int)+1),.agg #[vi rt.r.kind,vi rt.r.xid,vi rt.r.tbl,sn,sn,.slice rt.A rt.r.eds.length rt.c,sn,.string rt.r.note]]) rfl cx.sees rfl (by kernel_rfl) (dG (cx.ou 101) (cx.ou 103) (cx.ou 110))) ?_
   refine(wL bx db Sj ((j:Int)+1) rt (c+200*j) _ _ (vF (CtxV.holdF cx (cx.init 0 _ rfl) rfl)) (CtxV.ltF cx (cx.init 0 _ rfl) rfl) hokj (by omega) (hL _ hlm) hrm (h8 _ hlm)).mono ?_
   rintro e W1 ⟨er4,rfl,fp4,aQ⟩
   refine⟨_,rfl,aK (E:=nJ bx db Sj mb133_ RA133_ rc133_ EA133_ ec133_ ib133_ tb133_ fpd133_ fpj) [eSx bx db (fun S2=>RdR Sj ((j:Int)+1) rt.r S2 er4) fp4] (cx.init 0 _ rfl) rfl rfl aQ (fun d i X' hs hb hv hN=>?_)⟩
   have aJ:=(hv 111 rfl).1;have aR:=(hv 111 rfl).2
   exact⟨aJ.trans (by rw[aR];exact rfl),(by rw[aR];exact fK ((List.cons.inj hN).1))⟩) fun er111_152 zO PI uZ=>?_
 refine sqp [.m 12 111] ?_
 refine aa (wq ?_)
 obtain⟨S1,hR,hy154_⟩:=uZ.unx
 have hrd_:=hR.ok hokj (hL _ hlm)
 refine sqr (sqp [.m 112 12,.k 113 (.bool (er111_152 != 0))] ?_)
 refine aa (wbs (fun rQ=>?_) fun rQ=>?_)
 have MA:=bne_iff_ne.1 rQ
 refine wq (sqr (sqp [.m 114 12,.k 4 (.pointer none),.m 5 114] ?_))
 refine aa (wp_ret (aV (ai (ai (aV (ai ?_))))))
 refine bpr (.tuple #[.pointer none,vi er111_152]) (aN Tryz.results18 rpt rpt) ?_
 obtain⟨fpz,hz161_⟩:=St.dkOf (L:=[]) (hy154_.pick [0] (by decide) rfl)
 exact fF.dk (.bad hbb (by have h_:=hon.trans dJ;simpa using h_) hf0 hc0 rs hrs (by rw[hD1];exact hcont _ _ (by rw[List.drop_eq_getElem_cons hjl,show L[j]'hjl=rt.r from(List.getElem?_eq_some_iff.1 hlj).2];exact RdL.bad hR (by simpa using rQ))) (by simpa using rQ)) hz161_
 have MA:=bne_eq_false_iff_eq.1 rQ
 refine wp_skip (av (aa (sqr (sqp [.m 99 11,sI 100 ((j:Int)+1) (by omega),.m 11 100] ?_))))
 refine aa ?_
 refine⟨L.length-((j+1)),by omega,?_⟩
 exact⟨(j+1),S1,zO,by omega,(fun S2 er h=>hcont S2 er (by rw[List.drop_eq_getElem_cons (by omega:j<L.length),show L[j]'(by omega)=rt.r from(List.getElem?_eq_some_iff.1 hlj).2];exact RdL.cons (yS hR (by simpa using rQ)) h)),(hrd_.1.mono (by omega)),hrd_.2.2.1.trans hrj,hrd_.2.1.trans hrrj,rfl,(by kernel_rfl),hy154_.pk [0]⟩
 refine wp_exit (al (al (bh (aa (wq (sqr (sqp [.m 115 6,.m 4 115,.k 5 (vi 0)] ?_)))))))
 refine aa (wp_ret ?_)
 refine bpr (.tuple #[vp bx,vi 0]) (aN Tryz.results18 rpt rpt) ?_
 exact fF.st (.ok hbb (by have h_:=hon.trans dJ;simpa using h_) hf0 hc0 rs hrs (by rw[hD1];exact hcont _ _ (by rw[List.drop_of_length_le (by omega)];exact RdL.nil _ _))) (St.ofA (L:=[]) (hb133_.pick [0] (by decide) rfl))
 refine wp_cond_true (show Act.eval _ _= .bool true from(congrArg Value.bool (by rw[dJ];rfl))) (wq (sqr (sqp [.k 4 (.pointer none),.k 5 (vi 24)] ?_)))
 refine aa (wp_ret (ai ?_))
 refine bpr (.tuple #[.pointer none,vi 24]) (aN Tryz.results18 rpt rpt) ?_
 exact fF.dk (.off hbb (by have h_:=hon.trans dJ;simpa using h_)) (i7.pick [0] (by decide) rfl)
end
section
open Go.RowKit
def aI(note:ByteArray):RecM:=⟨9,0,0,[],note⟩
theorem dy{note:ByteArray}(h:note.size<=60000):bz (aI note)=true:=by
 have:decide ((note.size:Int)<=60000)=true:=decide_eq_true (by omega)
 show (inB 9 1 10&&(inB 0 0 127&&(inB 0 0 65535&&(decide ((([]:List EdT).length:Int)<=64)&&((([]:List EdT).all edR)&&decide ((note.size:Int)<=60000))))))=true
 rw[this];decide
def fmR(D:DkM)(note:ByteArray):DkM×Int:=opD D (apE D (aC (aI note))) (apD (aC (aI note)))
def vD(D:DkM)(note:ByteArray):DkM×Int:=if 0<D.log.size\/60000<note.size then (D,1) else if (fmR D note).2≠0 then fmR D note else opD (fmR D note).1 0 flD
theorem PaQ.ok{S S2:StM}{n:Int}{ok:Bool}{c:Nat}(h:PaQ S n S2 ok)(hc:SOk S c):SOk S2 (c+3):=by
 obtain⟨er,h1,_⟩:=h
 exact hc.load h1
theorem PaQ.ev{S S2:StM}{n:Int}{ok:Bool}{c:Nat}(h:PaQ S n S2 ok)(hc:SOk S c):Ev S S2/\(ok=false->S2.D.off=true\/¬(0<=n/\n<(S.D.pgs.length:Int)))/\(ok=true->0<=n/\n<(S.D.pgs.length:Int)):=by
 obtain⟨er,h1,h2⟩:=h
 obtain⟨a,b,d⟩:=Ev.load hc h1
 refine⟨a,fun h=>b ?_,fun h=>(d ?_).1⟩
 rw[h] at h2;simpa using h2.symm
 rw[h] at h2;simpa using h2.symm
def eI(S:StM)(n:Int)(b:Bool):StM:={S with nt:=mzP S.told n S.nt,told:=ce S.told n (some b)}
theorem SOk.told{S:StM}{c:Nat}(h:SOk S c)(n:Int)(b:Bool):SOk (eI S n b) (c+1):=⟨h.bufs,h.pgs,fun x hx=>Nat.le_succ_of_le (h.ws x hx),⟨h.time.1,by have:=h.time.2;show S.time<= _;omega⟩,Nat.le_succ_of_le h.ni,by have h1:=qC S.told n S.nt;have:=h.nt;show mzP S.told n S.nt<=c+1;omega,h.right,h.nodup,h.len,h.keys,h.recs,h.log,h.lsz,h.fl,h.cl⟩
inductive FrR:StM->Nat->StM->Int->Prop where
 |stop {S:StM}{n:Nat}(h:S.D.pgs.length<=n):FrR S n S (-1)
 |told {S S2:StM}{n:Nat}{r:Int}(h:n<S.D.pgs.length) (ht:(S.told (n:Int)).getD false=true) (hr:FrR S (n+1) S2 r):FrR S n S2 r
 |no {S S1 S2:StM}{n:Nat}{r:Int}{ok:Bool}(h:n<S.D.pgs.length) (ht:(S.told (n:Int)).getD false=false) (hp:PaQ S (n:Int) S1 ok) (hk:¬(ok=true/\(aG S (n:Int)).1=0)) (hr:FrR S1 (n+1) S2 r):FrR S n S2 r
 |yes {S S1:StM}{n:Nat}(h:n<S.D.pgs.length) (ht:(S.told (n:Int)).getD false=false) (hp:PaQ S (n:Int) S1 true) (hk:(aG S (n:Int)).1=0):FrR S n (eI S1 (n:Int) true) (n:Int)
def qg(sb db:Nat)(S:StM)(fp:List Nat)(w:World)(e:Ending)(w':World):Prop:=∃r,e= .returned (.int .i64 r)/\∃fp',St w fp [eSx sb db (fun S2=>FrR S 0 S2 r) fp'] w'
theorem qg.of{sb db:Nat}{S S2:StM}{r:Int}{fp fp':List Nat}{w w':World}(h:FrR S 0 S2 r)(hs:St w fp ([]++[eSt sb db S2 fp']) w'):qg sb db S fp w (.returned (.int .i64 r)) w':=⟨r,rfl,fp',St.sx (L:=[]) hs h⟩
theorem AJ(db:Nat)(D:DkM)(note:ByteArray)(fp:List Nat)(w:World)(hB:(eDk db D fp).holds w)(hlt:∀k∈fp,k<w.heap.size)(hlz:D.log.size<=9000000)(hns:note.size<=9000000):
  Calls Tryz.prog 20 #[po db 0,.string note] w (bU db (vD D note) fp w):=by
 have st1:St w fp [eDk db D fp] w:=St.lend hB (dS _ _ _) hlt
 go_enter Tryz.func20,Tryz.ntmps20
 have ak:=st1
 refine wq (sqr (sqp [.k 4 (vi 0)] ?_))
 refine aa (wq (wq (sqr (sqp [.m 6 0] ?_))))
 refine sqk (.string D.log) ak (fun cx=>⟨_,jz db D _ (fe (CtxV.holdF cx (cx.init 0 _ rfl) rfl)),(aw (cx.ou 6))⟩) fun W3 aW=>?_
 refine sqp [.k 8 (vi ((D.log.size:Int))),.k 9 (.bool (decide (0<(D.log.size:Int)))),.m 10 9] ?_
 refine sqw 10 [11,12,13] rfl (fun _=>sqp [.m 11 1,.k 12 (vi ((note.size:Int))),.k 13 (.bool (decide (60000<(note.size:Int))))] sqe) ?_
 refine sqp [sPo 14 (decide (0<(D.log.size:Int))) (decide (60000<(note.size:Int)))] ?_
 refine aa (wbs (fun dq=>?_) fun dq=>?_)
 have gY:=dq
 simp only[zB] at gY
 refine wq (sqr (sqp [.k 4 (vi 1)] ?_))
 refine aa (wp_ret (ai ?_))
 refine bpr (vi 1) (ag Tryz.results20 rpt) ?_
 exact bU.of (R':=(D,1)) (by rw[vD,if_pos (by have h_:=dq;simp at h_;omega)]) (aW.pick [0] (by decide) rfl)
 have gY:=dq
 simp only[zB] at gY
 obtain⟨Mu,Mv⟩:=gY
 refine wp_skip (aa (wq (wq ?_)))
 have hn6:note.size<=60000:=by have h_:=dq;simp at h_;omega
 have hfs:=eU (dy hn6)
 refine sqr (sqp [.m 15 0,.m 16 1,.k 17 (.agg #[vi 9,vi 0,vi 0,sn,sn,sn,sn,.string note])] ?_)
 refine sqk (.string (aC (aI note))) aW (fun cx=>⟨_,jT 9 0 0 none 0 [] note _ (fun j u h=>by cases j<;>cases h) (by decide) (fun e he=>by cases he) (by omega),(aw (cx.ou 17))⟩) fun qQ dx=>?_
 refine bN (fun X_=>X_.fp) (vi ((fmR D note).2)) (fun rR=>eDk db ((fmR D note).1) rR) 0 dx (by
   refine svA fun d a W X cx=>?_
   refine am.call (aq (args:=#[vp db,.string (aC (aI note))]) rfl cx.sees rfl (by kernel_rfl) (aT (cx.ou 15) (cx.ou 18))) ?_
   refine(r6 db D (aC (aI note)) _ _ (CtxV.holdF cx (cx.init 0 _ rfl) rfl) (CtxV.ltF cx (cx.init 0 _ rfl) rfl) (by omega) (by omega)).mono ?_
   rintro e W1 ⟨rfl,fp4,aQ⟩
   refine⟨_,rfl,aK (E:=eDk db D fp) [eDk db (fmR D note).1 fp4] (cx.init 0 _ rfl) rfl rfl aQ (fun b c X' hs hb hv hN=>?_)⟩
   have aJ:=(hv 19 rfl).1;have aR:=(hv 19 rfl).2
   exact⟨aJ.trans rfl,cK ((List.cons.inj hN).1)⟩) fun rR sg dt=>?_
 refine sqp [.m 5 19] ?_
 refine aa (wq (sqr (sqp [.m 20 5,.k 21 (.bool (((fmR D note).2) != 0))] ?_)))
 refine aa (wbs (fun zP=>?_) fun zP=>?_)
 have Oa:=bne_iff_ne.1 zP
 refine wq (sqr (sqp [.m 22 5,.m 4 22] ?_))
 refine aa (wp_ret (ai ?_))
 refine bpr (vi ((fmR D note).2)) (ag Tryz.results20 rpt) ?_
 exact bU.of (R':=fmR D note) (by rw[vD,if_neg (by have h_:=dq;simp at h_;omega),if_pos (by simpa using zP)]) (dt.pick [0] (by decide) rfl)
 have Oa:=bne_eq_false_iff_eq.1 zP
 refine wp_skip (aa (wq ?_))
 have hlz2:(fmR D note).1.log.size<=10000000:=by
  unfold fmR;refine c6 (P:=fun D'=>D'.log.size<=10000000) (Nat.le_trans hlz (by decide)) (Nat.le_trans hlz (by decide)) fun _=>?_
  show (D.log++ _).size<= _
  rw[ByteArray.size_append];omega
 refine sqr (sqp [.m 23 0] ?_)
 refine bN (fun X_=>X_.fp) (vi ((opD (fmR D note).1 0 flD).2)) (fun Ja=>eDk db ((opD (fmR D note).1 0 flD).1) Ja) 0 dt (by
   refine svA fun d a W X cx=>?_
   refine am.call (aq (args:=#[vp db]) rfl cx.sees rfl (by kernel_rfl) (aw (cx.ou 23))) ?_
   refine(lS db (fmR D note).1 _ _ (CtxV.holdF cx (cx.init 0 _ rfl) rfl) (CtxV.ltF cx (cx.init 0 _ rfl) rfl) hlz2).mono ?_
   rintro e W1 ⟨rfl,fp4,aQ⟩
   refine⟨_,rfl,aK (E:=eDk db ((fmR D note).1) rR) [eDk db (opD (fmR D note).1 0 flD).1 fp4] (cx.init 0 _ rfl) rfl rfl aQ (fun b c X' hs hb hv hN=>?_)⟩
   have aJ:=(hv 24 rfl).1;have aR:=(hv 24 rfl).2
   exact⟨aJ.trans rfl,cK ((List.cons.inj hN).1)⟩) fun Ja w5 dQ=>?_
 refine sqp [.m 4 24] ?_
 refine aa (wp_ret ?_)
 refine bpr (vi ((opD (fmR D note).1 0 flD).2)) (ag Tryz.results20 rpt) ?_
 exact bU.of (by rw[vD,if_neg (by have h_:=dq;simp at h_;omega),if_neg (by simpa using zP)]) (dQ.pick [0] (by decide) rfl)
theorem K2{S S1:StM}{n:Nat}{ok:Bool}(h:n<S.D.pgs.length)(ht:(S.told (n:Int)).getD false=false)(hp:PaQ S (n:Int) S1 ok)(hk:ok=true/\(pgF S (n:Int) ok).1=0):FrR S n (eI S1 (n:Int) true) (n:Int):=by
 obtain⟨rfl,h2⟩:=hk
 exact .yes h ht hp (by rw[pgF,if_pos rfl] at h2;exact h2)
theorem B1(sb db:Nat)(S:StM)(c:Nat)(fp:List Nat)(w:World)(hB:(eSt sb db S fp).holds w)(hlt:∀k∈fp,k<w.heap.size)(hok:SOk S c)(hc:c<=900000):
  Calls Tryz.prog 22 #[po sb 0] w (qg sb db S fp w):=by
 have st1:St w fp [eSt sb db S fp] w:=St.lend hB (dv _ _ _ _) hlt
 have hpg:=hok.pgs
 go_enter Tryz.func22,Tryz.ntmps22
 have ak:=st1
 refine wq (sqr (sqp [.k 2 (vi 0)] ?_))
 refine aa (wq (wq (sqr (sqp [.m 6 0] ?_))))
 refine sqk (vi ((S.D.pgs.length:Int))) ak (fun cx=>⟨_,oU sb db S _ (qJ (CtxV.holdF cx (cx.init 0 _ rfl) rfl)),(aw (cx.ou 6))⟩) fun W3 aW=>?_
 refine sqp [.k 8 (vi 0)] ?_
 refine aa (wp_block ?_)
 refine aM (fun t_ mz az W=>∃n:Nat,∃Sj:StM,∃fpj:List Nat,n<=S.D.pgs.length/\(∀S2 r,FrR Sj n S2 r->FrR S 0 S2 r)/\SOk Sj (c+3*n)/\Sj.D.pgs.length=S.D.pgs.length/\mz=S.D.pgs.length-n/\az=⟨(ovr (jv az) [(2,2,4,[]),(2,8,0,[vi ((n:Int))]),(0,9,27,[])] t_).toArray,[]⟩/\St w fp [eSt sb db Sj fpj] W) (S.D.pgs.length-0) ?_ ?_
 exact⟨0,S,fp,Nat.zero_le _,fun S2 r h=>h,hok,rfl,rfl,(by kernel_rfl),aW.pk [0]⟩
 rintro n5 a5 W5 ⟨n,Sj,fpj,hn,hcont,hokj,hpj,rfl,hj_,aP⟩
 refine ovz hj_ fun xa=>?_
 refine wq (sqr (sqp [.k 9 (.bool (decide ((n:Int)<(S.D.pgs.length:Int))))] ?_))
 refine aa (wq (wds (fun fD nP=>?_) fun fD nP=>?_))
 ·refine wp_skip (aa (wq (wp_block (wq (sqr (sqp [.m 10 8,.m 3 10] ?_))))))
  refine aa (wq (wq ?_))
  have hnp:n<Sj.D.pgs.length:=by omega
  have hpg:=hok.pgs
  have hkn:kcI.ok (n:Int):=by constructor<;>omega
  obtain⟨⟨hrw1,hrr1⟩,mb1,RA1,rc1,EA1,ec1,ib1,tb1,fpd1,hv10_⟩:=aP.unf
  refine sqr (sqp [.m 11 0,.k 12 (vp sb),.k 13 (po sb 7)] ?_)
  refine au 0 hv10_ ?_
  refine sqp [.m 15 3] ?_
  refine sql (.bool (((Sj.told (n:Int)).getD false))) hv10_ (fun cx=>c9 (e:=4) (C:=ecB) (K:=kcI) (x:=(n:Int)) rfl (cx.ou 14) (cx.ou 15) (CtxV.mx cx (cx.init 8 _ rfl) rfl) (h0:=(by rfl)) (hx:=hkn) (hk:=show Program.underlying _ _= _ from by kernel_rfl)) ?_
  refine aa (wbs (fun nO=>?_) fun nO=>?_)
  refine wp_exit (al (bh (aa (sqr (sqp [sI 35 ((n:Int)+1) (by omega),.m 8 35] ?_)))))
  refine aa ?_
  obtain⟨fp20_,hk20_⟩:=St.stf (S:=Sj) (hv10_) (hrw1) (hrr1)
  refine⟨S.D.pgs.length-((n+1)),by omega,?_⟩
  exact⟨(n+1),Sj,fp20_,by omega,(fun S2 r h=>hcont S2 r (FrR.told hnp nO h)),(hokj.mono (by omega)),hpj,rfl,(by kernel_rfl),hk20_.pk [0]⟩
  refine wp_skip (aa (wq ?_))
  obtain⟨fp21_,hk21_⟩:=St.stf (S:=Sj) (hv10_) (hrw1) (hrr1)
  refine aE [0,0,3,7,15,15,0,95,255] [[],[],[0],[],[],[],[],[3]] [[],[],[1,2],[],[],[],[3],[4]] [[],[],[0],[],[],[],[],[3]] [.k 18 (vp sb),.k 19 (vi ((n:Int))),.a 20,.a 17,.a 21,.a 22,.a 4,.n,.a 5] (fun ix d b X=>match ix with|0|1=>True|2=>d 20= .tuple #[.agg #[vi ((pgF Sj (n:Int) (tB1 (b 20))).1),vi ((pgF Sj (n:Int) (tB1 (b 20))).2.1),.slice (sA (tg (tg (b 20) 0) 2)) ((pgF Sj (n:Int) (tB1 (b 20))).2.2.length) (sC (tg (tg (b 20) 0) 2))],.bool (tB1 (b 20))]/\X 1=eSx sb db (fun S2=>PaQ Sj (n:Int) S2 (tB1 (b 20))) ((X 1).fp)/\X 2=eO 9 1 (.slice (sA (tg (tg (b 20) 0) 2)) ((pgF Sj (n:Int) (tB1 (b 20))).2.2.length) (sC (tg (tg (b 20) 0) 2))) ((pgF Sj (n:Int) (tB1 (b 20))).2.2.length) ((pgF Sj (n:Int) (tB1 (b 20))).2.2.map Value.string)|3=>d 17= .tuple #[.agg #[vi ((pgF Sj (n:Int) (tB1 (b 20))).1),vi ((pgF Sj (n:Int) (tB1 (b 20))).2.1),.slice (sA (tg (tg (b 20) 0) 2)) ((pgF Sj (n:Int) (tB1 (b 20))).2.2.length) (sC (tg (tg (b 20) 0) 2))],.bool (tB1 (b 20))]|4=>d 21= .agg #[vi ((pgF Sj (n:Int) (tB1 (b 20))).1),vi ((pgF Sj (n:Int) (tB1 (b 20))).2.1),.slice (sA (tg (tg (b 20) 0) 2)) ((pgF Sj (n:Int) (tB1 (b 20))).2.2.length) (sC (tg (tg (b 20) 0) 2))]|5=>d 22= .bool (tB1 (b 20))|6=>d 4=vp (pb (b 4))/\X 3=eB (pb (b 4)) 48 #[vi 0,vi 0,sn]|7=>X 4=eB (pb (b 4)) 48 #[vi ((pgF Sj (n:Int) (tB1 (b 20))).1),vi ((pgF Sj (n:Int) (tB1 (b 20))).2.1),.slice (sA (tg (tg (b 20) 0) 2)) ((pgF Sj (n:Int) (tB1 (b 20))).2.2.length) (sC (tg (tg (b 20) 0) 2))]|8=>d 5= .bool (tB1 (b 20))|_=>True) [1,2,4] [2,3,4,5,6,7,8] [(4,6,3,6),(11,3,1,12),(0,0,3,3),(0,4,2,2)] hk21_ ?_ ?_ ?_
  exact fun ix _ _ _ _ _ _ hs hb hx h=>match ix,h with
  |2,h=>by dsimp only;rw[<-hs 20 rfl,<-hb 20 rfl,<-hx 1 rfl,<-hx 2 rfl];exact h
  |3,h=>by dsimp only;rw[<-hs 17 rfl,<-hb 20 rfl];exact h
  |4,h=>by dsimp only;rw[<-hs 21 rfl,<-hb 20 rfl];exact h
  |5,h=>by dsimp only;rw[<-hs 22 rfl,<-hb 20 rfl];exact h
  |6,h=>by dsimp only;rw[<-hs 4 rfl,<-hb 4 rfl,<-hx 3 rfl];exact h
  |7,h=>by dsimp only;rw[<-hb 4 rfl,<-hb 20 rfl,<-hx 4 rfl];exact h
  |8,h=>by dsimp only;rw[<-hs 5 rfl,<-hb 20 rfl];exact h
  |0,_|1,_|_+9,_=>trivial
  refine⟨?_,?_,?_,?_,?_,?_,?_,trivial⟩
  refine svA fun f b W X cx=>?_
  refine am.call (aq (args:=#[vp sb,vi ((n:Int))]) rfl cx.sees rfl (by kernel_rfl) (aT (cx.an 0) (cx.an 1))) ?_
  refine(p5 sb db Sj (n:Int) (c+3*n) _ _ (CtxV.holdF cx (cx.init 0 _ rfl) rfl) (CtxV.ltF cx (cx.init 0 _ rfl) rfl) hokj (by omega) hkn).mono ?_
  rintro e W1 ⟨ok4,A4,c4,rfl,fp4,aQ⟩
  refine⟨_,rfl,aK (E:=eSt sb db Sj fp21_) [eSx sb db (fun S2=>PaQ Sj (n:Int) S2 ok4) fp4,eO 9 1 (.slice A4 ((pgF Sj (n:Int) ok4).2.2.length) c4) ((pgF Sj (n:Int) ok4).2.2.length) ((pgF Sj (n:Int) ok4).2.2.map Value.string)] (cx.init 0 _ rfl) rfl rfl aQ (fun d g X' hs hb hv hN=>?_)⟩
  have aJ:=(hv 20 rfl).1;have aR:=(hv 20 rfl).2
  exact⟨aJ.trans (by rw[aR];exact rfl),(by rw[aR];exact fK ((List.cons.inj hN).1)),(by rw[aR];exact(List.cons.inj (List.cons.inj hN).2).1)⟩
  exact sv rfl rfl rfl rfl rfl _ (fun _ _ _ h=>h) (fun b g h=>by rw[h 20 (by decide)]) fun f b W X cx=>cD rfl (dTn (cx.an 2)).1
  exact sv rfl rfl rfl rfl rfl _ (fun _ _ _ h=>h) (fun b g h=>by rw[h 20 (by decide)]) fun f b W X cx=>bC rfl (dTn (cx.an 3)) rfl
  exact sv rfl rfl rfl rfl rfl _ (fun _ _ _ h=>h) (fun b g h=>by rw[h 20 (by decide)]) fun f b W X cx=>bC rfl (dTn (cx.an 3)) rfl
  refine svA fun f b W X cx=>?_
  exact c7 (cs:=#[vi 0,vi 0,sn]) rfl (by kernel_rfl) rfl rfl (fun _ _ _ _ _=> .intro)
  refine svA fun f b W X cx=>?_
  exact bv (n:=3) rfl (dTn (cx.an 6)).1 (dTn (cx.an 4)) (by kernel_rfl) (by kernel_rfl) (by kernel_rfl) cx (dTn (cx.an 6)).2 rfl (nle rfl) (by kernel_rfl) rfl rfl rfl (fun d g X' hs hb hx=>by rw[hb 4,hb 20];exact hx)
  exact sv rfl rfl rfl rfl rfl _ (fun _ _ _ h=>h) (fun b g h=>by rw[h 20 (by decide)]) fun f b W X cx=>cJ rfl (dTn (cx.an 5))
  intro d b X w8 hD dH fr aD
  obtain⟨ok20_22,pI⟩:∃z,tB1 (b 20)=z:=⟨_,rfl⟩
  obtain⟨Q7,qX⟩:∃z,sA (tg (tg (b 20) 0) 2)=z:=⟨_,rfl⟩
  obtain⟨Q8,qY⟩:∃z,sC (tg (tg (b 20) 0) 2)=z:=⟨_,rfl⟩
  obtain⟨Ob,tx⟩:∃z,pb (b 4)=z:=⟨_,rfl⟩
  have MB:X 1= _:=(dTn (hD 2 lq)).2.1
  obtain⟨Oc,zQ⟩:∃z,(X 1).fp=z:=⟨_,rfl⟩
  rw[zQ] at MB
  clear zQ
  simp only[MB,exq 2 ((dTn (hD 2 lq)).2.2),exq 4 ((dTn (hD 7 lq))),pI,qX,qY,tx] at dH
  simp only[ed 20 ((dTn (hD 2 lq)).1),ed 17 ((dTn (hD 3 lq))),ed 21 ((dTn (hD 4 lq))),ed 22 ((dTn (hD 5 lq))),ed 4 ((dTn (hD 6 lq)).1),ed 5 ((dTn (hD 8 lq))),pI,qX,qY,tx] at aD
  clear hD MB pI qX qY tx;subst aD;clear d b X
  refine aa (wq ?_)
  obtain⟨S1,hP,hy23_⟩:=dH.unx
  refine sqr (sqp [.m 23 5,.m 24 23] ?_)
  refine d5 24 [25,26,27] ?_ rfl (fun hq=>?_) ?_
  rotate_left
  refine sqp [.k 25 (vp Ob)] ?_
  refine au 2 hy23_ ?_
  refine sqp [.k 27 (.bool (((pgF Sj (n:Int) ok20_22).1)==0))] ?_
  exact sqe
  refine c8 ?_
  refine sqp [sPa 28 ok20_22 (((pgF Sj (n:Int) ok20_22).1)==0)] ?_
  refine aa (wbs (fun jB=>?_) fun jB=>?_)
  have ja:=jB
  simp only[zB] at ja
  obtain⟨Md,Me⟩:=ja
  refine wq ?_
  obtain⟨⟨hrw2,hrr2⟩,mb2,RA2,rc2,EA2,ec2,ib2,tb2,fpd2,hv31_⟩:=hy23_.unf
  have hnt:=(hP.ok hokj).nt
  refine sqr (sqp [.m 29 0,.k 30 (vp sb),.k 31 (po sb 7)] ?_)
  refine au 0 hv31_ ?_
  refine sqp [.m 33 3] ?_
  refine sqc (eMx kcI ecB Tryz.prog 3 tb2 ((mzP S1.told (n:Int) S1.nt)) (ce S1.told (n:Int) (some true))) 8 hv31_ (by
    refine svA fun f b W X cx=>?_
    exact gv (e:=4) (v:=true) (.inl rfl) (cx.ou 32) (show f _=Kc.enc kcI (n:Int) from(cx.ou 33)) (show f _=Ec.enc ecB true from(cx.co _)) cx (cx.init 8 _ rfl) rfl (trivial) (by omega) (hkn) rfl rfl rfl (fun _ _ _ _ _=>id) (hk:=show Program.underlying _ _= _ from by kernel_rfl)) fun IV gW=>?_
  refine aa (wq (sqr (sqp [.m 34 3,.m 2 34] ?_)))
  refine aa (wp_ret (aV (ai (ai (aV (ai ?_))))))
  refine bpr (vi ((n:Int))) (ag Tryz.results22 rpt) ?_
  obtain⟨fp40_,hk40_⟩:=St.stf (S:=(eI S1 (n:Int) true)) (gW.u10.c0.u10.c0) (hrw2) (hrr2)
  exact qg.of (hcont _ _ (K2 hnp nO hP (by have h_:=jB;simpa using h_))) hk40_
  have ja:=jB
  simp only[zB] at ja
  refine wp_skip (av (aa (sqr (sqp [sI 35 ((n:Int)+1) (by omega),.m 8 35] ?_))))
  refine aa ?_
  refine⟨S.D.pgs.length-((n+1)),by omega,?_⟩
  exact⟨(n+1),S1,Oc,by omega,(fun S2 r h=>hcont S2 r (FrR.no hnp nO hP (fun hh=>by have h_:=jB;simp[hh.1,pgF,hh.2] at h_) h)),((hP.ok hokj).mono (by omega)),((hP.ev hokj).1.len.trans hpj),rfl,(by kernel_rfl),hy23_.pk [0]⟩
 refine wp_exit (al (al (bh (aa (wq (sqr (sqp [.k 2 (vi (-1))] ?_)))))))
 refine aa (wp_ret ?_)
 refine bpr (vi (-1)) (ag Tryz.results22 rpt) ?_
 exact qg.of (hcont _ _ (.stop (by omega))) (aP.pick [0] (by decide) rfl)
end
section
open Go.RowKit Go.Maps Go.ChangeMaps
section
variable{κ ε:Type}{K:Kc κ}{C:Ec ε}{P:Program}{o:Oper}{ρ:Operand->Value}{W:World}{k e b n:Nat}{m:κ->Option ε}
theorem xZ{t:TypeId}{y z:Operand}{x:κ}(h:o.op= .lookup t y z true)(hy:ρ y= .map (some b))(hz:ρ z=K.enc x)(hb:gp K C P k b n m W)(h0:(zeroValue e).run P W= .ok (C.enc C.e0) W)(hx:K.ok x)
  (hk:K.ty P k:=by kernel_rfl) (ht:P.underlying t=some (.map k e):=by kernel_rfl):(execOp ρ o).run P W= .ok (.value (.tuple #[C.enc ((m x).getD C.e0),.bool (m x).isSome])) W:=by
 obtain⟨D,hD,_,_,hm⟩:=hb
 obtain⟨v,ps,hrun,hv⟩:=hD.look_ok (K.keyed hk) ht h0 (C.read C.e0 C.ok0) (K.key hk hx)
 rw[C.back v _ ps _ hv (hm x hx).2,(hm x hx).1] at hrun
 unfold execOp
 rw[h]
 simp[hy,hz,hrun]
end
abbrev PgV:=Int×Int×Option Addr×Nat×Nat
def HJ(v:PgV):Value:= .agg #[.int .i64 v.1,.int .i64 v.2.1,.slice v.2.2.1 v.2.2.2.1 v.2.2.2.2]
def spD:Option Nat->DataW Unit
 |none=> .lit (.int .i64 (-1))
 |some j=> .lit (.int .i64 (j:Int))
theorem JD:∀{a b:Option Nat},spD a=spD b->a=b
 |none,none,_=>rfl
 |none,some j,h=>by simp[spD] at h
 |some i,none,h=>by simp[spD] at h
 |some i,some j,h=>by simp[spD] at h;congr 1;omega
def adD:Option Addr->DataW Unit
 |none=> .nil
 |some a=> .agg [.lit (.int .i64 (a.block:Int)),.lit (.int .i64 (a.off:Int)),spD a.spot]
theorem Kb:∀{a b:Option Addr},adD a=adD b->a=b
 |none,none,_=>rfl
 |none,some j,h=>by simp[adD] at h
 |some i,none,h=>by simp[adD] at h
 |some ⟨i1,i2,i3⟩,some ⟨j1,j2,j3⟩,h=>by
  simp only[adD,DataW.agg.injEq,List.cons.injEq,DataW.lit.injEq,Lit.int.injEq,and_true,true_and] at h
  obtain⟨h1,h2,h3⟩:=h
  rw[Int.ofNat.inj h1,Int.ofNat.inj h2,JD h3]
def yO(v:PgV):DataW Unit:= .agg [.lit (.int .i64 v.1),.lit (.int .i64 v.2.1),adD v.2.2.1,.lit (.int .i64 (v.2.2.2.1:Int)),.lit (.int .i64 (v.2.2.2.2:Int))]
def HI:List Value->Option (DataW Unit×List MemPlace)
 | [.int .i64 k,.int .i64 l,.slice A n c]=>some (yO (k,l,A,n,c),[])
 |_=>none
def G1:Value->Option (DataW Unit×List MemPlace)
 | .agg cells=>HI cells.toList
 |_=>none
theorem EC(v:List Value)(d:DataW Unit)(ps:List MemPlace)(e:PgV)(h:HI v=some (d,ps))(hd:d=yO e):v=[.int .i64 e.1,.int .i64 e.2.1,.slice e.2.2.1 e.2.2.2.1 e.2.2.2.2]:=by
 unfold HI at h
 split at h
 rename_i k l A n c
 injection h with h
 injection h with h _
 rw[hd] at h
 obtain⟨e1,e2,e3,e4,e5⟩:=e
 simp only[yO,DataW.agg.injEq,List.cons.injEq,DataW.lit.injEq,Lit.int.injEq,and_true,true_and] at h
 obtain⟨h1,h2,h3,h4,h5⟩:=h
 rw[h1,h2,Kb h3,Int.ofNat.inj h4,Int.ofNat.inj h5]
 cases h
theorem Hj(v:Value)(d:DataW Unit)(ps:List MemPlace)(e:PgV)(h:G1 v=some (d,ps))(hd:d=yO e):v=HJ e:=by
 unfold G1 at h
 split at h
 rename_i cells
 have h1:=EC _ _ _ _ h hd
 rw[HJ]
 congr 1
 exact Array.toList_inj.1 h1
 cases h
def pgX:Ec PgV where
 enc:=HJ
 dat:=yO
 R:=G1
 e0:=(0,0,none,0,0)
 okE:=fun _=>True
 read:=fun e _=>rfl
 back:=Hj
 ok0:=trivial
def jw(os:List Int)(e:EdT):List Int:=if e.1∈os then os else os++[e.1]
def cE(l:List EdT):List Int:=l.foldl jw []
def eE(N:Int->PgS)(e:EdT):Int->PgS:=fun n=>if n=e.1 then doV (N e.1) e 1 else N n
def bp(cur:Int->PgS)(l:List EdT):Int->PgS:=l.foldl eE cur
def cm(N:Int->PgS):List EdT->Int
 | []=>0
 |e::l=>if doE (N e.1) e 1=0 then cm (eE N e) l else doE (N e.1) e 1
theorem sq(l:List EdT)(e:EdT):cE (l++[e])=jw (cE l) e:=by rw[cE,List.foldl_append];rfl
theorem xS(cur:Int->PgS)(l:List EdT)(e:EdT):bp cur (l++[e])=eE (bp cur l) e:=by rw[bp,List.foldl_append];rfl
theorem Ba(l1:List EdT):∀(N:Int->PgS) (l2:List EdT),cm N l1=0->cm N (l1++l2)=cm (bp N l1) l2:=by
 induction l1 with
 |nil=>intro N l2 _;rfl
 |cons e l ih=>
  intro N l2 h
  rw[cm] at h
  rw[List.cons_append,cm]
  split at h
  rename_i h0
  rw[if_pos h0]
  exact ih _ _ h
  rename_i h0;exact absurd h h0
theorem ij{l:List EdT}{j:Nat}{e:EdT}(h:l[j]? =some e):l.take (j+1)=l.take j++[e]:=by rw[List.take_add_one,h];rfl
theorem yw{N:Int->PgS}{l:List EdT}{j:Nat}{e:EdT}(he:l[j]? =some e)(h:cm N (l.take j)=0)(h0:doE (bp N (l.take j) e.1) e 1=0):cm N (l.take (j+1))=0:=by
 rw[ij he,Ba _ _ _ h,cm,if_pos h0];rfl
theorem s8{N:Int->PgS}{l:List EdT}{j:Nat}{e:EdT}(he:l[j]? =some e)(h:cm N (l.take j)=0)(h0:doE (bp N (l.take j) e.1) e 1≠0):cm N l=doE (bp N (l.take j) e.1) e 1:=by
 obtain⟨hj,rfl⟩:=List.getElem?_eq_some_iff.1 he
 have e1:l=l.take j++l[j]::l.drop (j+1):=by rw[<-List.drop_eq_getElem_cons hj,List.take_append_drop]
 conv=>lhs;rw[e1]
 rw[Ba _ _ _ h,cm,if_neg h0]
theorem mf(l:List EdT):(cE l).length<=l.length:=by
 have h:∀(l:List EdT) (os:List Int),(l.foldl jw os).length<=os.length+l.length:=by
  intro l
  induction l with
  |nil=>intro os;exact Nat.le_refl _
  |cons e l ih=>
   intro os
   refine Nat.le_trans (ih _) ?_
   unfold jw
   split
   simp only[List.length_cons];omega
   simp only[List.length_cons,List.length_append,List.length_nil];omega
 have:=h l []
 simpa[cE] using this
theorem ko{l:List EdT}{n:Int}:n∈cE l<->∃e∈l,e.1=n:=by
 have h:∀(l:List EdT) (os:List Int),n∈l.foldl jw os<->(n∈os\/∃e∈l,e.1=n):=by
  intro l
  induction l with
  |nil=>intro os;simp
  |cons e l ih=>
   intro os
   rw[List.foldl_cons,ih]
   unfold jw
   split
   rename_i h1
   constructor
   rintro(h|⟨x,hx,hn⟩)
   exact .inl h
   exact .inr ⟨x,List.mem_cons_of_mem _ hx,hn⟩
   rintro(h|⟨x,hx,hn⟩)
   exact .inl h
   rcases List.mem_cons.1 hx with rfl|hx
   exact .inl (hn ▸ h1)
   exact .inr ⟨x,hx,hn⟩
   rw[List.mem_append,List.mem_singleton]
   constructor
   rintro((h|h)|⟨x,hx,hn⟩)
   exact .inl h
   exact .inr ⟨e,List.mem_cons_self,h.symm⟩
   exact .inr ⟨x,List.mem_cons_of_mem _ hx,hn⟩
   rintro(h|⟨x,hx,hn⟩)
   exact .inl (.inl h)
   rcases List.mem_cons.1 hx with rfl|hx
   exact .inl (.inr hn.symm)
   exact .inr ⟨x,hx,hn⟩
 have:=h l []
 simpa[cE] using this
theorem Dh(l:List EdT):(cE l).Nodup:=by
 have h:∀(l:List EdT) (os:List Int),os.Nodup->(l.foldl jw os).Nodup:=by
  intro l
  induction l with
  |nil=>intro os h;exact h
  |cons e l ih=>
   intro os h
   refine ih _ ?_
   unfold jw
   split
   exact h
   rename_i h1
   rw[List.nodup_append]
   exact⟨h,by simp,fun a ha b hb e2=>h1 (by rw[<-List.mem_singleton.1 hb,<-e2];exact ha)⟩
 exact h l [] List.nodup_nil
def dL(n:Nat)(e:EdT):Bool:=decide (e.1<0)||decide ((n:Int)<=e.1)
def lw{α:Type}(p:α->Bool)(k:Int):List α->Int
 | []=> -1
 |x::l=>if p x then k else lw p (k+1) l
theorem AQ{α:Type}{p:α->Bool}{l:List α}{x:α}{k:Nat}(h:l[k]? =some x):lw p (k:Int) (l.drop k)=if p x then (k:Int) else lw p ((k+1:Nat):Int) (l.drop (k+1)):=by
 obtain⟨hk,rfl⟩:=List.getElem?_eq_some_iff.1 h
 rw[List.drop_eq_getElem_cons hk,lw];rfl
theorem Hi{α:Type}(p:α->Bool)(l:List α):∀k:Int,0<=k->decide (0<=lw p k l)=l.any p:=by
 induction l with
 |nil=>intro k _;rfl
 |cons x l ih=>
  intro k hk
  rw[lw,List.any_cons]
  cases p x with
  |true=>rw[if_pos rfl,Bool.true_or];exact decide_eq_true hk
  |false=>rw[if_neg (by decide),Bool.false_or];exact ih (k+1) (by omega)
theorem Kr(n:Nat)(x:Int)(sl:Int)(s:ByteArray):(if decide (x<0)=true then true else decide ((n:Int)<=x))=dL n (x,sl,s):=by
 unfold dL;cases decide (x<0)<;>rfl
theorem Ha(x sl:Int)(s:ByteArray)(q sb db:Nat)(S:StM)(w:World)(hbq:Blk w q 31 #[po sb 0])(bf:km w sb db S):
  Calls Tryz.prog 54 #[.agg #[.int .i64 x,.int .i64 sl,.string s],po q 0] w (Ret (.bool (dL S.D.pgs.length (x,sl,s))) w):=by
 go_enter Tryz.func54,Tryz.ntmps54
 have ak:=St.start w
 refine wq (sqr ?_)
 refine b9 #[vi x,vi sl,.string s] ak fun bB W1 aB=>?_
 refine sqp [.k 3 (.bool false)] ?_
 refine aa (wq (bL [0,1,3,7,15,31,15,79,255,511,1023] [[],[0],[],[],[],[0]] [.k 4 (vp bB),.c 5 (vi x),.k 6 (.bool (decide (x<0))),.k 7 (.bool (decide (x<0))),.z 8 (!(decide (x<0))) (vp bB),.y 9 (!(decide (x<0))) (vi x),.y 10 (!(decide (x<0))) (vp sb),.y 11 (!(decide (x<0))) (vi ((S.D.pgs.length:Int))),.z 12 (!(decide (x<0))) (.bool (decide ((S.D.pgs.length:Int)<=x))),tO 13 (decide (x<0)) (decide ((S.D.pgs.length:Int)<=x)),.k 3 (.bool ((decide (x<0))||(decide ((S.D.pgs.length:Int)<=x))))] [0] [1,5,6,7] [(3,10,1,4),(0,0,10,10)] aB ?_ fun W3 aW=>?_))
 refine⟨?_,?_,?_,?_,trivial⟩
 exact xs4 rfl id fun cx=>ae rfl (by kernel_rfl) (cx.an 0) ((cx.bi 0 rfl).cell 0)
 exact m2 rfl (fun _ _ _ h=>h) (fun cx=>(cx.an 3)) fun cx hq=>ae rfl (by kernel_rfl) (mbv (cx.an 4) hq) ((cx.bi 0 rfl).cell 0)
 exact m2 rfl (fun _ _ _ h=>h) (fun cx=>(cx.an 3)) fun cx hq=>ae rfl (by kernel_rfl) (cx.ou 1) ((Blk.ext hbq cx.upd.to_ext).cell 0)
 exact m3 rfl (fun _ _ _ h=>h) (fun cx=>(cx.an 3)) fun cx hq=>⟨_,_,aq (args:=#[vp sb]) rfl cx.sees rfl (by kernel_rfl) (aw (mbv (cx.an 6) hq)),oU sb db S _ (km.ext bf cx.upd.to_ext)⟩
 refine aa (wp_ret ?_)
 refine bpr (.bool ((decide (x<0))||(decide ((S.D.pgs.length:Int)<=x)))) (ag Tryz.results54 rpt) ?_
 exact Ret.bool (by rw[<-Kr];simp) aW.ext
theorem Dg(A:Option Addr)(c:Nat)(l:List EdT)(f0:FuncId)(cap:Array Value)(p:EdT->Bool)(w:World)(hA:At w A (l.flatMap edC))(hl:l.length<=100000)(hcf:gU Tryz.prog f0=true)(hf:∀(W:World) (k:EdT),Ext w W->Calls Tryz.prog f0 (#[.agg #[.int .i64 k.1,.int .i64 k.2.1,.string k.2.2]]++cap) W (Ret (.bool (p k)) W)):
  Calls Tryz.prog 117 #[.slice A l.length c,.func (.func f0) #[] cap] w (Ret (.int .i64 (lw p 0 l)) w):=by
 go_enter Tryz.func117,Tryz.ntmps117
 have ak:=St.start w
 refine wq (sqr (sqp [.k 4 (vi 0)] ?_))
 refine aa (wq (wq (sqr (sqp [.m 6 0,.k 7 (vi ((l.length:Int))),.k 8 (vi 0)] ?_))))
 refine aa (wp_block ?_)
 refine aM (fun t_ mz az W=>∃k:Nat,k<=l.length/\lw p 0 l=lw p (k:Int) (l.drop k)/\mz=l.length-k/\az=⟨(ovr (jv az) [(4,4,2,[]),(2,8,0,[vi ((k:Int))]),(0,9,10,[])] t_).toArray,[]⟩/\St w [] [] W) (l.length-0) ?_ ?_
 exact⟨0,Nat.zero_le _,rfl,rfl,(by kernel_rfl),ak.pk []⟩
 rintro n5 a5 W5 ⟨k,hk,hkr,rfl,hj_,aP⟩
 refine ovz hj_ fun xa=>?_
 refine wq (sqr (sqp [.k 9 (.bool (decide ((k:Int)<(l.length:Int))))] ?_))
 refine aa (wq (wds (fun fD nP=>?_) fun fD nP=>?_))
 refine wp_skip (aa (wq (wp_block (wq (sqr (sqp [.m 10 8,.m 5 10] ?_))))))
 refine aa (wq ?_)
 obtain⟨ep,es,eb,hek⟩:=kU (l:=l) (k:=k) (by omega)
 refine sqr (sqp [.m 11 1,.m 12 0,.m 13 5] ?_)
 refine sql (.pointer (some ((ad A).add (k*3)))) aP (fun cx=>ay (e:=84) (m:=k) (sz:=3) rfl (by kernel_rfl) (by kernel_rfl) (cx.ou 12) (cx.ou 13) (by omega) (by omega) (hA.ext cx.upd.to_ext) (be (sz:=3) bA (by decide) (by omega))) ?_
 refine sql (.agg #[vi ep,vi es,.string eb]) aP (fun cx=>bH (f:=edC) (m:=k) (sz:=3) (off:=0) (n:=3) rfl (by kernel_rfl) (by kernel_rfl) (cx.ou 14) rfl bA (hA.ext cx.upd.to_ext) hek (fun k hk=>match k,hk with|0,_=>rfl|1,_=>rfl|2,_=>rfl|k+3,hk=>absurd hk (by omega))) ?_
 refine sqv (.bool ((p (ep,es,eb)))) aP (ik rfl rfl rfl rfl rfl (fun _ _ _ h=>h) fun b a W X cx=>⟨_,_,cN (f:=f0) (args:=#[.agg #[vi ep,vi es,.string eb]]) (args':=#[.agg #[vi ep,vi es,.string eb]]++cap) rfl rfl (cx.ou 11) hcf (aw (cx.ou 15)) (by rw[Array.empty_append]),(by have h9:=hf W (ep,es,eb) cx.upd.to_ext;dsimp only at h9;exact h9)⟩) fun BC gn=>?_
 refine aa (wbs (fun dj=>?_) fun dj=>?_)
 refine wq (sqr (sqp [.m 17 5,.m 4 17] ?_))
 refine aa (wp_ret (aV (ai (ai (aV (ai ?_))))))
 refine bpr (vi ((k:Int))) (ag Tryz.results117 rpt) ?_
 exact Ret.of (by rw[hkr,AQ hek,dj];rfl) gn.ext
 refine wp_skip (av (aa (sqr (sqp [sI 18 ((k:Int)+1) (by omega),.m 8 18] ?_))))
 refine aa ?_
 refine⟨l.length-((k+1)),by omega,?_⟩
 exact⟨(k+1),by omega,by rw[hkr,AQ hek,dj];rfl,rfl,(by kernel_rfl),gn.pk []⟩
 refine wp_exit (al (al (bh (aa (wq (sqr (sqp [.k 4 (vi (-1))] ?_)))))))
 refine aa (wp_ret ?_)
 refine bpr (vi (-1)) (ag Tryz.results117 rpt) ?_
 exact Ret.of (by rw[hkr,List.drop_of_length_le (by omega)];rfl) aP.ext
theorem D5(A:Option Addr)(c:Nat)(l:List EdT)(f0:FuncId)(cap:Array Value)(p:EdT->Bool)(w:World)(hA:At w A (l.flatMap edC))(hl:l.length<=100000)(hcf:gU Tryz.prog f0=true)(hf:∀(W:World) (k:EdT),Ext w W->Calls Tryz.prog f0 (#[.agg #[.int .i64 k.1,.int .i64 k.2.1,.string k.2.2]]++cap) W (Ret (.bool (p k)) W)):
  Calls Tryz.prog 53 #[.slice A l.length c,.func (.func f0) #[] cap] w (Ret (.bool (l.any p)) w):=by
 go_enter Tryz.func53,Tryz.ntmps53
 have ak:=St.start w
 refine wq (sqr (sqp [.k 4 (.bool false)] ?_))
 refine aa (wq (sqr (sqp [.m 5 0,.m 6 1] ?_)))
 refine sqv (vi ((lw p 0 l))) ak (ik rfl rfl rfl rfl rfl (fun _ _ _ h=>h) fun b a W X cx=>⟨_,_,aq (args:=#[.slice A l.length c,.func (.func f0) #[] cap]) rfl cx.sees rfl (by kernel_rfl) (aT (cx.ou 5) (cx.ou 6)),Dg _ _ l _ _ p _ (hA.ext cx.upd.to_ext) hl hcf (fun W k hW=>hf W k (cx.upd.to_ext.trans hW))⟩) fun W4 bb=>?_
 refine sqp [.k 8 (.bool (decide (0<=(lw p 0 l)))),.m 4 8] ?_
 refine aa (wp_ret ?_)
 refine bpr (.bool (decide (0<=(lw p 0 l)))) (ag Tryz.results53 rpt) ?_
 exact Ret.of (by rw[<-Hi _ _ 0 (by omega)]) bb.ext
end
section
open Go.RowKit Go.Maps Go.ChangeMaps
noncomputable def fY(S:StM)(n:Int):RecM:=⟨8,0,n,[],aH (aG S n)⟩
def eK(S:StM)(os:List Int):List Int:=os.filter fun n=>!(S.im n).getD false
def rcI(r:RecM):RcT:=⟨r,none,0⟩
noncomputable def icC(S:StM)(n:Int):List Value:=rcC (rcI (fY S n))
theorem Bn(S:StM)(n:Int):(icC S n).length=8:=rfl
noncomputable def fj(S:StM)(os:List Int):List RecM:=(eK S os).map (fY S)
def iu(l:Int)(p:PgS):PgS:=(p.1,l,p.2.2)
def npV(p:PgS)(pg:PgR):PgV:=(p.1,p.2.1,pg.A,p.2.2.length,pg.c)
noncomputable def eG(S:StM)(r:RecM):Int:=(S.recs.length:Int)+((eK S (cE r.eds)).length:Int)+1
theorem qk(S:StM)(os:List Int)(n:Int):eK S (os++[n])=if (S.im n).getD false=true then eK S os else eK S os++[n]:=by
 rw[eK,List.filter_append]
 cases h:(S.im n).getD false
 rw[if_neg (by decide),List.filter_cons_of_pos (by rw[h];rfl)];rfl
 rw[if_pos rfl,List.filter_cons_of_neg (by rw[h];decide),List.filter_nil,List.append_nil];rfl
theorem oW(S:StM)(os:List Int):(eK S os).length<=os.length:=List.length_filter_le _ _
theorem sY{S:StM}{os:List Int}{n:Int}(h:n∈eK S os):n∈os:=(List.mem_filter.1 h).1
theorem iA{S:StM}{c:Nat}(h:SOk S c)(n:Int):bK (aG S n):=by
 unfold aG
 split
 rename_i t ht;exact h.right t (List.mem_of_find?_eq_some ht)
 exact s9 _
theorem iH{cur:Int->PgS}{l:List EdT}(hc:∀n,bK (cur n))(h:cm cur l=0)(n:Int):bK (bp cur l n):=by
 induction l generalizing cur with
 |nil=>exact hc n
 |cons e l ih=>
  rw[cm] at h
  split at h
  rename_i h0
  refine ih (fun m=>?_) h
  unfold eE
  split
  exact kj h0
  exact hc m
  rename_i h0;exact absurd h h0
structure DoI (cur N:Int->PgS) (lsn:Int) (os:List Int) (mW mN:Int->Option PgV) (rows:List PgR) (ex:Option Int):Prop where
 w:∀n∈os,∃pg∈rows,mW n=some (npV (cur n) pg)/\pg.p.2.2=(cur n).2.2
 n:∀n∈os,∃pg∈rows,mN n=some (npV (N n) pg)/\pg.p.2.2=(N n).2.2/\(ex≠some n->pg.p=iu lsn (N n))
 no:∀n,n∉os->mW n=none/\mN n=none/\N n=cur n
theorem DoI.init(cur:Int->PgS)(lsn:Int)(rows:List PgR):DoI cur cur lsn [] (fun _=>none) (fun _=>none) rows none:=⟨fun n h=>(by cases h),fun n h=>(by cases h),fun n _=>⟨rfl,rfl,rfl⟩⟩
theorem DoI.mono{cur N:Int->PgS}{lsn:Int}{os:List Int}{mW mN:Int->Option PgV}{rows rows':List PgR}{ex:Option Int}(h:DoI cur N lsn os mW mN rows ex)(hr:∀r∈rows,r∈rows'):DoI cur N lsn os mW mN rows' ex:=
 ⟨fun n hn=>let ⟨pg,a,b⟩:=h.w n hn;⟨pg,hr pg a,b⟩,fun n hn=>let ⟨pg,a,b⟩:=h.n n hn;⟨pg,hr pg a,b⟩,h.no⟩
theorem mF{os:List Int}{e:EdT}(h:e.1∈os):jw os e=os:=if_pos h
theorem kp{os:List Int}{e:EdT}(h:e.1∉os):jw os e=os++[e.1]:=if_neg h
theorem Dq(os:List Int)(e:EdT):e.1∈jw os e:=by
 by_cases h:e.1∈os
 rw[mF h];exact h
 rw[kp h];exact List.mem_append_right _ (List.mem_singleton.2 rfl)
theorem DoI.mem{cur N:Int->PgS}{lsn:Int}{os:List Int}{mW mN:Int->Option PgV}{rows:List PgR}{ex:Option Int}(h:DoI cur N lsn os mW mN rows ex){n:Int}:((mW n).isSome=true<->n∈os):=by
 constructor
 intro h1
 refine Classical.byContradiction fun hn=>?_
 rw[(h.no n hn).1] at h1
 cases h1
 intro hn
 obtain⟨pg,_,h2,_⟩:=h.w n hn
 rw[h2];rfl
theorem DoI.old{cur N:Int->PgS}{lsn:Int}{os:List Int}{mW mN:Int->Option PgV}{rows:List PgR}(h:DoI cur N lsn os mW mN rows none)(e:EdT)(hs:(mW e.1).isSome=true):DoI cur N lsn (jw os e) mW mN rows (some e.1):=by
 rw[mF (h.mem.1 hs)]
 exact⟨h.w,fun n hn=>let ⟨pg,a,b,c,d⟩:=h.n n hn;⟨pg,a,b,c,fun _=>d (by simp)⟩,h.no⟩
theorem DoI.new{cur N:Int->PgS}{lsn:Int}{os:List Int}{mW mN:Int->Option PgV}{rows:List PgR}(h:DoI cur N lsn os mW mN rows none)(e:EdT)(hs:(mW e.1).isSome=false){q:PgS}(hq:q=cur e.1)(A:Option Addr)(c:Nat):
  DoI cur N lsn (jw os e) (ce mW e.1 (some (q.1,q.2.1,A,q.2.2.length,c))) (ce mN e.1 (some (q.1,q.2.1,A,q.2.2.length,c))) (rows++[⟨q,A,c⟩]) (some e.1):=by
 have hn:e.1∉os:=fun hm=>by rw[h.mem.2 hm] at hs;cases hs
 rw[kp hn]
 subst hq
 refine⟨fun n hm=>?_,fun n hm=>?_,fun n hm=>?_⟩
 by_cases e1:n=e.1
 subst e1;exact⟨_,List.mem_append_right _ (List.mem_singleton.2 rfl),if_pos rfl,rfl⟩
 obtain⟨pg,a,b⟩:=h.w n ((List.mem_append.1 hm).elim id fun h=>absurd (List.mem_singleton.1 h) e1)
 exact⟨pg,List.mem_append_left _ a,by rw[ce,if_neg e1];exact b.1,b.2⟩
 by_cases e1:n=e.1
 subst e1
 exact⟨_,List.mem_append_right _ (List.mem_singleton.2 rfl),by rw[ce,if_pos rfl,npV,(h.no _ hn).2.2],by rw[(h.no _ hn).2.2],fun h=>absurd rfl h⟩
 obtain⟨pg,a,b,c,d⟩:=h.n n ((List.mem_append.1 hm).elim id fun h=>absurd (List.mem_singleton.1 h) e1)
 exact⟨pg,List.mem_append_left _ a,by rw[ce,if_neg e1];exact b,c,fun _=>d (by simp)⟩
 have h1:n∉os:=fun h2=>hm (List.mem_append_left _ h2)
 have e1:n≠e.1:=fun h2=>hm (List.mem_append_right _ (List.mem_singleton.2 h2))
 obtain⟨a,b,c⟩:=h.no n h1
 exact⟨by rw[ce,if_neg e1];exact a,by rw[ce,if_neg e1];exact b,c⟩
theorem DoI.edit{cur N:Int->PgS}{lsn:Int}{os:List Int}{mW mN:Int->Option PgV}{rows:List PgR}{e:EdT}(h:DoI cur N lsn os mW mN rows (some e.1))(hm:e.1∈os){q:PgS}(hq:q=doV (N e.1) e 1)(A:Option Addr)(c:Nat):
  DoI cur (eE N e) lsn os mW (ce mN e.1 (some (q.1,q.2.1,A,q.2.2.length,c))) (rows++[⟨iu lsn q,A,c⟩]) none:=by
 subst hq
 refine⟨fun n hn=>let ⟨pg,a,b⟩:=h.w n hn;⟨pg,List.mem_append_left _ a,b⟩,fun n hn=>?_,fun n hn=>?_⟩
 by_cases e1:n=e.1
 subst e1
 have e2:eE N e e.1=doV (N e.1) e 1:=if_pos rfl
 exact⟨_,List.mem_append_right _ (List.mem_singleton.2 rfl),by rw[ce,if_pos rfl,npV,e2],by rw[e2];rfl,fun _=>by rw[e2]⟩
 obtain⟨pg,a,b,c,d⟩:=h.n n hn
 have e2:eE N e n=N n:=if_neg e1
 exact⟨pg,List.mem_append_left _ a,by rw[ce,if_neg e1,e2];exact b,by rw[e2];exact c,fun _=>by rw[e2];exact d (fun h=>e1 (Option.some.inj h).symm)⟩
 obtain⟨a,b,c⟩:=h.no n hn
 have e1:n≠e.1:=fun h2=>hn (h2 ▸ hm)
 exact⟨a,by rw[ce,if_neg e1];exact b,by rw[eE,if_neg e1];exact c⟩
inductive ApI:StM->List RecM->StM->Int->Prop where
 |nil (S:StM):ApI S [] S 0
 |bad {S:StM}{r:RecM}{l:List RecM}(q:List RcT) (h:(bu {S with rr:=q} (rcI r)).2≠0):ApI S (r::l) (bu {S with rr:=q} (rcI r)).1 (bu {S with rr:=q} (rcI r)).2
 |cons {S S2:StM}{r:RecM}{l:List RecM}{er:Int}(q:List RcT) (h:(bu {S with rr:=q} (rcI r)).2=0) (hr:ApI (imS (bu {S with rr:=q} (rcI r)).1 r.tbl) l S2 er):ApI S (r::l) S2 er
inductive PuA (cur N:Int->PgS) (lsn:Int):StM->List Int->StM->Int->Prop where
 |nil (S:StM):PuA cur N lsn S [] S 0
 |bad {S S2:StM}{n er:Int}{l:List Int}{pg:PgR}(hp:pg.p=iu lsn (N n)) (h:eh (if (cur n).1≠0/\(N n).1=0 then eI S n false else S) n pg S2 er) (he:er≠0):PuA cur N lsn S (n::l) S2 er
 |cons {S S1 S2:StM}{n er:Int}{l:List Int}{pg:PgR}(hp:pg.p=iu lsn (N n)) (h:eh (if (cur n).1≠0/\(N n).1=0 then eI S n false else S) n pg S1 0) (hr:PuA cur N lsn S1 l S2 er):PuA cur N lsn S (n::l) S2 er
def DoA(r:RecM):Prop:=bz r=true/\r.kind≠8/\r.kind≠9
noncomputable def j6(S:StM)(r:RecM):Nat:=S.D.log.size+((aC r).size+szF (fj S (cE r.eds)))
inductive DoQ (S:StM) (r:RecM):StM->Int->Int->Prop where
 |arg (h:¬DoA r):DoQ S r S 0 1
 |page {S':StM}(h:DoA r) (hp:r.eds.any (dL S.D.pgs.length)=true) (he:Ev S S'):DoQ S r S' 0 22
 |pow {S':StM}(h:DoA r) (hp:r.eds.any (dL S.D.pgs.length)=false) (he:Ev S S') (ho:S'.D.off=true):DoQ S r S' 0 24
 |err {S':StM}(h:DoA r) (hp:r.eds.any (dL S.D.pgs.length)=false) (he:Ev S S') (h0:cm (aG S) r.eds≠0):DoQ S r S' 0 (cm (aG S) r.eds)
 |full {S':StM}(h:DoA r) (hp:r.eds.any (dL S.D.pgs.length)=false) (he:Ev S S') (h0:cm (aG S) r.eds=0) (hf:1048576<j6 S r):DoQ S r S' 0 31
 |img {S1 S2:StM}{er:Int}(h:DoA r) (hp:r.eds.any (dL S.D.pgs.length)=false) (he:Ev S S1) (hk:∃c,SOk S1 c) (h0:cm (aG S) r.eds=0) (hf:j6 S r<=1048576) (hi:ApI S1 (fj S (cE r.eds)) S2 er) (hn:er≠0):DoQ S r S2 0 er
 |app {S1 S2:StM}{rt:RcT}(h:DoA r) (hp:r.eds.any (dL S.D.pgs.length)=false) (he:Ev S S1) (hk:∃c,SOk S1 c) (h0:cm (aG S) r.eds=0) (hf:j6 S r<=1048576) (hi:ApI S1 (fj S (cE r.eds)) S2 0) (hr:rt.r=r) (hn:(bu S2 rt).2≠0):DoQ S r (bu S2 rt).1 0 (bu S2 rt).2
 |put {S1 S2 S3:StM}{rt:RcT}{er:Int}(h:DoA r) (hp:r.eds.any (dL S.D.pgs.length)=false) (he:Ev S S1) (hk:∃c,SOk S1 c) (h0:cm (aG S) r.eds=0) (hf:j6 S r<=1048576) (hi:ApI S1 (fj S (cE r.eds)) S2 0) (hr:rt.r=r) (ha:(bu S2 rt).2=0)
   (hu:PuA (aG S) (bp (aG S) r.eds) (eG S r) (bu S2 rt).1 (cE r.eds) S3 er):DoQ S r S3 (if er=0 then eG S r else 0) er
def fH(sb db:Nat)(S:StM)(r:RecM)(c:Nat)(fp:List Nat)(w:World)(e:Ending)(w':World):Prop:=∃n er,e= .returned (.tuple #[.int .i64 n,.int .i64 er])/\∃fp',St w fp [eSx sb db (fun S2=>DoQ S r S2 n er/\SOk S2 (c+700)) fp'] w'
theorem fH.of{sb db:Nat}{S S2:StM}{r:RecM}{c:Nat}{n er:Int}{fp fp':List Nat}{w w':World}(h:DoQ S r S2 n er)(ho:SOk S2 (c+700))(hs:St w fp ([]++[eSt sb db S2 fp']) w'):fH sb db S r c fp w (.returned (.tuple #[.int .i64 n,.int .i64 er])) w':=⟨n,er,rfl,fp',St.sx (L:=[]) hs ⟨h,ho⟩⟩
theorem SOk.rr{S:StM}{c:Nat}(h:SOk S c)(q:List RcT):SOk {S with rr:=q} c:=⟨h.bufs,h.pgs,h.ws,h.time,h.ni,h.nt,h.right,h.nodup,h.len,h.keys,h.recs,h.log,h.lsz,h.fl,h.cl⟩
theorem Ev.rr(S:StM)(q:List RcT):Ev S {S with rr:=q}:=⟨rfl,rfl,rfl,rfl,rfl,fun r h=>h,rfl,rfl,.inl rfl,rfl,id,fun _=>rfl,fun j x y hx hy=>by have hy:S.D.pgs[j]? =some y:=hy;rw[hx] at hy;cases hy;exact⟨rfl,[],by simp,fun z hz=>by cases hz⟩,fun m _=>rfl⟩
theorem Ev.rows'(S:StM)(pg:PgR):Ev S (jU S pg):=⟨rfl,rfl,rfl,rfl,rfl,fun r h=>List.mem_append_left _ h,rfl,rfl,.inl rfl,rfl,id,fun _=>rfl,fun j x y hx hy=>by have hy:S.D.pgs[j]? =some y:=hy;rw[hx] at hy;cases hy;exact⟨rfl,[],by simp,fun z hz=>by cases hz⟩,fun m _=>rfl⟩
theorem FZ{W:World}{sb db:Nat}{S:StM}{fp:List Nat}(h:(eSt sb db S fp).holds W){r:PgR}(hr:r∈S.rows):At W r.A (r.p.2.2.map Value.string):=by
 obtain⟨_,mb,RA,rc,EA,ec,ib,tb,fpd,_,_,h3⟩:=h
 exact gC (h3 (eM (S.rows.map dm)) (by simp[stL])).1 hr
theorem m7{S:StM}{c:Nat}{n:Int}(h:SOk S c)(hn:0<=n/\n<(S.D.pgs.length:Int)):bz (fY S n)=true:=by
 have h1:=dD (iA h n)
 have h2:=h.pgs
 have a1:inB n 0 65535=true:=by unfold inB;rw[Bool.and_eq_true,decide_eq_true_eq,decide_eq_true_eq];omega
 have a2:decide (((aH (aG S n)).size:Int)<=60000)=true:=decide_eq_true (by omega)
 show (inB 8 1 10&&(inB 0 0 127&&(inB n 0 65535&&(decide ((([]:List EdT).length:Int)<=64)&&((([]:List EdT).all edR)&&decide (((aH (aG S n)).size:Int)<=60000))))))=true
 rw[a1,a2];decide
theorem jO{l:List EdT}{n:Nat}(h:l.any (dL n)=false){e:EdT}(he:e∈l):0<=e.1/\e.1<(n:Int):=by
 have h1:=(List.any_eq_false.1 h) e he
 unfold dL at h1
 simp only[Bool.or_eq_true,decide_eq_true_eq,not_or] at h1
 omega
theorem Dn(S:StM)(os:List Int)(n:Int)(h:(S.im n).getD false=false):szF (fj S (os++[n]))=szF (fj S os)+(aC (fY S n)).size:=by
 rw[fj,qk,if_neg (by rw[h];decide),List.map_append];exact o9 _ _
theorem DU(S:StM)(os:List Int)(n:Int)(h:(S.im n).getD false=true):eK S (os++[n])=eK S os:=by rw[qk,if_pos h]
theorem GM(S:StM)(os:List Int)(n:Int)(h:(S.im n).getD false=false):eK S (os++[n])=eK S os++[n]:=by rw[qk,if_neg (by rw[h];decide)]
theorem Bi(os:List Int)(n:Int):os.map (Value.int .i64)++[.int .i64 n]=(os++[n]).map (Value.int .i64):=by rw[List.map_append];rfl
theorem JH(S:StM)(os:List Int)(n:Int):os.flatMap (icC S)++icC S n=(os++[n]).flatMap (icC S):=by rw[List.flatMap_append];simp
theorem EX{k l l2:Int}{ss:List ByteArray}(h:bw k l ss=true)(hl:0<=l2/\l2<=2147483647):bw k l2 ss=true:=by
 unfold bw at h |-
 simp only[Bool.and_eq_true,decide_eq_true_eq] at h |-
 obtain⟨a,b,_,_,d⟩:=h
 exact⟨a,b,hl.1,hl.2,d⟩
theorem lR{p:PgS}{l:Int}(h:bK p)(hl:0<=l/\l<=2147483647):bK (iu l p):=⟨EX h.1 hl,h.2⟩
theorem SOk.recs_len{S:StM}{c:Nat}(h:SOk S c):S.recs.length<=1048576:=by
 have h1:=od h.recs
 have h3:=congrArg ByteArray.size h.log
 rw[ck] at h3
 have h2:S.L.length=S.recs.length:=List.length_map ..
 have:=h.lsz
 omega
theorem eh.rows{S S2:StM}{n er:Int}{pg:PgR}(h:eh S n pg S2 er):∀p∈S.rows,p∈S2.rows:=by
 obtain⟨S1,h1,⟨_,rfl⟩|⟨_,_,rfl⟩⟩:=h
 exact h1.rows.1
 exact h1.rows.1
theorem jC(S:StM)(rt:RcT):(bu S rt).1.rows=S.rows/\(bu S rt).1.rr=S.rr/\(bu S rt).1.im=S.im/\(bu S rt).1.told=S.told/\(bu S rt).1.pool=S.pool/\(bu S rt).1.D.pgs=S.D.pgs/\(bu S rt).1.D.fl=S.D.fl:=by
 obtain⟨a,b⟩:=AR S rt.r
 unfold bu
 split<;>exact⟨rfl,rfl,rfl,rfl,rfl,a,b⟩
theorem wS{S:StM}{rt:RcT}(h:(bu S rt).2=0):(bu S rt).1.recs=S.recs++[rt]:=by
 unfold bu at h |-
 split
 rename_i h1;rw[if_pos h1] at h;exact absurd h h1
 rfl
end
section
open Go.RowKit Go.Maps Go.ChangeMaps
theorem yC{S S2:StM}{n er:Int}{pg:PgR}(h:eh S n pg S2 er)(h0:er=0):eh S n pg S2 0:=h0 ▸ h
theorem Jz(sb db:Nat)(S:StM)(r:RecM)(A:Option Addr)(rc:Nat)(c:Nat)(fp:List Nat)(w:World)(hB:(eSt sb db S fp).holds w)(hlt:∀k∈fp,k<w.heap.size)(hok:SOk S c)(hc:c<=800000)(hA:∀W,Upd fp w W->At W A (r.eds.flatMap edC))(hI:r.eds.length<=100000)(hz:∀e∈r.eds,e.2.2.size<=9223372036854775807)(hns:r.note.size<=9223372036854775807):
  Calls Tryz.prog 17 #[po sb 0,.agg #[.int .i64 r.kind,.int .i64 r.xid,.int .i64 r.tbl,sn,sn,.slice A r.eds.length rc,sn,.string r.note]] w (fH sb db S r c fp w):=by
 have st1:St w fp [eSt sb db S fp] w:=St.lend hB (dv _ _ _ _) hlt
 have hpg:=hok.pgs
 go_enter Tryz.func17,Tryz.ntmps17
 have ak:=st1
 refine wq (sqr ?_)
 refine b9 #[vp sb] ak fun bB W1 aB=>?_
 refine b9 #[vi r.kind,vi r.xid,vi r.tbl,sn,sn,.slice A r.eds.length rc,sn,.string r.note] aB fun cX W2 bE=>?_
 refine sqp [.k 4 (vi 0),.k 5 (vi 0)] ?_
 refine aa (wq (wq (sqr (au 1 bE ?_))))
 refine sqv (.bool false) bE (by
   exact sv0 rfl rfl rfl rfl rfl (fun _ _ _ h=>h) fun d b W X cx=>by
    have PJ:d (.tmp 32)=vp sb:=(cx.ou 32)
    simp[go_sem,cx.sees.const,PJ]) fun W6 bP=>?_
 refine sqp [.k 34 (.bool false)] ?_
 refine dF 34 [35,36,37] rfl rfl ?_
 refine bJ 2 8 bP ?_
 refine sqk (.bool (bz r)) bP (fun cx=>⟨_,lK r.kind r.xid r.tbl _ _ r.eds r.note _ (hA _ cx.upd) (by omega) hz hns,(aw (cx.ou 35))⟩) fun W9 cG=>?_
 refine sqp [.k 37 (.bool (!(bz r)))] ?_
 refine sqp [.k 38 (.bool (!(bz r))),.m 39 38] ?_
 refine d5 39 [40,41,42] ?_ rfl (fun hq=>?_) ?_
 rotate_left
 refine sqp [.k 40 (vp cX)] ?_
 refine au 2 cG ?_
 refine sqp [.k 42 (.bool (r.kind==8))] ?_
 exact sqe
 refine c8 ?_
 refine sqp [sPo 43 (!(bz r)) (r.kind==8),.m 44 43] ?_
 refine d5 44 [45,46,47] ?_ rfl (fun hq=>?_) ?_
 rotate_left
 refine sqp [.k 45 (vp cX)] ?_
 refine au 2 cG ?_
 refine sqp [.k 47 (.bool (r.kind==9))] ?_
 exact sqe
 refine c8 ?_
 refine sqp [sPo 48 ((!(bz r))||(r.kind==8)) (r.kind==9)] ?_
 refine aa (wbs (fun zR=>?_) fun zR=>?_)
 have xB:=zR
 simp only[zB] at xB
 refine wq (sqr (sqp [.k 4 (vi 0),.k 5 (vi 1)] ?_))
 refine aa (wp_ret (ai ?_))
 refine bpr (.tuple #[vi 0,vi 1]) (aN Tryz.results17 rpt rpt) ?_
 exact fH.of (.arg (fun hh=>by have h_:=zR;have h1:=hh.1;have h2:=hh.2.1;have h3:=hh.2.2;simp_all)) (hok.mono (by omega)) (cG.pick [0] (by decide) rfl)
 have xB:=zR
 simp only[zB] at xB
 obtain⟨⟨Q9,Ra⟩,Rb⟩:=xB
 refine wp_skip (aa (wq ?_))
 have hda:DoA r:=by have h_:=zR;simp at h_;exact⟨h_.1.1,h_.1.2,h_.2⟩
 refine sqr ?_
 refine bJ 2 8 cG ?_
 refine iC (fun cH cM=> .agg #[vi r.kind,vi r.xid,vi r.tbl,sn,sn,.slice cH r.eds.length cM,sn,.string r.note]) (fun cH cM=>eO 84 3 (.slice cH r.eds.length cM) r.eds.length (r.eds.flatMap edC)) cG (fun cx=>⟨_,(Ck A rc r _ (hA _ cx.upd) hI).mono (by rintro e W1 ⟨A4,c4,rfl,aQ⟩;exact⟨_,_,rfl,aQ⟩),(aw (cx.ou 49))⟩) fun cH cM w9 fw=>?_
 refine aY (n:=8) 2 #[vi r.kind,vi r.xid,vi r.tbl,sn,sn,.slice cH r.eds.length cM,sn,.string r.note] fw fun zh fa=>?_
 refine aa (wq (wq ?_))
 obtain⟨S0,fp28_,hS0,hg28_⟩:=St.rRn (r:=(⟨r,cH,cM⟩:RcT)) fa.u3
 have hok0:SOk S0 c:=hS0 ▸ hok.rr _
 have hev0:Ev S S0:=hS0 ▸ Ev.rr S _
 have hrt0:(⟨r,cH,cM⟩:RcT)∈S0.rr:=by rw[<-hS0];exact List.mem_append_right _ (List.mem_singleton.2 rfl)
 have OX:S0.D.pgs.length=S.D.pgs.length:=hev0.len
 refine sqr (sqp [.k 51 (po cX 5)] ?_)
 refine au 2 hg28_ ?_
 refine sqv (.func (.func 54) #[] #[vp bB]) hg28_ (by
   exact sv0 rfl rfl rfl rfl rfl (fun _ _ _ h=>h) fun d b W X cx=>by
    have oy:d (.tmp 2)=vp bB:=(cx.ou 2)
    simp[go_sem,Instr.makeFunc,oy]) fun OY nr=>?_
 refine sqk (.bool ((r.eds.any (dL S0.D.pgs.length)))) nr (fun cx=>⟨_,D5 _ _ r.eds 54 #[vp bB] (dL S0.D.pgs.length) _ (l6 (CtxV.holdF cx (cx.init 0 _ rfl) rfl) hrt0) hI (by kernel_rfl) (fun W2 k hW=>Ha k.1 k.2.1 k.2.2 bB sb db S0 W2 ((cx.bi 1 rfl).ext hW) (km.ext (qJ (CtxV.holdF cx (cx.init 0 _ rfl) rfl)) hW)),(aT (cx.ou 52) (cx.ou 53))⟩) fun zn dc=>?_
 refine aa (wbs (fun pu=>?_) fun pu=>?_)
 refine wq (sqr (sqp [.k 4 (vi 0),.k 5 (vi 22)] ?_))
 refine aa (wp_ret (ai ?_))
 refine bpr (.tuple #[vi 0,vi 22]) (aN Tryz.results17 rpt rpt) ?_
 exact fH.of (.page hda (by rw[<-OX];exact pu) hev0) (hok0.mono (by omega)) (dc.pick [0] (by decide) rfl)
 refine wp_skip (aa (wq ?_))
 have hin:r.eds.any (dL S.D.pgs.length)=false:=by rw[<-OX];exact pu
 have hro:=d9 hda.1
 have hml:=hro.many
 refine sqr (sqp [.k 6 (sn)] ?_)
 refine aa (wq (sqr ?_))
 refine d3 (fun x_=>pbx x_) (fun iQ=> .map (some iQ)) (fun iQ=>eMx kcI pgX Tryz.prog 3 iQ 0 (fun _=>none)) dc (by
   refine svA fun d b W X cx=>?_
   exact kR rfl rfl rfl rfl (fun _ _ _ _ _=> .intro)) fun iQ IV gW=>?_
 refine d3 (fun x_=>pbx x_) (fun ia=> .map (some ia)) (fun ia=>eMx kcI pgX Tryz.prog 3 ia 0 (fun _=>none)) gW (by
   refine svA fun d b W X cx=>?_
   exact kR rfl rfl rfl rfl (fun _ _ _ _ _=> .intro)) fun ia Fs iw=>?_
 refine sqp [.m 7 55,.m 8 56] ?_
 refine aa (wq (wq (sqr (sqp [.k 57 (po cX 5)] ?_))))
 refine au 2 iw ?_
 refine sqp [.k 59 (vi ((r.eds.length:Int))),.k 60 (vi 0)] ?_
 refine aa (wp_block ?_)
 have hn45:=St.nilrow iw 3
 simp only[List.cons_append,List.nil_append] at hn45
 refine aM (fun t_ mz az W=>∃j:Nat,∃os:List Int,∃m:Nat,∃OA:Option Addr,∃oc:Nat,∃Sj:StM,∃fpj:List Nat,∃mW:Int->Option PgV,∃nW:Nat,∃mN:Int->Option PgV,∃nN:Nat,j<=r.eds.length/\os=cE (r.eds.take j)/\m=os.length/\Ev S Sj/\SOk Sj (c+3*j)/\(⟨r,cH,cM⟩:RcT)∈Sj.rr/\cm (aG S) (r.eds.take j)=0/\DoI (aG S) (bp (aG S) (r.eds.take j)) (eG S r) os mW mN Sj.rows none/\nW<=j/\nN<=2*j/\mz=r.eds.length-j/\az=⟨(ovr (jv az) [(4,4,2,[.slice OA m oc]),(3,10,7,[]),(43,60,0,[vi ((j:Int))]),(0,61,51,[])] t_).toArray,[]⟩/\St w fp [eB bB 31 #[vp sb],eB cX 27 #[vi r.kind,vi r.xid,vi r.tbl,sn,sn,.slice cH r.eds.length cM,sn,.string r.note],eMx kcI pgX Tryz.prog 3 iQ nW (mW),eMx kcI pgX Tryz.prog 3 ia nN (mN),eO 3 1 (.slice OA m oc) m (os.map (Value.int .i64)),eSt sb db Sj fpj] W) (r.eds.length-0) ?_ ?_
 exact⟨0,[],0,none,0,S0,fp28_,(fun _=>none),0,(fun _=>none),0,Nat.zero_le _,rfl,rfl,hev0,hok0,hrt0,rfl,DoI.init _ _ _,Nat.zero_le _,Nat.zero_le _,rfl,(by kernel_rfl),hn45.pk [1,2,3,4,5,0]⟩
 rintro T5 a46 Fo ⟨j,os,m,OA,oc,Sj,fpj,mW,nW,mN,nN,hj,hos,hm,hevj,hokj,hrtj,herr,hIj,hnW,hnN,rfl,hj_,gm⟩
 refine ovz hj_ fun Sr=>?_
 refine wq (sqr (sqp [.k 61 (.bool (decide ((j:Int)<(r.eds.length:Int))))] ?_))
 refine aa (wq (wds (fun PK Od=>?_) fun PK Od=>?_))
 refine wp_skip (aa (wq (wp_block (wq ?_))))
 have hmj:m<=j:=by rw[hm,hos];have h1:=mf (r.eds.take j);rw[List.length_take] at h1;omega
 have hjl:j<r.eds.length:=by omega
 obtain⟨ep,es,eb,hek⟩:=kU (l:=r.eds) (k:=j) (by omega)
 have hke:edR (ep,es,eb)=true:=hro.eds _ (List.mem_of_getElem? hek)
 have hez:eb.size<=9223372036854775807:=by have:=dn hke;dsimp only at this;omega
 have hkn:kcI.ok ep:=by have:=(jL hke).1;dsimp only at this;constructor<;>omega
 have hpr:0<=ep/\ep<(S.D.pgs.length:Int):=jO hin (List.mem_of_getElem? hek)
 refine sqr ?_
 refine sql (.pointer (some ((ad cH).add (j*3)))) gm (fun cx=>ay (e:=84) (m:=j) (sz:=3) rfl (by kernel_rfl) (by kernel_rfl) (cx.ou 58) (cx.ou 60) (by omega) (by omega) (show At _ _ (r.eds.flatMap edC) from l6 (CtxV.holdF cx (cx.init 5 _ rfl) rfl) hrtj) (be (sz:=3) bA (by decide) (by omega))) ?_
 refine sql (.agg #[vi ep,vi es,.string eb]) gm (fun cx=>bH (f:=edC) (m:=j) (sz:=3) (off:=0) (n:=3) rfl (by kernel_rfl) (by kernel_rfl) (cx.ou 62) rfl bA (show At _ _ (r.eds.flatMap edC) from l6 (CtxV.holdF cx (cx.init 5 _ rfl) rfl) hrtj) hek (fun k hk=>match k,hk with|0,_=>rfl|1,_=>rfl|2,_=>rfl|k+3,hk=>absurd hk (by omega))) ?_
 refine cf #[vi 0,vi 0,.string ByteArray.empty] gm fun lr IT kK=>?_
 refine aY (n:=3) 6 #[vi ep,vi es,.string eb] kK fun BD cL=>?_
 refine aa ?_
 refine l8 (fun t_ az W=>∃mW2:Int->Option PgV,∃nW2:Nat,∃mN2:Int->Option PgV,∃nN2:Nat,∃os2:List Int,∃m2:Nat,∃OA2:Option Addr,∃oc2:Nat,∃S2:StM,∃fp2:List Nat,os2=jw os (ep,es,eb)/\m2=os2.length/\Ev S S2/\SOk S2 (c+3*j+3)/\(⟨r,cH,cM⟩:RcT)∈S2.rr/\DoI (aG S) (bp (aG S) (r.eds.take j)) (eG S r) os2 mW2 mN2 S2.rows (some ep)/\nW2<=j+1/\nN2<=2*j+1/\az=⟨(ovr (jv az) [(4,4,2,[.slice OA2 m2 oc2]),(4,11,4,[]),(49,64,31,[])] t_).toArray,[]⟩/\St w fp [eB bB 31 #[vp sb],eB cX 27 #[vi r.kind,vi r.xid,vi r.tbl,sn,sn,.slice cH r.eds.length cM,sn,.string r.note],eB lr 84 #[vi ep,vi es,.string eb],eMx kcI pgX Tryz.prog 3 iQ nW2 (mW2),eMx kcI pgX Tryz.prog 3 ia nN2 (mN2),eO 3 1 (.slice OA2 m2 oc2) m2 (os2.map (Value.int .i64)),eSt sb db S2 fp2] W) ?_ ?_
 refine wq (sqr (sqp [.m 65 7,.k 66 (vp lr)] ?_))
 refine au 6 cL ?_
 refine sql (.tuple #[.agg #[vi (((mW ep).getD ((0:Int),(0:Int),(none:Option Addr),(0:Nat),(0:Nat))).1),vi (((mW ep).getD ((0:Int),(0:Int),(none:Option Addr),(0:Nat),(0:Nat))).2.1),.slice (((mW ep).getD ((0:Int),(0:Int),(none:Option Addr),(0:Nat),(0:Nat))).2.2.1) (((mW ep).getD ((0:Int),(0:Int),(none:Option Addr),(0:Nat),(0:Nat))).2.2.2.1) (((mW ep).getD ((0:Int),(0:Int),(none:Option Addr),(0:Nat),(0:Nat))).2.2.2.2)],.bool ((mW ep).isSome)]) cL (fun cx=>xZ (e:=48) (C:=pgX) (K:=kcI) (x:=ep) rfl (cx.ou 65) (cx.ou 67) (CtxV.mx cx (cx.init 2 _ rfl) rfl) (h0:=(by rfl)) (hx:=hkn) (hk:=show Program.underlying _ _= _ from by kernel_rfl)) ?_
 refine sqp [.m 64 68,.k 69 (.agg #[vi (((mW ep).getD ((0:Int),(0:Int),(none:Option Addr),(0:Nat),(0:Nat))).1),vi (((mW ep).getD ((0:Int),(0:Int),(none:Option Addr),(0:Nat),(0:Nat))).2.1),.slice (((mW ep).getD ((0:Int),(0:Int),(none:Option Addr),(0:Nat),(0:Nat))).2.2.1) (((mW ep).getD ((0:Int),(0:Int),(none:Option Addr),(0:Nat),(0:Nat))).2.2.2.1) (((mW ep).getD ((0:Int),(0:Int),(none:Option Addr),(0:Nat),(0:Nat))).2.2.2.2)]),.k 70 (.bool ((mW ep).isSome))] ?_
 refine cf #[vi 0,vi 0,sn] cL fun Rc BB fq=>?_
 refine aY (n:=3) 7 #[vi (((mW ep).getD ((0:Int),(0:Int),(none:Option Addr),(0:Nat),(0:Nat))).1),vi (((mW ep).getD ((0:Int),(0:Int),(none:Option Addr),(0:Nat),(0:Nat))).2.1),.slice (((mW ep).getD ((0:Int),(0:Int),(none:Option Addr),(0:Nat),(0:Nat))).2.2.1) (((mW ep).getD ((0:Int),(0:Int),(none:Option Addr),(0:Nat),(0:Nat))).2.2.2.1) (((mW ep).getD ((0:Int),(0:Int),(none:Option Addr),(0:Nat),(0:Nat))).2.2.2.2)] fq fun T6 Jb=>?_
 refine sqp [.m 12 70] ?_
 refine aa (wq (sqr (sqp [.m 71 12,.k 72 (.bool (!((mW ep).isSome)))] ?_)))
 refine aa ?_
 rcases Bool.eq_false_or_eq_true ((mW ep).isSome) with qZ|qZ
 refine wp_cond_false (show Act.eval _ _= .bool false from(congrArg Value.bool (by rw[qZ];rfl))) (wp_skip (aa ?_))
 exact⟨mW,nW,mN,nN,os,m,OA,oc,Sj,fpj,(mF (e:=(ep,es,eb)) (hIj.mem.1 (by have h_:=qZ;simpa using h_))).symm,hm,hevj,hokj.mono (by omega),hrtj,(mF (e:=(ep,es,eb)) (hIj.mem.1 (by have h_:=qZ;simpa using h_))) ▸ hIj.old (ep,es,eb) (by have h_:=qZ;simpa using h_),by omega,by omega,(by kernel_rfl),Jb.pk [0,1,6,2,3,4,5]⟩
 refine wp_cond_true (show Act.eval _ _= .bool true from(congrArg Value.bool (by rw[qZ];rfl))) (wq (aE [0,0,2,7,15,31,31,0,191,511] [[0],[],[6],[5],[],[],[],[],[10]] [[],[],[],[8,9],[],[],[],[10],[11]] [[],[],[],[5],[],[],[],[],[10]] [.c 74 (vp sb),.k 75 (vp lr),.c 76 (vi ep),.a 77,.a 73,.a 78,.a 79,.a 13,.n,.a 14] (fun ix o b X=>match ix with|0|1|2=>True|3=>o 77= .tuple #[.agg #[vi ((pgF Sj ep (tB1 (b 77))).1),vi ((pgF Sj ep (tB1 (b 77))).2.1),.slice (sA (tg (tg (b 77) 0) 2)) ((pgF Sj ep (tB1 (b 77))).2.2.length) (sC (tg (tg (b 77) 0) 2))],.bool (tB1 (b 77))]/\X 8=eSx sb db (fun S2=>PaQ Sj ep S2 (tB1 (b 77))) ((X 8).fp)/\X 9=eO 9 1 (.slice (sA (tg (tg (b 77) 0) 2)) ((pgF Sj ep (tB1 (b 77))).2.2.length) (sC (tg (tg (b 77) 0) 2))) ((pgF Sj ep (tB1 (b 77))).2.2.length) ((pgF Sj ep (tB1 (b 77))).2.2.map Value.string)|4=>o 73= .tuple #[.agg #[vi ((pgF Sj ep (tB1 (b 77))).1),vi ((pgF Sj ep (tB1 (b 77))).2.1),.slice (sA (tg (tg (b 77) 0) 2)) ((pgF Sj ep (tB1 (b 77))).2.2.length) (sC (tg (tg (b 77) 0) 2))],.bool (tB1 (b 77))]|5=>o 78= .agg #[vi ((pgF Sj ep (tB1 (b 77))).1),vi ((pgF Sj ep (tB1 (b 77))).2.1),.slice (sA (tg (tg (b 77) 0) 2)) ((pgF Sj ep (tB1 (b 77))).2.2.length) (sC (tg (tg (b 77) 0) 2))]|6=>o 79= .bool (tB1 (b 77))|7=>o 13=vp (pb (b 13))/\X 10=eB (pb (b 13)) 48 #[vi 0,vi 0,sn]|8=>X 11=eB (pb (b 13)) 48 #[vi ((pgF Sj ep (tB1 (b 77))).1),vi ((pgF Sj ep (tB1 (b 77))).2.1),.slice (sA (tg (tg (b 77) 0) 2)) ((pgF Sj ep (tB1 (b 77))).2.2.length) (sC (tg (tg (b 77) 0) 2))]|9=>o 14= .bool (tB1 (b 77))|_=>True) [0,1,2,3,4,6,7,8,9,11] [0,2,3,4,5,6,7,8,9] [(13,7,3,15),(58,4,1,59),(0,0,4,4),(0,5,2,2)] Jb ?_ ?_ ?_))
 exact fun ix _ _ _ _ _ _ hs hb hx h=>match ix,h with
 |3,h=>by dsimp only;rw[<-hs 77 rfl,<-hb 77 rfl,<-hx 8 rfl,<-hx 9 rfl];exact h
 |4,h=>by dsimp only;rw[<-hs 73 rfl,<-hb 77 rfl];exact h
 |5,h=>by dsimp only;rw[<-hs 78 rfl,<-hb 77 rfl];exact h
 |6,h=>by dsimp only;rw[<-hs 79 rfl,<-hb 77 rfl];exact h
 |7,h=>by dsimp only;rw[<-hs 13 rfl,<-hb 13 rfl,<-hx 10 rfl];exact h
 |8,h=>by dsimp only;rw[<-hb 13 rfl,<-hb 77 rfl,<-hx 11 rfl];exact h
 |9,h=>by dsimp only;rw[<-hs 14 rfl,<-hb 77 rfl];exact h
 |0,_|1,_|2,_|_+10,_=>trivial
 refine⟨?_,?_,?_,?_,?_,?_,?_,?_,?_,trivial⟩
 exact xs4 rfl id fun cx=>ae rfl (by kernel_rfl) (cx.ou 2) ((cx.bi 0 rfl).cell 0)
 exact xs4 rfl id fun cx=>ae rfl (by kernel_rfl) (cx.an 1) ((cx.bi 6 rfl).cell 0)
 refine svA fun d b W X cx=>?_
 refine am.call (aq (args:=#[vp sb,vi ep]) rfl cx.sees rfl (by kernel_rfl) (aT (cx.an 0) (cx.an 2))) ?_
 refine(p5 sb db Sj ep (c+3*j) _ _ (CtxV.holdF cx (cx.init 5 _ rfl) rfl) (CtxV.ltF cx (cx.init 5 _ rfl) rfl) hokj (by omega) hkn).mono ?_
 rintro e W1 ⟨ok4,A4,c4,rfl,fp4,aQ⟩
 refine⟨_,rfl,aK (E:=eSt sb db Sj fpj) [eSx sb db (fun S2=>PaQ Sj ep S2 ok4) fp4,eO 9 1 (.slice A4 ((pgF Sj ep ok4).2.2.length) c4) ((pgF Sj ep ok4).2.2.length) ((pgF Sj ep ok4).2.2.map Value.string)] (cx.init 5 _ rfl) rfl rfl aQ (fun o q X' hs hb hv hN=>?_)⟩
 have aJ:=(hv 77 rfl).1;have aR:=(hv 77 rfl).2
 exact⟨aJ.trans (by rw[aR];exact rfl),(by rw[aR];exact fK ((List.cons.inj hN).1)),(by rw[aR];exact(List.cons.inj (List.cons.inj hN).2).1)⟩
 exact sv rfl rfl rfl rfl rfl _ (fun _ _ _ h=>h) (fun b q h=>by rw[h 77 (by decide)]) fun d b W X cx=>cD rfl (dTn (cx.an 3)).1
 exact sv rfl rfl rfl rfl rfl _ (fun _ _ _ h=>h) (fun b q h=>by rw[h 77 (by decide)]) fun d b W X cx=>bC rfl (dTn (cx.an 4)) rfl
 exact sv rfl rfl rfl rfl rfl _ (fun _ _ _ h=>h) (fun b q h=>by rw[h 77 (by decide)]) fun d b W X cx=>bC rfl (dTn (cx.an 4)) rfl
 refine svA fun d b W X cx=>?_
 exact c7 (cs:=#[vi 0,vi 0,sn]) rfl (by kernel_rfl) rfl rfl (fun _ _ _ _ _=> .intro)
 refine svA fun d b W X cx=>?_
 exact bv (n:=3) rfl (dTn (cx.an 7)).1 (dTn (cx.an 5)) (by kernel_rfl) (by kernel_rfl) (by kernel_rfl) cx (dTn (cx.an 7)).2 rfl (nle rfl) (by kernel_rfl) rfl rfl rfl (fun o q X' hs hb hx=>by rw[hb 13,hb 77];exact hx)
 exact sv rfl rfl rfl rfl rfl _ (fun _ _ _ h=>h) (fun b q h=>by rw[h 77 (by decide)]) fun d b W X cx=>cJ rfl (dTn (cx.an 6))
 intro o b X OS hD px fr aD
 obtain⟨ok77_67,pJ⟩:∃z,tB1 (b 77)=z:=⟨_,rfl⟩
 obtain⟨ie,q3⟩:∃z,sA (tg (tg (b 77) 0) 2)=z:=⟨_,rfl⟩
 obtain⟨ig,q6⟩:∃z,sC (tg (tg (b 77) 0) 2)=z:=⟨_,rfl⟩
 obtain⟨Re,q8⟩:∃z,pb (b 13)=z:=⟨_,rfl⟩
 have zS:X 8= _:=(dTn (hD 3 lq)).2.1
 obtain⟨RR,zT⟩:∃z,(X 8).fp=z:=⟨_,rfl⟩
 rw[zT] at zS
 clear zT
 simp only[zS,exq 9 ((dTn (hD 3 lq)).2.2),exq 11 ((dTn (hD 8 lq))),pJ,q3,q6,q8] at px
 simp only[ed 77 ((dTn (hD 3 lq)).1),ed 73 ((dTn (hD 4 lq))),ed 78 ((dTn (hD 5 lq))),ed 79 ((dTn (hD 6 lq))),ed 13 ((dTn (hD 7 lq)).1),ed 14 ((dTn (hD 9 lq))),pJ,q3,q6,q8] at aD
 clear hD zS pJ q3 q6 q8;subst aD;clear o b X
 refine aa (wq (wq ?_))
 obtain⟨S1,hP,hy68_⟩:=px.u7.unx
 have hok1:=hP.ok hokj
 have hev1:=hP.ev hokj
 have hrt1:(⟨r,cH,cM⟩:RcT)∈S1.rr:=by obtain⟨er_,h_,_⟩:=hP;rw[h_.rr];exact hrtj
 refine sqr (sqp [.m 80 14,.k 81 (.bool (!(ok77_67)))] ?_)
 refine aa ?_
 rcases Bool.eq_false_or_eq_true (ok77_67) with nT|nT
 refine wp_cond_false (show Act.eval _ _= .bool false from(congrArg Value.bool (by rw[nT];rfl))) (wp_skip (aa (wq ?_)))
 have hpc:pgF Sj ep ok77_67=aG S ep:=by rw[nT,pgF,if_pos rfl];exact hevj.cur ep hpr.1
 refine sqr (sqp [.m 82 6,.k 83 (vp lr)] ?_)
 refine au 6 hy68_ ?_
 refine d3 (fun x_=>sA x_) (fun va=> .slice va 1 1) (fun va=>eO 3 1 (.slice va 1 1) 1 ([vi ep])) hy68_ (by
   refine svA fun d b W X cx=>?_
   have PL:d (.tmp 84)=vi ep:=(cx.ou 84)
   exact dz (e:=3) (xs:=[vi ep]) rfl (by simp[go_sem,PL]) rfl (by decide) rfl rfl (fun _ _ _ _ _=> .intro)) fun va L6 kM=>?_
 refine tf (fun x_=>sA x_) (fun x_=>sC x_) (fun q9 ra=> .slice q9 (m+1) ra) (fun q9 ra=>eO 3 1 (.slice q9 (m+1) ra) (m+1) ((os++[ep]).map (Value.int .i64))) 5 kM (by
   refine svA fun d b W X cx=>?_
   obtain⟨i0,hi0,hz0,hz1,hz2⟩:=info_parts Tryz.infoIntJ
   refine fg (n:=m) (m:=1) (nm:=m+1) (xs:=os.map (Value.int .i64)) (news:=[vi ep]) (xs':=(os++[ep]).map (Value.int .i64)) rfl (ty:=25) rfl (by kernel_rfl) hi0 hz0 hz1 hz2 rfl (cx.ou 82) cx (cx.init 5 _ rfl) rfl (cx.ou 85) (by first|(simp;done)|(simp;omega)) (At.of_own (cx.ri 10 rfl)) (by simp[Value.oneCell']) (by simp only[maxLen];omega) (by omega) rfl rfl rfl (by omega) ((Bi _ _)) (fun o q X' hs hb hv hx=>?_)
   exact⟨hv,hx⟩) fun q9 ra QE CQ=>?_
 refine sqp [.m 6 86] ?_
 refine aa (aE [0,0,2,0,0,16,0,0,71,511] [[],[],[6],[],[],[6],[9],[9],[3],[4]] [[],[],[],[],[],[],[],[],[11],[12]] [[],[],[],[],[],[],[],[],[3],[4]] [.k 87 (.map (some iQ)),.k 88 (vp lr),.c 89 (vi ep),.k 90 (.map (some ia)),.k 91 (vp lr),.c 92 (vi ep),.c 93 (.agg #[vi ((pgF Sj ep ok77_67).1),vi ((pgF Sj ep ok77_67).2.1),.slice ie ((pgF Sj ep ok77_67).2.2.length) ig]),.c 94 (.agg #[vi ((pgF Sj ep ok77_67).1),vi ((pgF Sj ep ok77_67).2.1),.slice ie ((pgF Sj ep ok77_67).2.2.length) ig]),.n,.n] (fun ix o b X=>match ix with|0|1|2|3|4|5|6|7=>True|8=>X 11=eMx kcI pgX Tryz.prog 3 iQ ((mzP mW ep nW)) (ce mW ep (some ((pgF Sj ep ok77_67).1,(pgF Sj ep ok77_67).2.1,ie,(pgF Sj ep ok77_67).2.2.length,ig)))|9=>X 12=eMx kcI pgX Tryz.prog 3 ia ((mzP mN ep nN)) (ce mN ep (some ((pgF Sj ep ok77_67).1,(pgF Sj ep ok77_67).2.1,ie,(pgF Sj ep ok77_67).2.2.length,ig)))|_=>True) [0,1,2,5,6,7,8,9,10,11,12] [2,5,6,7,8,9] [(87,0,8,95)] CQ ?_ ?_ ?_)
 exact fun ix _ _ _ _ _ _ hs hb hx h=>match ix,h with
 |8,h=>by dsimp only;rw[<-hx 11 rfl];exact h
 |9,h=>by dsimp only;rw[<-hx 12 rfl];exact h
 |0,_|1,_|2,_|3,_|4,_|5,_|6,_|7,_|_+10,_=>trivial
 refine⟨?_,?_,?_,?_,?_,?_,trivial⟩
 exact xs4 rfl id fun cx=>ae rfl (by kernel_rfl) (cx.an 1) ((cx.bi 6 rfl).cell 0)
 exact xs4 rfl id fun cx=>ae rfl (by kernel_rfl) (cx.an 4) ((cx.bi 6 rfl).cell 0)
 exact xs4 rfl id fun cx=>bZ (n:=3) rfl (by kernel_rfl) (by kernel_rfl) (cx.ou 13) (cx.bi 9 rfl) (nle rfl) rfl
 exact xs4 rfl id fun cx=>bZ (n:=3) rfl (by kernel_rfl) (by kernel_rfl) (cx.ou 13) (cx.bi 9 rfl) (nle rfl) rfl
 refine svA fun d b W X cx=>?_
 exact gv (e:=48) (v:=((pgF Sj ep ok77_67).1,(pgF Sj ep ok77_67).2.1,ie,(pgF Sj ep ok77_67).2.2.length,ig)) (.inl rfl) (cx.an 0) (show d _=Kc.enc kcI ep from(cx.an 2)) (show d _=Ec.enc pgX ((pgF Sj ep ok77_67).1,(pgF Sj ep ok77_67).2.1,ie,(pgF Sj ep ok77_67).2.2.length,ig) from(cx.an 6)) cx (cx.init 3 _ rfl) rfl (trivial) (by omega) (hkn) rfl rfl rfl (fun _ _ _ _ _=>id) (hk:=show Program.underlying _ _= _ from by kernel_rfl)
 refine svA fun d b W X cx=>?_
 exact gv (e:=48) (v:=((pgF Sj ep ok77_67).1,(pgF Sj ep ok77_67).2.1,ie,(pgF Sj ep ok77_67).2.2.length,ig)) (.inl rfl) (cx.an 3) (show d _=Kc.enc kcI ep from(cx.an 5)) (show d _=Ec.enc pgX ((pgF Sj ep ok77_67).1,(pgF Sj ep ok77_67).2.1,ie,(pgF Sj ep ok77_67).2.2.length,ig) from(cx.an 7)) cx (cx.init 4 _ rfl) rfl (trivial) (by omega) (hkn) rfl rfl rfl (fun _ _ _ _ _=>id) (hk:=show Program.underlying _ _= _ from by kernel_rfl)
 intro o b X Rf hD xC fr aD
 simp only[exq 11 ((dTn (hD 8 lq))),exq 12 ((dTn (hD 9 lq)))] at xC
 clear hD;subst aD;clear o b X
 refine aa ?_
 obtain⟨fp79_,hg79_⟩:=St.rPf (r:=(⟨(pgF Sj ep ok77_67),ie,ig⟩:PgR)) xC.u6
 have hnm:(ep,es,eb).1∉os:=fun hh=>by have h_:=hIj.mem.2 hh;have h2:=qZ;simp[h_] at h2
 exact⟨ce mW ep (some ((pgF Sj ep ok77_67).1,(pgF Sj ep ok77_67).2.1,ie,(pgF Sj ep ok77_67).2.2.length,ig)),(mzP mW ep nW),ce mN ep (some ((pgF Sj ep ok77_67).1,(pgF Sj ep ok77_67).2.1,ie,(pgF Sj ep ok77_67).2.2.length,ig)),(mzP mN ep nN),(os++[ep]),m+1,q9,ra,(jU S1 (⟨(pgF Sj ep ok77_67),ie,ig⟩:PgR)),fp79_,(kp hnm).symm,by rw[List.length_append,List.length_singleton];omega,(hevj.trans hev1.1 hok.fl).trans (Ev.rows' _ _) hok.fl,hok1.rows _,hrt1,(kp hnm) ▸ (hIj.mono hev1.1.rows).new (ep,es,eb) (by have h_:=qZ;simpa using h_) hpc _ _,by have:=qC mW ep nW;omega,by have:=qC mN ep nN;omega,(by kernel_rfl),hg79_.pk [1,2,4,8,9,3,0]⟩
 refine wp_cond_true (show Act.eval _ _= .bool true from(congrArg Value.bool (by rw[nT];rfl))) (wq (sqr (sqp [.k 4 (vi 0),.k 5 (vi 24)] ?_)))
 refine aa (wp_ret (ai (ai (aV (ai (ai (aV (ai ?_))))))))
 refine bpr (.tuple #[vi 0,vi 24]) (aN Tryz.results17 rpt rpt) ?_
 exact fH.of (.pow hda hin (hevj.trans hev1.1 hok.fl) ((hev1.2.1 nT).elim id fun h=>absurd (by rw[hevj.len];exact hpr) h)) (hok1.mono (by omega)) (hy68_.pick [0] (by decide) rfl)
 rintro a53 OU ⟨mW2,nW2,mN2,nN2,os2,m2,OA2,oc2,S2,fp2,hos2,hm2,hev2,hok2,hrt2,hI2,hnW2,hnN2,hj_,kO⟩
 refine ovz hj_ fun Ss=>?_
 refine wq ?_
 have hme:ep∈os2:=by rw[hos2];exact Dq os (ep,es,eb)
 obtain⟨pg,hpm,hmN,hpi,_⟩:=hI2.n ep hme
 obtain⟨pp,hpp⟩:∃z,(bp (aG S) (r.eds.take j)) ep=z:=⟨_,rfl⟩
 rw[hpp] at hmN hpi
 have hri:bK pp:=hpp ▸ iH (fun m=>iA hok m) herr ep
 refine sqr (sqp [.m 96 8,.k 97 (vp lr)] ?_)
 refine au 2 kO ?_
 refine sql (.agg #[vi pp.1,vi pp.2.1,.slice pg.A pp.2.2.length pg.c]) kO (fun cx=>(c9 (e:=48) (C:=pgX) (K:=kcI) (x:=ep) rfl (cx.ou 96) (cx.ou 98) (CtxV.mx cx (cx.init 4 _ rfl) rfl) (h0:=by kernel_rfl) (hx:=hkn) (hk:=show Program.underlying _ _= _ from by kernel_rfl)).trans (by rw[hmN];rfl)) ?_
 refine bJ 2 3 kO ?_
 refine iC (fun ew ey=> .tuple #[.agg #[vi ((doR pp (ep,es,eb) 1).1),vi ((doR pp (ep,es,eb) 1).2.1),.slice ew ((doR pp (ep,es,eb) 1).2.2.length) ey],vi ((doE pp (ep,es,eb) 1))]) (fun ew ey=>eO 9 1 (.slice ew ((doR pp (ep,es,eb) 1).2.2.length) ey) ((doR pp (ep,es,eb) 1).2.2.length) ((doR pp (ep,es,eb) 1).2.2.map Value.string)) kO (fun cx=>⟨_,(x4 (s5 pp.1 pp.2.1 _ _ pp.2.2 ep es eb 1 _ (hpi ▸ FZ (CtxV.holdF cx (cx.init 6 _ rfl) rfl) hpm) hri.1 (dW hri.1) hez)).mono (by rintro e W1 ⟨A4,c4,rfl,ho,hx⟩;exact⟨_,_,rfl,St.one hx (cg ho)⟩),(dG (cx.ou 99) (cx.ou 100) (cx.co _))⟩) fun ew ey L7 kN=>?_
 refine sqp [.m 95 101,.k 102 (.agg #[vi ((doR pp (ep,es,eb) 1).1),vi ((doR pp (ep,es,eb) 1).2.1),.slice ew ((doR pp (ep,es,eb) 1).2.2.length) ey]),.k 103 (vi ((doE pp (ep,es,eb) 1)))] ?_
 refine cf #[vi 0,vi 0,sn] kN fun Rg Rh xD=>?_
 refine aY (n:=3) 8 #[vi ((doR pp (ep,es,eb) 1).1),vi ((doR pp (ep,es,eb) 1).2.1),.slice ew ((doR pp (ep,es,eb) 1).2.2.length) ey] xD fun IZ kd=>?_
 refine sqp [.m 16 103] ?_
 refine aa (wq (wq (sqr (sqp [.m 104 16,.k 105 (.bool ((doE pp (ep,es,eb) 1) != 0))] ?_))))
 refine aa (wbs (fun kz=>?_) fun kz=>?_)
 have C4:=bne_iff_ne.1 kz
 refine wq (sqr (sqp [.m 106 16,.k 4 (vi 0),.m 5 106] ?_))
 refine aa (wp_ret (ai (aV (ai (ai (aV (ai ?_)))))))
 refine bpr (.tuple #[vi 0,vi ((doE pp (ep,es,eb) 1))]) (aN Tryz.results17 rpt rpt) ?_
 exact fH.of (by have h_:=DoQ.err (S:=S) (r:=r) hda hin hev2 (by rw[s8 hek herr (by rw[hpp];simpa using kz)];rw[hpp];simpa using kz);rw[s8 hek herr (by rw[hpp];simpa using kz),hpp] at h_;exact h_) (hok2.mono (by omega)) (kd.pick [6] (by decide) rfl)
 have C4:=bne_eq_false_iff_eq.1 kz
 refine wp_skip (aa ?_)
 have hd0:doE pp (ep,es,eb) 1=0:=by simpa using kz
 have hd1:doE ((bp (aG S) (r.eds.take j)) (ep,es,eb).1) (ep,es,eb) 1=0:=by rw[hpp];exact hd0
 obtain⟨fp100_,hg100_⟩:=St.rPf (r:=(⟨iu (eG S r) (doR pp (ep,es,eb) 1),ew,ey⟩:PgR)) kd.u6.u7
 refine sqr (sqp [.m 107 8,.k 108 (vp lr)] ?_)
 refine au 3 hg100_ ?_
 refine bJ 7 3 hg100_ ?_
 refine sqc (eMx kcI pgX Tryz.prog 3 ia ((mzP mN2 ep nN2)) (ce mN2 ep (some ((doR pp (ep,es,eb) 1).1,(doR pp (ep,es,eb) 1).2.1,ew,(doR pp (ep,es,eb) 1).2.2.length,ey)))) 5 hg100_ (by
   refine svA fun d b W X cx=>?_
   exact gv (e:=48) (v:=((doR pp (ep,es,eb) 1).1,(doR pp (ep,es,eb) 1).2.1,ew,(doR pp (ep,es,eb) 1).2.2.length,ey)) (.inl rfl) (cx.ou 107) (show d _=Kc.enc kcI ep from(cx.ou 109)) (show d _=Ec.enc pgX ((doR pp (ep,es,eb) 1).1,(doR pp (ep,es,eb) 1).2.1,ew,(doR pp (ep,es,eb) 1).2.2.length,ey) from(cx.ou 110)) cx (cx.init 5 _ rfl) rfl (trivial) (by omega) (hkn) rfl rfl rfl (fun _ _ _ _ _=>id) (hk:=show Program.underlying _ _= _ from by kernel_rfl)) fun Su MC=>?_
 refine av (aa (sqr (sqp [sI 111 ((j:Int)+1) (by omega),.m 60 111] ?_)))
 refine aa ?_
 have hev3:Ev S (jU S2 (⟨iu (eG S r) (doR pp (ep,es,eb) 1),ew,ey⟩:PgR)):=hev2.trans (Ev.rows' _ _) hok.fl
 have hok3:=hok2.rows (⟨iu (eG S r) (doR pp (ep,es,eb) 1),ew,ey⟩:PgR)
 have hI3:DoI (aG S) (bp (aG S) (r.eds.take (j+1))) (eG S r) os2 (mW2) (ce mN2 ep (some ((doR pp (ep,es,eb) 1).1,(doR pp (ep,es,eb) 1).2.1,ew,(doR pp (ep,es,eb) 1).2.2.length,ey))) (jU S2 (⟨iu (eG S r) (doR pp (ep,es,eb) 1),ew,ey⟩:PgR)).rows none:=by rw[ij hek,xS];exact hI2.edit hme (by rw[hpp];exact nX hd0) _ _
 refine⟨r.eds.length-((j+1)),by omega,?_⟩
 exact⟨(j+1),os2,m2,OA2,oc2,(jU S2 (⟨iu (eG S r) (doR pp (ep,es,eb) 1),ew,ey⟩:PgR)),fp100_,mW2,nW2,ce mN2 ep (some ((doR pp (ep,es,eb) 1).1,(doR pp (ep,es,eb) 1).2.1,ew,(doR pp (ep,es,eb) 1).2.2.length,ey)),(mzP mN2 ep nN2),by omega,by rw[ij hek,sq,<-hos];exact hos2,hm2,hev3,hok3.mono (by omega),hrt2,yw hek herr hd1,hI3,by omega,by have:=qC mN2 ep nN2;omega,rfl,(by kernel_rfl),MC.pk [1,2,4,5,6,0]⟩
 refine wp_exit (al (al (bh (aa (wq ?_)))))
 have hje:j=r.eds.length:=by omega
 have hI9:DoI (aG S) (bp (aG S) r.eds) (eG S r) os mW mN Sj.rows none:=by have h_:=hIj;rw[hje,List.take_length] at h_;exact h_
 have hosF:os=cE r.eds:=by rw[hos,hje,List.take_length]
 have her9:cm (aG S) r.eds=0:=by have h_:=herr;rw[hje,List.take_length] at h_;exact h_
 have hmo:m<=64:=by have h1:=mf r.eds;rw[hm,hosF];omega
 have aD:=eU hda.1
 have hlzj:Sj.D.log.size<=1048576:=hokj.lsz
 have hpro:∀n∈os,0<=n/\n<(S.D.pgs.length:Int):=fun n hn=>by rw[hosF] at hn;obtain⟨x,hx,rfl⟩:=ko.1 hn;exact jO hin hx
 refine sqr ?_
 refine bJ 1 8 gm ?_
 refine sqk (.string (aC r)) gm (fun cx=>⟨_,jT r.kind r.xid r.tbl _ _ r.eds r.note _ (l6 (CtxV.holdF cx (cx.init 5 _ rfl) rfl) hrtj) (by omega) hz hns,(aw (cx.ou 112))⟩) fun PG zN=>?_
 refine sqp [.k 114 (vi (((aC r).size:Int))),.m 17 114] ?_
 refine aa (wq (sqr (sqp [.k 18 (sn)] ?_)))
 refine aa (wq (wq (sqr (sqp [.m 115 6,.k 116 (vi ((m:Int))),.k 117 (vi 0)] ?_))))
 refine aa (wp_block ?_)
 have hn116:=fm zN 27 8
 simp only[List.cons_append,List.nil_append] at hn116
 refine aM (fun t_ mz az W=>∃i:Nat,∃g:Nat,∃GA:Option Addr,∃gc:Nat,∃z:Int,∃fpi:List Nat,i<=m/\g=(eK S (os.take i)).length/\z=((aC r).size:Int)+(szF (fj S (os.take i)):Int)/\(0<=z/\z<=200000*((i:Int)+1))/\mz=m-i/\az=⟨(ovr (jv az) [(17,17,0,[vi z,.slice GA g gc]),(1,20,4,[]),(93,117,0,[vi ((i:Int))]),(0,118,30,[])] t_).toArray,[]⟩/\St w fp [eB bB 31 #[vp sb],eB cX 27 #[vi r.kind,vi r.xid,vi r.tbl,sn,sn,.slice cH r.eds.length cM,sn,.string r.note],eMx kcI pgX Tryz.prog 3 iQ nW (mW),eMx kcI pgX Tryz.prog 3 ia nN (mN),eO 3 1 (.slice OA m oc) m (os.map (Value.int .i64)),eO 27 8 (.slice GA g gc) g ((eK S (os.take i)).flatMap (icC S)),eSt sb db Sj fpi] W) (m-0) ?_ ?_
 exact⟨0,0,none,0,((aC r).size:Int),fpj,Nat.zero_le _,rfl,by show _= _+((0:Nat):Int);omega,by omega,rfl,(by kernel_rfl),hn116.pk [0,1,2,3,4,6,5]⟩
 rintro Sv a117 Sw ⟨i,g,GA,gc,z,fpi,hi,hg,hz1,hz2,rfl,hj_,rd⟩
 refine ovz hj_ fun RS=>?_
 refine wq (sqr (sqp [.k 118 (.bool (decide ((i:Int)<(m:Int))))] ?_))
 refine aa (wq (wds (fun vb zU=>?_) fun vb zU=>?_))
 refine wp_skip (aa (wq (wp_block (wq ?_))))
 obtain⟨nn,hnn⟩:∃n,os[i]? =some n:=⟨_,List.getElem?_eq_getElem (by omega)⟩
 have hno:nn∈os:=List.mem_of_getElem? hnn
 have hpn:=hpro nn hno
 have hkn:kcI.ok nn:=by constructor<;>omega
 have htk:os.take (i+1)=os.take i++[nn]:=by rw[List.take_add_one,hnn];rfl
 refine sqr ?_
 refine sql (.pointer (some ((ad OA).add i))) rd (fun cx=>bG (e:=3) (m:=i) rfl (by kernel_rfl) (by kernel_rfl) (cx.ou 115) (cx.ou 117) (by omega) (by omega) (At.of_own (cx.ri 4 rfl)) (by rw[List.length_map];omega)) ?_
 refine sql (vi nn) rd (fun cx=>ae rfl (by kernel_rfl) (cx.ou 119) (At.cellAd (At.of_own (cx.ri 4 rfl)) ((List.getElem?_map ..).trans (by rw[hnn];rfl)))) ?_
 refine sqp [.m 20 120] ?_
 refine aa (wq ?_)
 obtain⟨⟨hrw1,hrr1⟩,mb1,RA1,rc1,EA1,ec1,ib1,tb1,fpd1,hv123_⟩:=rd.u6.unf
 refine sqr (au 10 hv123_ ?_)
 refine sqp [.k 122 (vp sb),.k 123 (po sb 6)] ?_
 refine au 0 hv123_ ?_
 refine sqp [.m 125 20] ?_
 refine sql (.bool (((Sj.im nn).getD false))) hv123_ (fun cx=>c9 (e:=4) (C:=ecB) (K:=kcI) (x:=nn) rfl (cx.ou 124) (cx.ou 125) (CtxV.mx cx (cx.init 7 _ rfl) rfl) (h0:=(by rfl)) (hx:=hkn) (hk:=show Program.underlying _ _= _ from by kernel_rfl)) ?_
 refine sqp [.k 127 (.bool (!(((Sj.im nn).getD false))))] ?_
 refine aa ?_
 rcases Bool.eq_false_or_eq_true (((Sj.im nn).getD false)) with vc|vc
 refine wp_cond_false (show Act.eval _ _= .bool false from(congrArg Value.bool (by rw[vc];rfl))) (wp_skip (av (aa (sqr (sqp [sI 147 ((i:Int)+1) (by omega),.m 117 147] ?_)))))
 refine aa ?_
 obtain⟨fp134_,hk134_⟩:=St.stf (S:=Sj) (hv123_) (hrw1) (hrr1)
 have him:(S.im nn).getD false=true:=by rw[<-hevj.im];simpa using vc
 have hnd1:eK S (os.take (i+1))=eK S (os.take i):=by rw[htk];exact DU S _ _ him
 rw[<-hnd1] at hk134_
 refine⟨m-((i+1)),by omega,?_⟩
 exact⟨(i+1),g,GA,gc,z,fp134_,by omega,by rw[hnd1];exact hg,by rw[fj,hnd1];exact hz1,by omega,rfl,(by kernel_rfl),hk134_.pk [1,2,3,4,5,6,0]⟩
 refine wp_cond_true (show Act.eval _ _= .bool true from(congrArg Value.bool (by rw[vc];rfl))) (wq ?_)
 have him:(S.im nn).getD false=false:=by rw[<-hevj.im];simpa using vc
 have hnd1:eK S (os.take (i+1))=eK S (os.take i)++[nn]:=by rw[htk];exact GM S _ _ him
 obtain⟨pg,hpm,hmW,hpi⟩:=hI9.w nn hno
 have hri:=iA hok nn
 have hbz:=dD hri
 have hgi:g<=i:=by rw[hg];have h1:=oW S (os.take i);rw[List.length_take] at h1;omega
 have hfi:=eU (m7 hok hpn)
 refine sqr (sqp [.m 129 7,.m 130 20] ?_)
 refine sql (.agg #[vi ((aG S nn).1),vi ((aG S nn).2.1),.slice pg.A ((aG S nn).2.2.length) pg.c]) hv123_ (fun cx=>(c9 (e:=48) (C:=pgX) (K:=kcI) (x:=nn) rfl (cx.ou 129) (cx.ou 130) (CtxV.mx cx (cx.init 12 _ rfl) rfl) (h0:=by kernel_rfl) (hx:=hkn) (hk:=show Program.underlying _ _= _ from by kernel_rfl)).trans (by rw[hmW];rfl)) ?_
 refine sqk (.tuple #[.string (aH (aG S nn)),vi 0]) hv123_ (fun cx=>⟨_,nd (mt hri) _ _ _ (hpi ▸ gC (CtxV.holdF cx (cx.init 3 _ rfl) rfl) hpm) (dW hri.1),(aw (cx.ou 131))⟩) fun Sy MD=>?_
 refine sqp [.m 128 132,.k 133 (.string (aH (aG S nn))),.k 134 (vi 0),.m 21 133,.m 22 134] ?_
 refine aa (wq (sqr (sqp [.m 135 20,.m 136 21,.k 137 (.agg #[vi 8,vi 0,vi nn,sn,sn,sn,sn,.string (aH (aG S nn))])] ?_)))
 refine cf #[vi 0,vi 0,vi 0,sn,sn,sn,sn,.string ByteArray.empty] MD fun Qa Sz ME=>?_
 refine aY (n:=8) 16 #[vi 8,vi 0,vi nn,sn,sn,sn,sn,.string (aH (aG S nn))] ME fun SB FE=>?_
 refine aa (wq (sqr (sqp [.m 138 18] ?_)))
 refine bJ 16 8 FE ?_
 refine ms 27 8 1 [vi 8,vi 0,vi nn,sn,sn,sn,sn,.string (aH (aG S nn))] FE (@fun d b W X cx=>by have Oe:d (.tmp 139)= .agg #[vi 8,vi 0,vi nn,sn,sn,sn,sn,.string (aH (aG S nn))]:=(cx.ou 139);simp[go_sem,Oe]) fun PM PN mS=>?_
 refine vP (g+1) ((eK S (os.take (i+1))).flatMap (icC S)) 15 mS Tryz.infoRecJ (fun cx=>(At.of_ownN (cx.ri 17 rfl))) (jG:=(by rw[hnd1];exact JH _ _ _)) fun Iq Ir PI uZ=>?_
 refine sqp [.m 18 141] ?_
 refine aa (sqr (sqp [.m 142 17] ?_))
 refine bJ 16 8 uZ ?_
 refine sqk (.string (aC (fY S nn))) uZ (fun cx=>⟨_,jT 8 0 nn none 0 [] (aH (aG S nn)) _ (fun j u h=>by cases j<;>cases h) (by decide) (fun e he=>by cases he) (by omega),(aw (cx.ou 143))⟩) fun SC MF=>?_
 refine sqp [.k 145 (vi (((aC (fY S nn)).size:Int))),sI 146 (z+((aC (fY S nn)).size:Int)) (by omega),.m 17 146] ?_
 refine av (aa (sqr (sqp [sI 147 ((i:Int)+1) (by omega),.m 117 147] ?_)))
 refine aa ?_
 obtain⟨fp162_,hk162_⟩:=St.stf (S:=Sj) (MF) (hrw1) (hrr1)
 refine⟨m-((i+1)),by omega,?_⟩
 exact⟨(i+1),(g+1),Iq,Ir,(z+((aC (fY S nn)).size:Int)),fp162_,by omega,by rw[hnd1,List.length_append,hg];rfl,by rw[htk,Dn S _ _ him];omega,by omega,rfl,(by kernel_rfl),hk162_.pk [1,2,3,4,5,6,0]⟩
 refine wp_exit (al (al (bh (aa (wq (wq ?_))))))
 have hie:i=m:=by omega
 have hto:os.take i=os:=List.take_of_length_le (by omega)
 rw[hto] at hg hz1 rd
 have hgm:g<=64:=by have h1:=oW S os;omega
 have hnz:j6 S r=Sj.D.log.size+z.toNat:=by rw[j6,<-hosF,hevj.log,hz1];omega
 obtain⟨⟨hrw1,hrr1⟩,mb1,RA1,rc1,EA1,ec1,ib1,tb1,fpd1,hv163_⟩:=rd.u6.unf
 refine sqr (au 10 hv163_ ?_)
 refine sqp [.k 149 (vp sb),.k 150 (vp sb)] ?_
 refine au 0 hv163_ ?_
 refine sqk (.string Sj.D.log) hv163_ (fun cx=>⟨_,jz db Sj.D _ (fe (CtxV.holdF cx (cx.init 9 _ rfl) rfl)),(aw (cx.ou 151))⟩) fun PO vd=>?_
 refine sqp [.k 153 (vi ((Sj.D.log.size:Int))),.m 154 17,sI 155 ((Sj.D.log.size:Int)+z) (by omega),.k 156 (.bool (decide (1048576<(Sj.D.log.size:Int)+z)))] ?_
 refine aa (wds (fun C5 MG=>?_) fun C5 MG=>?_)
 refine wq (sqr (sqp [.k 4 (vi 0),.k 5 (vi 31)] ?_))
 refine aa (wp_ret (ai ?_))
 refine bpr (.tuple #[vi 0,vi 31]) (aN Tryz.results17 rpt rpt) ?_
 obtain⟨fp176_,hk176_⟩:=St.stf (S:=Sj) (vd) (hrw1) (hrr1)
 exact fH.of (.full hda hin hevj her9 (by have h_:=C5;simp at h_;omega)) (hokj.mono (by omega)) (hk176_.pick [0] (by decide) rfl)
 refine wp_skip (aa (wq (wq ?_)))
 have hfit:j6 S r<=1048576:=by have h_:=C5;simp at h_;omega
 obtain⟨fp177_,hk177_⟩:=St.stf (S:=Sj) (vd) (hrw1) (hrr1)
 refine sqr (sqp [.m 157 18,.k 158 (vi ((g:Int))),.k 159 (vi 0)] ?_)
 refine aa (wp_block ?_)
 refine aM (fun t_ mz az W=>∃k:Nat,∃Sk:StM,∃fpk:List Nat,k<=g/\(∀S9 er,ApI Sk ((fj S os).drop k) S9 er->ApI Sj (fj S os) S9 er)/\SOk Sk (c+200+k)/\(⟨r,cH,cM⟩:RcT)∈Sk.rr/\Sk.rows=Sj.rows/\Sk.recs.length=S.recs.length+k/\Sk.D.pgs.length=S.D.pgs.length/\mz=g-k/\az=⟨(ovr (jv az) [(4,4,2,[]),(19,25,2,[]),(132,159,0,[vi ((k:Int))]),(0,160,16,[])] t_).toArray,[]⟩/\St w fp [eB bB 31 #[vp sb],eB cX 27 #[vi r.kind,vi r.xid,vi r.tbl,sn,sn,.slice cH r.eds.length cM,sn,.string r.note],eMx kcI pgX Tryz.prog 3 iQ nW (mW),eMx kcI pgX Tryz.prog 3 ia nN (mN),eO 3 1 (.slice OA m oc) m (os.map (Value.int .i64)),eO 27 8 (.slice GA g gc) g ((eK S os).flatMap (icC S)),eSt sb db Sk fpk] W) (g-0) ?_ ?_
 exact⟨0,Sj,fp177_,Nat.zero_le _,fun S9 er h=>h,hokj.mono (by omega),hrtj,rfl,by rw[hevj.recs];rfl,hevj.len,rfl,(by kernel_rfl),hk177_.pk [1,2,3,4,5,6,0]⟩
 rintro SD a181 SF ⟨k,Sk,fpk,hk,hcont,hokk,hrtk,hrowk,hreck,hpk,rfl,hj_,oD⟩
 refine ovz hj_ fun RT=>?_
 refine wq (sqr (sqp [.k 160 (.bool (decide ((k:Int)<(g:Int))))] ?_))
 refine aa (wq (wds (fun Of MH=>?_) fun Of MH=>?_))
 refine wp_skip (aa (wq (wp_block (wq ?_))))
 obtain⟨nn,hnn⟩:∃n,(eK S os)[k]? =some n:=⟨_,List.getElem?_eq_getElem (by omega)⟩
 have hno:nn∈os:=sY (List.mem_of_getElem? hnn)
 have hpn:=hpro nn hno
 have hkn:kcI.ok nn:=by constructor<;>omega
 have hdr:(fj S os).drop k=fY S nn::(fj S os).drop (k+1):=by rw[List.drop_eq_getElem_cons (by rw[fj,List.length_map];omega)];congr 1;exact(List.getElem?_eq_some_iff.1 ((List.getElem?_map ..).trans (by rw[hnn];rfl))).2
 have hir:=m7 hok hpn
 refine sqr ?_
 refine sql (.pointer (some ((ad GA).add (k*8)))) oD (fun cx=>ay (e:=27) (m:=k) (sz:=8) rfl (by kernel_rfl) (by kernel_rfl) (cx.ou 157) (cx.ou 159) (by omega) (by omega) (At.of_ownN (cx.ri 5 rfl)) (be (sz:=8) (Bn S) (by decide) (by omega))) ?_
 refine sql (.agg #[vi 8,vi 0,vi nn,sn,sn,sn,sn,.string ((aH (aG S nn)))]) oD (fun cx=>bH (f:=(icC S)) (m:=k) (sz:=8) (off:=0) (n:=8) rfl (by kernel_rfl) (by kernel_rfl) (cx.ou 161) rfl (Bn S) (At.of_ownN (cx.ri 5 rfl)) hnn (fun k hk=>match k,hk with|0,_=>rfl|1,_=>rfl|2,_=>rfl|3,_=>rfl|4,_=>rfl|5,_=>rfl|6,_=>rfl|7,_=>rfl|k+8,hk=>absurd hk (by omega))) ?_
 refine cf #[vi 0,vi 0,vi 0,sn,sn,sn,sn,.string ByteArray.empty] oD fun KO SG MI=>?_
 refine aY (n:=8) 7 #[vi 8,vi 0,vi nn,sn,sn,sn,sn,.string ((aH (aG S nn)))] MI fun SH MJ=>?_
 refine aa (wq (wq ?_))
 have hn188:=fm MJ 84 3
 simp only[List.cons_append,List.nil_append] at hn188
 obtain⟨Sq,fp189_,hSq,hg189_⟩:=St.rRn (r:=(rcI (fY S nn))) hn188.u6.u8
 have hokq:SOk Sq (c+200+k):=hSq ▸ hokk.rr _
 have hrtq:rcI (fY S nn)∈Sq.rr:=by rw[<-hSq];exact List.mem_append_right _ (List.mem_singleton.2 rfl)
 refine sqr (au 1 hg189_ ?_)
 refine bJ 7 8 hg189_ ?_
 refine bN (fun X_=>X_.fp) (vi ((bu Sq (rcI (fY S nn))).2)) (fun FF=>eSt sb db ((bu Sq (rcI (fY S nn))).1) FF) 0 hg189_ (by
   refine svA fun d b W X cx=>?_
   refine am.call (aq (args:=#[vp sb,.agg #[vi 8,vi 0,vi nn,sn,sn,sn,sn,.string ((aH (aG S nn)))]]) rfl cx.sees rfl (by kernel_rfl) (aT (cx.ou 163) (cx.ou 164))) ?_
   refine(nH sb db Sq (rcI (fY S nn)) (c+200+k) _ _ (CtxV.holdF cx (cx.init 0 _ rfl) rfl) (CtxV.ltF cx (cx.init 0 _ rfl) rfl) hokq hir hrtq).mono ?_
   rintro e W1 ⟨rfl,fp4,aQ⟩
   refine⟨_,rfl,aK (E:=eSt sb db Sq fp189_) [eSt sb db (bu Sq (rcI (fY S nn))).1 fp4] (cx.init 0 _ rfl) rfl rfl aQ (fun o q X' hs hb hv hN=>?_)⟩
   have aJ:=(hv 165 rfl).1;have aR:=(hv 165 rfl).2
   exact⟨aJ.trans rfl,gP ((List.cons.inj hN).1)⟩) fun FF PP oE=>?_
 refine sqp [.m 26 165] ?_
 refine aa (wq (sqr (sqp [.m 166 26,.k 167 (.bool (((bu Sq (rcI (fY S nn))).2) != 0))] ?_)))
 refine aa (wbs (fun rS=>?_) fun rS=>?_)
 have MK:=bne_iff_ne.1 rS
 refine wq (sqr (sqp [.m 168 26,.k 4 (vi 0),.m 5 168] ?_))
 refine aa (wp_ret (ai (aV (ai (ai (aV (ai ?_)))))))
 refine bpr (.tuple #[vi 0,vi ((bu Sq (rcI (fY S nn))).2)]) (aN Tryz.results17 rpt rpt) ?_
 exact fH.of (.img hda hin hevj ⟨_,hokj⟩ her9 hfit (by rw[<-hosF];refine hcont _ _ ?_;rw[hdr];have h_:=ApI.bad (S:=Sk) (l:=(fj S os).drop (k+1)) (Sk.rr++[rcI (fY S nn)]) (by rw[hSq];simpa using rS);rw[hSq] at h_;exact h_) (by simpa using rS)) ((hokq.append hir).mono (by omega)) (oE.pick [0] (by decide) rfl)
 have MK:=bne_eq_false_iff_eq.1 rS
 refine wp_skip (aa ?_)
 have he0:(bu Sq (rcI (fY S nn))).2=0:=by simpa using rS
 obtain⟨S3,hS3⟩:∃z,(bu Sq (rcI (fY S nn))).1=z:=⟨_,rfl⟩
 rw[hS3] at oE
 have hok3:SOk S3 (c+200+k):=hS3 ▸ hokq.append hir
 have hni3:=hok3.ni
 obtain⟨⟨hrw3,hrr3⟩,mb3,RA3,rc3,EA3,ec3,ib3,tb3,fpd3,hv200_⟩:=oE.unf
 refine aE [0,1,3,7,0,16,63] [[10],[],[],[0],[],[16],[7]] [[],[],[],[],[],[],[17]] [[],[],[],[],[],[],[7]] [.c 169 (vp sb),.k 170 (vp sb),.k 171 (po sb 6),.c 172 (.map (some ib3)),.k 173 (po KO 2),.c 174 (vi nn),.n] (fun ix o b X=>match ix with|0|1|2|3|4|5=>True|6=>X 17=eMx kcI ecB Tryz.prog 3 ib3 ((mzP S3.im nn S3.ni)) (ce S3.im nn (some true))|_=>True) [0,1,2,3,4,5,6,8,9,10,11,12,13,14,15,16,17] [0,3,5,6] [(169,0,6,175)] hv200_ ?_ ?_ ?_
 exact fun ix _ _ _ _ _ _ hs hb hx h=>match ix,h with
 |6,h=>by dsimp only;rw[<-hx 17 rfl];exact h
 |0,_|1,_|2,_|3,_|4,_|5,_|_+7,_=>trivial
 refine⟨?_,?_,?_,?_,trivial⟩
 exact xs4 rfl id fun cx=>ae rfl (by kernel_rfl) (cx.ou 2) ((cx.bi 10 rfl).cell 0)
 exact xs4 rfl id fun cx=>ae rfl (by kernel_rfl) (cx.an 2) ((cx.bi 0 rfl).cell 6)
 exact xs4 rfl id fun cx=>ae rfl (by kernel_rfl) (cx.an 4) ((cx.bi 16 rfl).cell 2)
 refine svA fun d b W X cx=>?_
 exact gv (e:=4) (v:=true) (.inl rfl) (cx.an 3) (show d _=Kc.enc kcI nn from(cx.an 5)) (show d _=Ec.enc ecB true from(cx.co _)) cx (cx.init 7 _ rfl) rfl (trivial) (by omega) (hkn) rfl rfl rfl (fun _ _ _ _ _=>id) (hk:=show Program.underlying _ _= _ from by kernel_rfl)
 intro o b X SI hD FG fr aD
 simp only[exq 17 ((dTn (hD 6 lq)))] at FG
 clear hD;subst aD;clear o b X
 refine av (aa (sqr (sqp [sI 175 ((k:Int)+1) (by omega),.m 159 175] ?_)))
 refine aa ?_
 obtain⟨fp204_,hk204_⟩:=St.stf (S:=(imS S3 nn)) (FG.u16.u7.u7.u7.u7.u7.u7.u7) (hrw3) (hrr3)
 refine⟨g-((k+1)),by omega,?_⟩
 exact⟨(k+1),(imS S3 nn),fp204_,by omega,fun S9 er h=>hcont S9 er (by rw[hdr];exact ApI.cons (Sk.rr++[rcI (fY S nn)]) (by rw[hSq];exact he0) (by rw[hSq,hS3];exact h)),(hok3.im nn).mono (by omega),by show _∈S3.rr;rw[<-hS3,(jC _ _).2.1,<-hSq];exact List.mem_append_left _ hrtk,by show S3.rows= _;rw[<-hS3,(jC _ _).1,<-hSq];exact hrowk,by show S3.recs.length= _;rw[<-hS3,wS he0,List.length_append,<-hSq];show Sk.recs.length+1= _;omega,by show S3.D.pgs.length= _;rw[<-hS3,(jC _ _).2.2.2.2.2.1,<-hSq];exact hpk,rfl,(by kernel_rfl),hk204_.pk [1,2,3,4,5,6,0]⟩
 refine wp_exit (al (al (bh (aa (wq (wq ?_))))))
 have hai:ApI Sj (fj S os) Sk 0:=hcont _ _ (by rw[List.drop_of_length_le (by rw[fj,List.length_map];omega)];exact ApI.nil _)
 refine sqr (au 0 oD ?_)
 refine bJ 1 8 oD ?_
 refine bN (fun X_=>X_.fp) (vi ((bu Sk (⟨r,cH,cM⟩:RcT)).2)) (fun zV=>eSt sb db ((bu Sk (⟨r,cH,cM⟩:RcT)).1) zV) 6 oD (by
   refine svA fun d b W X cx=>?_
   refine am.call (aq (args:=#[vp sb,.agg #[vi r.kind,vi r.xid,vi r.tbl,sn,sn,.slice cH r.eds.length cM,sn,.string r.note]]) rfl cx.sees rfl (by kernel_rfl) (aT (cx.ou 176) (cx.ou 177))) ?_
   refine(nH sb db Sk (⟨r,cH,cM⟩:RcT) (c+200+k) _ _ (CtxV.holdF cx (cx.init 6 _ rfl) rfl) (CtxV.ltF cx (cx.init 6 _ rfl) rfl) hokk hda.1 hrtk).mono ?_
   rintro e W1 ⟨rfl,fp4,aQ⟩
   refine⟨_,rfl,aK (E:=eSt sb db Sk fpk) [eSt sb db (bu Sk (⟨r,cH,cM⟩:RcT)).1 fp4] (cx.init 6 _ rfl) rfl rfl aQ (fun o q X' hs hb hv hN=>?_)⟩
   have aJ:=(hv 178 rfl).1;have aR:=(hv 178 rfl).2
   exact⟨aJ.trans rfl,gP ((List.cons.inj hN).1)⟩) fun zV SJ zW=>?_
 refine sqp [.m 27 178] ?_
 refine aa (wq (sqr (sqp [.m 179 27,.k 180 (.bool (((bu Sk (⟨r,cH,cM⟩:RcT)).2) != 0))] ?_)))
 refine aa (wbs (fun ve=>?_) fun ve=>?_)
 have ML:=bne_iff_ne.1 ve
 refine wq (sqr (sqp [.m 181 27,.k 4 (vi 0),.m 5 181] ?_))
 refine aa (wp_ret (ai ?_))
 refine bpr (.tuple #[vi 0,vi ((bu Sk (⟨r,cH,cM⟩:RcT)).2)]) (aN Tryz.results17 rpt rpt) ?_
 exact fH.of (.app (rt:=(⟨r,cH,cM⟩:RcT)) hda hin hevj ⟨_,hokj⟩ her9 hfit (by rw[<-hosF];exact hai) rfl (by simpa using ve)) ((hokk.append hda.1).mono (by omega)) (zW.pick [6] (by decide) rfl)
 have ML:=bne_eq_false_iff_eq.1 ve
 refine wp_skip (aa (wq (wq ?_)))
 have he5:(bu Sk (⟨r,cH,cM⟩:RcT)).2=0:=by simpa using ve
 obtain⟨S5,hS5⟩:∃z,(bu Sk (⟨r,cH,cM⟩:RcT)).1=z:=⟨_,rfl⟩
 rw[hS5] at zW
 have hok5:SOk S5 (c+300):=hS5 ▸ ((hokk.append hda.1).mono (by omega))
 have hlsn:(S5.recs.length:Int)=(eG S r):=by rw[<-hS5,wS he5,List.length_append,hreck,eG,<-hosF];simp only[List.length_singleton];omega
 have hrow5:S5.rows=Sj.rows:=by rw[<-hS5,(jC _ _).1];exact hrowk
 refine sqr (sqp [.m 182 6,.k 183 (vi ((m:Int))),.k 184 (vi 0)] ?_)
 refine aa (wp_block ?_)
 refine aM (fun t_ mz az W=>∃ii:Nat,∃Sl:StM,∃fpl:List Nat,ii<=m/\(∀S9 er,PuA (aG S) (bp (aG S) r.eds) (eG S r) Sl (os.drop ii) S9 er->PuA (aG S) (bp (aG S) r.eds) (eG S r) S5 os S9 er)/\SOk Sl (c+300+4*ii)/\Sl.recs=S5.recs/\(∀p∈Sj.rows,p∈Sl.rows)/\mz=m-ii/\az=⟨(ovr (jv az) [(4,4,2,[]),(23,29,3,[]),(152,184,0,[vi ((ii:Int))]),(0,185,35,[])] t_).toArray,[]⟩/\St w fp [eB bB 31 #[vp sb],eMx kcI pgX Tryz.prog 3 iQ nW (mW),eMx kcI pgX Tryz.prog 3 ia nN (mN),eO 3 1 (.slice OA m oc) m (os.map (Value.int .i64)),eSt sb db Sl fpl] W) (m-0) ?_ ?_
 exact⟨0,S5,zV,Nat.zero_le _,fun S9 er h=>h,hok5.mono (by omega),rfl,fun p hp=>by rw[hrow5];exact hp,rfl,(by kernel_rfl),zW.pk [0,2,3,4,6]⟩
 rintro SK a218 SL ⟨ii,Sl,fpl,hii,hcon4,hokl,hrecl,hrowl,rfl,hj_,re⟩
 refine ovz hj_ fun RU=>?_
 refine wq (sqr (sqp [.k 185 (.bool (decide ((ii:Int)<(m:Int))))] ?_))
 refine aa (wq (wds (fun Og MM=>?_) fun Og MM=>?_))
 ·refine wp_skip (aa (wq (wp_block (wq ?_))))
  obtain⟨nn,hnn⟩:∃n,os[ii]? =some n:=⟨_,List.getElem?_eq_getElem (by omega)⟩
  have hno:nn∈os:=List.mem_of_getElem? hnn
  have hpn:=hpro nn hno
  have hkn:kcI.ok nn:=by constructor<;>omega
  have htk:os.take (ii+1)=os.take ii++[nn]:=by rw[List.take_add_one,hnn];rfl
  obtain⟨pg,hpm,hmN,hpi,hps⟩:=hI9.n nn hno
  obtain⟨pgw,hpmw,hmW,hpiw⟩:=hI9.w nn hno
  have hdr:os.drop ii=nn::os.drop (ii+1):=by rw[List.drop_eq_getElem_cons (by omega)];congr 1;exact(List.getElem?_eq_some_iff.1 hnn).2
  have hlsl:(Sl.recs.length:Int)=(eG S r):=by rw[hrecl];exact hlsn
  have hgl:(⟨(((bp (aG S) r.eds) nn).1,(Sl.recs.length:Int),((bp (aG S) r.eds) nn).2.2),pg.A,pg.c⟩:PgR)∈Sj.rows:=by rw[hlsl];have h_:=hps (by simp);obtain⟨p1,p2,p3⟩:=pg;dsimp only at h_;subst h_;exact hpm
  refine sqr ?_
  refine sql (.pointer (some ((ad OA).add ii))) re (fun cx=>bG (e:=3) (m:=ii) rfl (by kernel_rfl) (by kernel_rfl) (cx.ou 182) (cx.ou 184) (by omega) (by omega) (At.of_own (cx.ri 3 rfl)) (by rw[List.length_map];omega)) ?_
  refine sql (vi nn) re (fun cx=>ae rfl (by kernel_rfl) (cx.ou 186) (At.cellAd (At.of_own (cx.ri 3 rfl)) ((List.getElem?_map ..).trans (by rw[hnn];rfl)))) ?_
  refine sqp [.m 29 187] ?_
  refine aa (wq (sqr (sqp [.m 188 8,.m 189 29] ?_)))
  refine sql (.agg #[vi (((bp (aG S) r.eds) nn).1),vi (((bp (aG S) r.eds) nn).2.1),.slice pg.A (((bp (aG S) r.eds) nn).2.2.length) pg.c]) re (fun cx=>(c9 (e:=48) (C:=pgX) (K:=kcI) (x:=nn) rfl (cx.ou 188) (cx.ou 189) (CtxV.mx cx (cx.init 2 _ rfl) rfl) (h0:=by kernel_rfl) (hx:=hkn) (hk:=show Program.underlying _ _= _ from by kernel_rfl)).trans (by rw[hmN];rfl)) ?_
  refine cf #[vi 0,vi 0,sn] re fun BE SM MN=>?_
  refine aY (n:=3) 5 #[vi (((bp (aG S) r.eds) nn).1),vi (((bp (aG S) r.eds) nn).2.1),.slice pg.A (((bp (aG S) r.eds) nn).2.2.length) pg.c] MN fun SN MO=>?_
  refine aa (wq ?_)
  obtain⟨⟨hrw4,hrr4⟩,mb4,RA4,rc4,EA4,ec4,ib4,tb4,fpd4,hv229_⟩:=MO.u4.unf
  have hntl:=hokl.nt
  refine sqr (au 10 hv229_ ?_)
  refine sqp [.k 192 (vp sb),.k 193 (po sb 4)] ?_
  refine au 0 hv229_ ?_
  refine sqp [.k 195 (vi ((Sl.recs.length:Int))),.k 196 (po BE 1)] ?_
  refine aY (n:=1) 14 #[vi (((bp (aG S) r.eds) nn).1),vi ((Sl.recs.length:Int)),.slice pg.A (((bp (aG S) r.eds) nn).2.2.length) pg.c] hv229_ fun SO mT=>?_
  refine aa (wq (wq (sqr (sqp [.m 197 7,.m 198 29] ?_))))
  refine sql (.agg #[vi ((aG S nn).1),vi ((aG S nn).2.1),.slice pgw.A ((aG S nn).2.2.length) pgw.c]) mT (fun cx=>(c9 (e:=48) (C:=pgX) (K:=kcI) (x:=nn) rfl (cx.ou 197) (cx.ou 198) (CtxV.mx cx (cx.init 11 _ rfl) rfl) (h0:=by kernel_rfl) (hx:=hkn) (hk:=show Program.underlying _ _= _ from by kernel_rfl)).trans (by rw[hmW];rfl)) ?_
  refine sql (vi ((aG S nn).1)) mT (fun cx=>lU rfl (cx.ou 199) (fun _=>by kernel_rfl)) ?_
  refine sqp [.k 201 (.bool (((aG S nn).1) != 0)),.m 202 201] ?_
  refine d5 202 [203,204,205] ?_ rfl (fun hq=>?_) ?_
  rotate_left
  refine sqp [.k 203 (vp BE)] ?_
  refine au 14 mT ?_
  refine sqp [.k 205 (.bool ((((bp (aG S) r.eds) nn).1)==0))] ?_
  exact sqe
  refine c8 ?_
  refine sqp [sPa 206 (((aG S nn).1) != 0) ((((bp (aG S) r.eds) nn).1)==0)] ?_
  refine aa (wbs (fun vf=>?_) fun vf=>?_)
  have vg:=vf
  simp only[zB] at vg
  obtain⟨Qb,Qc⟩:=vg
  refine sqr (au 10 mT ?_)
  refine sqp [.k 208 (vp sb),.k 209 (po sb 7)] ?_
  refine au 0 mT ?_
  refine sqp [.m 211 29] ?_
  refine sqc (eMx kcI ecB Tryz.prog 3 tb4 ((mzP Sl.told nn Sl.nt)) (ce Sl.told nn (some false))) 8 mT (by
    refine svA fun d b W X cx=>?_
    exact gv (e:=4) (v:=false) (.inl rfl) (cx.ou 210) (show d _=Kc.enc kcI nn from(cx.ou 211)) (show d _=Ec.enc ecB false from(cx.co _)) cx (cx.init 8 _ rfl) rfl (trivial) (by omega) (hkn) rfl rfl rfl (fun _ _ _ _ _=>id) (hk:=show Program.underlying _ _= _ from by kernel_rfl)) fun SP MP=>?_
  refine aa (wq ?_)
  obtain⟨fp254_,hk254_⟩:=St.stf (S:=(eI Sl nn false)) (MP) (hrw4) (hrr4)
  obtain⟨Sx,hSx⟩:∃z,(eI Sl nn false)=z:=⟨_,rfl⟩
  have hxi:(if (aG S nn).1≠0/\((bp (aG S) r.eds) nn).1=0 then eI Sl nn false else Sl)=Sx:=by rw[<-hSx];exact if_pos (by have h_:=vf;simpa using h_)
  have hokx:SOk Sx (c+300+4*ii+1):=hSx ▸ hokl.told nn false
  have hxrec:Sx.recs=Sl.recs:=by cases hSx;rfl
  have hxrow:∀p∈Sl.rows,p∈Sx.rows:=fun p hp=>by rw[<-hSx];exact hp
  rw[show eSt sb db (eI Sl nn false)=eSt sb db Sx by rw[hSx]] at hk254_
  refine sqr (au 1 hk254_ ?_)
  refine sqp [.m 213 29] ?_
  refine bJ 5 3 hk254_ ?_
  refine ph (fun x_=>tZ x_) (fun X_=>X_.fp) (fun er215_258=>vi er215_258) (fun er215_258 zX=>eSx sb db (fun S2=>eh Sx nn (⟨(((bp (aG S) r.eds) nn).1,(Sl.recs.length:Int),((bp (aG S) r.eds) nn).2.2),pg.A,pg.c⟩:PgR) S2 er215_258) zX) 0 hk254_ (by
    refine svA fun d b W X cx=>?_
    refine am.call (aq (args:=#[vp sb,vi nn,.agg #[vi (((bp (aG S) r.eds) nn).1),vi ((Sl.recs.length:Int)),.slice pg.A (((bp (aG S) r.eds) nn).2.2.length) pg.c]]) rfl cx.sees rfl (by kernel_rfl) (dG (cx.ou 212) (cx.ou 213) (cx.ou 214))) ?_
    refine(sG sb db Sx nn (⟨(((bp (aG S) r.eds) nn).1,(Sl.recs.length:Int),((bp (aG S) r.eds) nn).2.2),pg.A,pg.c⟩:PgR) (c+300+4*ii+1) _ _ (CtxV.holdF cx (cx.init 0 _ rfl) rfl) (CtxV.ltF cx (cx.init 0 _ rfl) rfl) hokx (by omega) hkn (hxrow _ (hrowl _ hgl))).mono ?_
    rintro e W1 ⟨er4,rfl,fp4,aQ⟩
    refine⟨_,rfl,aK (E:=eSt sb db Sx fp254_) [eSx sb db (fun S2=>eh Sx nn (⟨(((bp (aG S) r.eds) nn).1,(Sl.recs.length:Int),((bp (aG S) r.eds) nn).2.2),pg.A,pg.c⟩:PgR) S2 er4) fp4] (cx.init 0 _ rfl) rfl rfl aQ (fun o q X' hs hb hv hN=>?_)⟩
    have aJ:=(hv 215 rfl).1;have aR:=(hv 215 rfl).2
    exact⟨aJ.trans (by rw[aR];exact rfl),(by rw[aR];exact fK ((List.cons.inj hN).1))⟩) fun er215_258 zX SQ MQ=>?_
  refine sqp [.m 31 215] ?_
  refine aa (wq ?_)
  obtain⟨S7,hP7,hy260_⟩:=MQ.unx
  have hpl:(⟨(((bp (aG S) r.eds) nn).1,(Sl.recs.length:Int),((bp (aG S) r.eds) nn).2.2),pg.A,pg.c⟩:PgR).p=iu (eG S r) ((bp (aG S) r.eds) nn):=by show (_,_,_)=(_,_,_);rw[hlsl]
  have hri:=iH (fun n=>iA hok n) her9 nn
  have hok7:SOk S7 (c+300+4*(ii+1)):=(hokx.put (by rw[hpl];exact lR hri (by have h1:=hokl.recs_len;omega)) hP7).mono (by omega)
  refine sqr (sqp [.m 216 31,.k 217 (.bool (er215_258 != 0))] ?_)
  refine aa (wbs (fun rT=>?_) fun rT=>?_)
  have MR:=bne_iff_ne.1 rT
  refine wq (sqr (sqp [.m 218 31,.k 4 (vi 0),.m 5 218] ?_))
  refine aa (wp_ret (aV (ai (ai (aV (ai ?_))))))
  refine bpr (.tuple #[vi 0,vi er215_258]) (aN Tryz.results17 rpt rpt) ?_
  exact fH.of (by have h_:=DoQ.put (rt:=(⟨r,cH,cM⟩:RcT)) hda hin hevj ⟨_,hokj⟩ her9 hfit (by rw[<-hosF];exact hai) rfl he5 (by rw[hS5,<-hosF];exact hcon4 _ _ (by rw[hdr];exact PuA.bad hpl (by rw[hxi];exact hP7) (by simpa using rT)));rw[if_neg (by simpa using rT)] at h_;exact h_) (hok7.mono (by omega)) (hy260_.pick [0] (by decide) rfl)
  have MR:=bne_eq_false_iff_eq.1 rT
  refine wp_skip (av (aa ?_))
  have hpu0:eh (if (aG S nn).1≠0/\((bp (aG S) r.eds) nn).1=0 then eI Sl nn false else Sl) nn (⟨(((bp (aG S) r.eds) nn).1,(Sl.recs.length:Int),((bp (aG S) r.eds) nn).2.2),pg.A,pg.c⟩:PgR) S7 0:=by rw[hxi];exact yC hP7 (by simpa using rT)
  refine sqr (sqp [sI 219 ((ii:Int)+1) (by omega),.m 184 219] ?_)
  refine aa ?_
  refine⟨m-((ii+1)),by omega,?_⟩
  exact⟨(ii+1),S7,zX,by omega,fun S9 er h=>hcon4 S9 er (by rw[hdr];exact PuA.cons hpl hpu0 h),hok7,by rw[hP7.rr.2.1,hxrec];exact hrecl,fun p hp=>hP7.rows p (hxrow p (hrowl p hp)),rfl,(by kernel_rfl),hy260_.pk [1,2,3,4,0]⟩
  have vg:=vf
  simp only[zB] at vg
  refine wp_skip (aa (wq ?_))
  obtain⟨fp269_,hk269_⟩:=St.stf (S:=Sl) (mT) (hrw4) (hrr4)
  obtain⟨Sx,hSx⟩:∃z,Sl=z:=⟨_,rfl⟩
  have hxi:(if (aG S nn).1≠0/\((bp (aG S) r.eds) nn).1=0 then eI Sl nn false else Sl)=Sx:=by rw[<-hSx];exact if_neg (by have h_:=vf;simpa using h_)
  have hokx:SOk Sx (c+300+4*ii+1):=hSx ▸ hokl.mono (by omega)
  have hxrec:Sx.recs=Sl.recs:=by cases hSx;rfl
  have hxrow:∀p∈Sl.rows,p∈Sx.rows:=fun p hp=>by rw[<-hSx];exact hp
  rw[show eSt sb db Sl=eSt sb db Sx by rw[hSx]] at hk269_
  refine sqr (au 1 hk269_ ?_)
  refine sqp [.m 213 29] ?_
  refine bJ 5 3 hk269_ ?_
  refine ph (fun x_=>tZ x_) (fun X_=>X_.fp) (fun er215_273=>vi er215_273) (fun er215_273 zY=>eSx sb db (fun S2=>eh Sx nn (⟨(((bp (aG S) r.eds) nn).1,(Sl.recs.length:Int),((bp (aG S) r.eds) nn).2.2),pg.A,pg.c⟩:PgR) S2 er215_273) zY) 0 hk269_ (by
    refine svA fun d b W X cx=>?_
    refine am.call (aq (args:=#[vp sb,vi nn,.agg #[vi (((bp (aG S) r.eds) nn).1),vi ((Sl.recs.length:Int)),.slice pg.A (((bp (aG S) r.eds) nn).2.2.length) pg.c]]) rfl cx.sees rfl (by kernel_rfl) (dG (cx.ou 212) (cx.ou 213) (cx.ou 214))) ?_
    refine(sG sb db Sx nn (⟨(((bp (aG S) r.eds) nn).1,(Sl.recs.length:Int),((bp (aG S) r.eds) nn).2.2),pg.A,pg.c⟩:PgR) (c+300+4*ii+1) _ _ (CtxV.holdF cx (cx.init 0 _ rfl) rfl) (CtxV.ltF cx (cx.init 0 _ rfl) rfl) hokx (by omega) hkn (hxrow _ (hrowl _ hgl))).mono ?_
    rintro e W1 ⟨er4,rfl,fp4,aQ⟩
    refine⟨_,rfl,aK (E:=eSt sb db Sx fp269_) [eSx sb db (fun S2=>eh Sx nn (⟨(((bp (aG S) r.eds) nn).1,(Sl.recs.length:Int),((bp (aG S) r.eds) nn).2.2),pg.A,pg.c⟩:PgR) S2 er4) fp4] (cx.init 0 _ rfl) rfl rfl aQ (fun o q X' hs hb hv hN=>?_)⟩
    have aJ:=(hv 215 rfl).1;have aR:=(hv 215 rfl).2
    exact⟨aJ.trans (by rw[aR];exact rfl),(by rw[aR];exact fK ((List.cons.inj hN).1))⟩) fun er215_273 zY SR MS=>?_
  refine sqp [.m 31 215] ?_
  refine aa (wq ?_)
  obtain⟨S7,hP7,hy275_⟩:=MS.unx
  have hpl:(⟨(((bp (aG S) r.eds) nn).1,(Sl.recs.length:Int),((bp (aG S) r.eds) nn).2.2),pg.A,pg.c⟩:PgR).p=iu (eG S r) ((bp (aG S) r.eds) nn):=by show (_,_,_)=(_,_,_);rw[hlsl]
  have hri:=iH (fun n=>iA hok n) her9 nn
  have hok7:SOk S7 (c+300+4*(ii+1)):=(hokx.put (by rw[hpl];exact lR hri (by have h1:=hokl.recs_len;omega)) hP7).mono (by omega)
  refine sqr (sqp [.m 216 31,.k 217 (.bool (er215_273 != 0))] ?_)
  refine aa (wbs (fun rU=>?_) fun rU=>?_)
  have MT:=bne_iff_ne.1 rU
  refine wq (sqr (sqp [.m 218 31,.k 4 (vi 0),.m 5 218] ?_))
  refine aa (wp_ret (aV (ai (ai (aV (ai ?_))))))
  refine bpr (.tuple #[vi 0,vi er215_273]) (aN Tryz.results17 rpt rpt) ?_
  exact fH.of (by have h_:=DoQ.put (rt:=(⟨r,cH,cM⟩:RcT)) hda hin hevj ⟨_,hokj⟩ her9 hfit (by rw[<-hosF];exact hai) rfl he5 (by rw[hS5,<-hosF];exact hcon4 _ _ (by rw[hdr];exact PuA.bad hpl (by rw[hxi];exact hP7) (by simpa using rU)));rw[if_neg (by simpa using rU)] at h_;exact h_) (hok7.mono (by omega)) (hy275_.pick [0] (by decide) rfl)
  have MT:=bne_eq_false_iff_eq.1 rU
  refine wp_skip (av (aa ?_))
  have hpu0:eh (if (aG S nn).1≠0/\((bp (aG S) r.eds) nn).1=0 then eI Sl nn false else Sl) nn (⟨(((bp (aG S) r.eds) nn).1,(Sl.recs.length:Int),((bp (aG S) r.eds) nn).2.2),pg.A,pg.c⟩:PgR) S7 0:=by rw[hxi];exact yC hP7 (by simpa using rU)
  refine sqr (sqp [sI 219 ((ii:Int)+1) (by omega),.m 184 219] ?_)
  refine aa ?_
  refine⟨m-((ii+1)),by omega,?_⟩
  exact⟨(ii+1),S7,zY,by omega,fun S9 er h=>hcon4 S9 er (by rw[hdr];exact PuA.cons hpl hpu0 h),hok7,by rw[hP7.rr.2.1,hxrec];exact hrecl,fun p hp=>hP7.rows p (hxrow p (hrowl p hp)),rfl,(by kernel_rfl),hy275_.pk [1,2,3,4,0]⟩
 refine wp_exit (al (al (bh (aa (wq ?_)))))
 obtain⟨⟨hrw5,hrr5⟩,mb5,RA5,rc5,EA5,ec5,ib5,tb5,fpd5,hv284_⟩:=re.u4.unf
 refine sqr (au 10 hv284_ ?_)
 refine sqp [.k 221 (vp sb),.k 222 (po sb 4)] ?_
 refine au 0 hv284_ ?_
 refine sqp [.k 224 (vi ((Sl.recs.length:Int))),.m 4 224,.k 5 (vi 0)] ?_
 refine aa (wp_ret ?_)
 refine bpr (.tuple #[vi ((Sl.recs.length:Int)),vi 0]) (aN Tryz.results17 rpt rpt) ?_
 obtain⟨fp292_,hk292_⟩:=St.stf (S:=Sl) (hv284_) (hrw5) (hrr5)
 exact fH.of (by have h_:=DoQ.put (rt:=(⟨r,cH,cM⟩:RcT)) hda hin hevj ⟨_,hokj⟩ her9 hfit (by rw[<-hosF];exact hai) rfl he5 (by rw[hS5,<-hosF];exact hcon4 _ _ (by rw[List.drop_of_length_le (by omega)];exact PuA.nil _));rw[if_pos rfl,<-hlsn,<-hrecl] at h_;exact h_) (hokl.mono (by omega)) (hk292_.pick [0] (by decide) rfl)
end
section
open Go.RowKit Go.Maps Go.ChangeMaps
def kn(x:Int×Nat):Ent:=eB x.2 3 #[.int .i64 x.1]
theorem Li{l:List (Int×Nat)}{W:World}(h:(eA (l.map kn)).holds W){x:Int×Nat}(hx:x∈l):Blk W x.2 3 #[.int .i64 x.1]:=(h.1 (kn x) (List.mem_map.2 ⟨x,hx,rfl⟩)).1
theorem St.addN{w0 W:World}{bor:List Nat}{L:List Ent}{l:List (Int×Nat)}{x:Int×Nat}(h:St w0 bor (L++[eA (l.map kn),kn x]) W):St w0 bor (L++[eA ((x::l).map kn)]) W:=by
 rw[List.map_cons]
 exact St.inA (A:=[]) h
theorem St.anf{w0 W:World}{bor:List Nat}{L:List Ent}{l:List (Int×Nat)}{x:Int×Nat}(h:St w0 bor (eA (List.map kn l)::kn x::L) W):St w0 bor (eA (List.map kn (x::l))::L) W:=St.fr (R:=[_,_]) h St.addN
def clV(q:Nat)(x:Int×Nat):Value:= .func (.func 71) #[] #[.pointer (some ⟨q,0,none⟩),.pointer (some ⟨x.2,0,none⟩)]
inductive ClA:StM->List Int->StM->Int->Prop where
 |nil (S:StM):ClA S [] S 0
 |bad {S:StM}{t:BfT}{l:List Int}(ht:t∈S.pool) (he:(aL S t).2≠0):ClA S (t.n::l) (aL S t).1 (aL S t).2
 |cons {S S2:StM}{t:BfT}{l:List Int}{er:Int}(ht:t∈S.pool) (he:(aL S t).2=0) (hr:ClA (aL S t).1 l S2 er):ClA S (t.n::l) S2 er
def dV(S:StM)(D:DkM):StM:={S with D:=D}
def ckE(S:StM):StM:={S with frm:=(S.recs.length:Int),ni:=0,im:=fun _=>none}
inductive CkQ (S:StM) (note:ByteArray):StM->Int->Prop where
 |arg (h:60000<note.size):CkQ S note S 1
 |full {q:List RcT}(h:note.size<=60000) (hf:1048576<S.D.log.size+(aC (aI note)).size):CkQ S note {S with rr:=q} 31
 |cl {q:List RcT}{ns:List Int}{S1:StM}{er:Int}(h:note.size<=60000) (hf:S.D.log.size+(aC (aI note)).size<=1048576) (hns:∀n,n∈ns<->∃t∈S.pool,t.n=n) (hc:ClA {S with rr:=q} ns S1 er) (he:er≠0):CkQ S note S1 er
 |sync {q:List RcT}{ns:List Int}{S1:StM}(h:note.size<=60000) (hf:S.D.log.size+(aC (aI note)).size<=1048576) (hns:∀n,n∈ns<->∃t∈S.pool,t.n=n) (hc:ClA {S with rr:=q} ns S1 0) (he:(opD S1.D 0 syD).2≠0):CkQ S note (dV S1 (opD S1.D 0 syD).1) (opD S1.D 0 syD).2
 |app {q:List RcT}{ns:List Int}{S1:StM}(h:note.size<=60000) (hf:S.D.log.size+(aC (aI note)).size<=1048576) (hns:∀n,n∈ns<->∃t∈S.pool,t.n=n) (hc:ClA {S with rr:=q} ns S1 0) (h1:(opD S1.D 0 syD).2=0)
   (he:(bu (dV S1 (opD S1.D 0 syD).1) (rcI (aI note))).2≠0):CkQ S note (bu (dV S1 (opD S1.D 0 syD).1) (rcI (aI note))).1 (bu (dV S1 (opD S1.D 0 syD).1) (rcI (aI note))).2
 |flush {q:List RcT}{ns:List Int}{S1 S2:StM}(h:note.size<=60000) (hf:S.D.log.size+(aC (aI note)).size<=1048576) (hns:∀n,n∈ns<->∃t∈S.pool,t.n=n) (hc:ClA {S with rr:=q} ns S1 0) (h1:(opD S1.D 0 syD).2=0)
   (h2:bu (dV S1 (opD S1.D 0 syD).1) (rcI (aI note))=(S2,0)) (he:(opD S2.D 0 flD).2≠0):CkQ S note (dV S2 (opD S2.D 0 flD).1) (opD S2.D 0 flD).2
 |ok {q:List RcT}{ns:List Int}{S1 S2:StM}(h:note.size<=60000) (hf:S.D.log.size+(aC (aI note)).size<=1048576) (hns:∀n,n∈ns<->∃t∈S.pool,t.n=n) (hc:ClA {S with rr:=q} ns S1 0) (h1:(opD S1.D 0 syD).2=0)
   (h2:bu (dV S1 (opD S1.D 0 syD).1) (rcI (aI note))=(S2,0)) (he:(opD S2.D 0 flD).2=0):CkQ S note (ckE (dV S2 (opD S2.D 0 flD).1)) 0
theorem AN(q2 q5 sb db:Nat)(S:StM)(rt:RcT)(c:Nat)(fp:List Nat)(w:World)(hB:(eSt sb db S fp).holds w)(hlt:∀k∈fp,k<w.heap.size)(h2:Blk w q2 31 #[po sb 0])(n2:q2∉fp)(n5:q5∉fp)(h5:Blk w q5 27 #[.int .i64 rt.r.kind,.int .i64 rt.r.xid,.int .i64 rt.r.tbl,sn,sn,.slice rt.A rt.r.eds.length rt.c,sn,.string rt.r.note])(hok:SOk S c)(hr:bz rt.r=true)(hrt:rt∈S.rr):
  Calls Tryz.prog 70 #[po q2 0,po q5 0] w (d6 sb db (bu S rt) fp w):=by
 have st1:St w fp [eSt sb db S fp] w:=St.lend hB (dv _ _ _ _) hlt
 go_enter Tryz.func70,Tryz.ntmps70
 have ak:=st1
 refine wq (sqr (sqp [.k 2 (vi 0)] ?_))
 refine aa (wq (sqr ?_))
 refine sql (vp sb) ak (fun cx=>ae rfl (by kernel_rfl) (cx.ou 0) (Blk.cell (h2.upd cx.upd n2) 0)) ?_
 refine sql (.agg #[vi rt.r.kind,vi rt.r.xid,vi rt.r.tbl,sn,sn,.slice rt.A rt.r.eds.length rt.c,sn,.string rt.r.note]) ak (fun cx=>bZ (n:=8) rfl (by kernel_rfl) (by kernel_rfl) (cx.ou 1) (h5.upd cx.upd n5) (nle rfl) rfl) ?_
 refine bN (fun X_=>X_.fp) (vi ((bu S rt).2)) (fun zZ=>eSt sb db ((bu S rt).1) zZ) 0 ak (by
   refine svA fun f a W X cx=>?_
   refine am.call (aq (args:=#[vp sb,.agg #[vi rt.r.kind,vi rt.r.xid,vi rt.r.tbl,sn,sn,.slice rt.A rt.r.eds.length rt.c,sn,.string rt.r.note]]) rfl cx.sees rfl (by kernel_rfl) (aT (cx.ou 3) (cx.ou 4))) ?_
   refine(nH sb db S rt c _ _ (CtxV.holdF cx (cx.init 0 _ rfl) rfl) (CtxV.ltF cx (cx.init 0 _ rfl) rfl) hok hr hrt).mono ?_
   rintro e W1 ⟨rfl,fp4,aQ⟩
   refine⟨_,rfl,aK (E:=eSt sb db S fp) [eSt sb db (bu S rt).1 fp4] (cx.init 0 _ rfl) rfl rfl aQ (fun b d X' hs hb hv hN=>?_)⟩
   have aJ:=(hv 5 rfl).1;have aR:=(hv 5 rfl).2
   exact⟨aJ.trans rfl,gP ((List.cons.inj hN).1)⟩) fun zZ W4 bb=>?_
 refine sqp [.m 2 5] ?_
 refine aa (wp_ret ?_)
 refine bpr (vi ((bu S rt).2)) (ag Tryz.results70 rpt) ?_
 exact d6.of (R':=(bu S rt)) rfl (bb.pick [0] (by decide) rfl)
theorem AB(q2 q7 sb db:Nat)(S:StM)(A B:List BfT)(t:BfT)(c:Nat)(fp:List Nat)(w:World)(hB:(eSt sb db S fp).holds w)(hlt:∀k∈fp,k<w.heap.size)(h2:Blk w q2 31 #[po sb 0])(n2:q2∉fp)(n7:q7∉fp)(h7:Blk w q7 3 #[.int .i64 t.n])(hok:SOk S c)(hc:c<=900000000)(hAB:S.pool=A++t::B):
  Calls Tryz.prog 71 #[po q2 0,po q7 0] w (d6 sb db (aL S t) fp w):=by
 have st1:St w fp [eSt sb db S fp] w:=St.lend hB (dv _ _ _ _) hlt
 go_enter Tryz.func71,Tryz.ntmps71
 have ak:=st1
 refine wq (sqr (sqp [.k 2 (vi 0)] ?_))
 refine aa (wq (sqr ?_))
 refine sql (vp sb) ak (fun cx=>ae rfl (by kernel_rfl) (cx.ou 0) (Blk.cell (h2.upd cx.upd n2) 0)) ?_
 refine sql (vi t.n) ak (fun cx=>ae rfl (by kernel_rfl) (cx.ou 1) (Blk.cell (h7.upd cx.upd n7) 0)) ?_
 refine bN (fun X_=>X_.fp) (vi ((aL S t).2)) (fun zZ=>eSt sb db ((aL S t).1) zZ) 0 ak (by
   refine svA fun f a W X cx=>?_
   refine am.call (aq (args:=#[vp sb,vi t.n]) rfl cx.sees rfl (by kernel_rfl) (aT (cx.ou 3) (cx.ou 4))) ?_
   refine(uo sb db S A B t c _ _ (CtxV.holdF cx (cx.init 0 _ rfl) rfl) (CtxV.ltF cx (cx.init 0 _ rfl) rfl) hok hc hAB).mono ?_
   rintro e W1 ⟨rfl,fp4,aQ⟩
   refine⟨_,rfl,aK (E:=eSt sb db S fp) [eSt sb db (aL S t).1 fp4] (cx.init 0 _ rfl) rfl rfl aQ (fun b d X' hs hb hv hN=>?_)⟩
   have aJ:=(hv 5 rfl).1;have aR:=(hv 5 rfl).2
   exact⟨aJ.trans rfl,gP ((List.cons.inj hN).1)⟩) fun zZ W4 bb=>?_
 refine sqp [.m 2 5] ?_
 refine aa (wp_ret ?_)
 refine bpr (vi ((aL S t).2)) (ag Tryz.results71 rpt) ?_
 exact d6.of (R':=(aL S t)) rfl (bb.pick [0] (by decide) rfl)
end
section
open Go.RowKit Go.Maps Go.ChangeMaps
theorem CtxV.apF{ops:Array Oper}{L:List Nat}{a0:Act}{w0:World}{bor:List Nat}{X0:List Ent}{us:List (List Nat)}{D:Nat->(Tmp->Value)->(Tmp->Value)->(Nat->Ent)->Prop}{i:Nat}{b:Operand->Value}{a:Tmp->Value}{W:World}{X:Nat->Ent}{q q' k:Nat}{E F:Ent}(cx:CtxV ops L a0 w0 bor X0 us D i b a W X)(hX:X q=E)(hX':X q'=F)(hk:k∈E.fp)(hu:(atV us i).contains q=true)(hu':(atV us i).contains q'=true)(hne:q≠q'):k∉F.fp:=by
 subst hX hX'
 exact cx.ap q q' hu hu' hne k hk
theorem xj(b:Nat)(t:TypeId)(c:Array Value):b∈(eB b t c).fp:=List.mem_singleton.2 rfl
theorem NJ{l:List (Int×Nat)}{x:Int×Nat}(h:x∈l):x.2∈(eA (l.map kn)).fp:=List.mem_flatMap.2 ⟨kn x,List.mem_map.2 ⟨x,h,rfl⟩,xj _ _ _⟩
def ckT(q2 q5 db:Nat):List Value:=[.func (.func 69) #[.pointer (some ⟨db,0,none⟩)] #[],.func (.func 70) #[] #[.pointer (some ⟨q2,0,none⟩),.pointer (some ⟨q5,0,none⟩)],.func (.func 63) #[.pointer (some ⟨db,0,none⟩)] #[]]
def lF(q2 q5 db:Nat)(bs:List (Int×Nat)):List Value:=bs.map (clV q2)++ckT q2 q5 db
theorem og(q2 q5 db:Nat)(bs:List (Int×Nat)):(lF q2 q5 db bs).length=bs.length+3:=by simp[lF,ckT]
theorem JY(q2 q5 db:Nat)(bs:List (Int×Nat)):∀u∈lF q2 q5 db bs,u.oneCell'=true:=fun u hu=>by
 rcases List.mem_append.1 hu with h|h
 obtain⟨x,_,rfl⟩:=List.mem_map.1 h;rfl
 simp only[ckT,List.mem_cons,List.not_mem_nil,or_false] at h
 rcases h with rfl|rfl|rfl<;>rfl
theorem LL{q2 q5 db:Nat}{bs:List (Int×Nat)}{i:Nat}{x:Int×Nat}(h:bs[i]? =some x):(lF q2 q5 db bs)[i]? =some (clV q2 x):=by
 obtain⟨hi,rfl⟩:=List.getElem?_eq_some_iff.1 h
 rw[lF,List.getElem?_append_left (by simpa using hi),List.getElem?_map,List.getElem?_eq_getElem hi];rfl
theorem B2{q2 q5 db:Nat}{bs:List (Int×Nat)}{i j:Nat}(h:i=bs.length+j):(lF q2 q5 db bs)[i]? =(ckT q2 q5 db)[j]? :=by
 subst h
 rw[lF,List.getElem?_append_right (by simp)];simp
theorem JP{l A B:List BfT}{t:BfT}{n:Int}(hd:(l.map BfT.n).Nodup)(h:l=A++t::B)(hn:t.n=n):atM l n=some (some t.blk):=by
 subst h hn;exact k7 hd
theorem Ku{l:List BfT}{bs:List (Int×Nat)}{n:Nat}(h:∀x,x∈bs.map Prod.fst<->(∃t∈l,t.n=x)/\x<(n:Int)){t:BfT}(ht:t∈l)(hn:t.n=(n:Int))(b:Nat):∀x,x∈(((n:Int),b)::bs).map Prod.fst<->(∃t∈l,t.n=x)/\x<((n+1:Nat):Int):=fun x=>by
 rw[List.map_cons,List.mem_cons,h x]
 constructor
 rintro(rfl|⟨h1,h2⟩)
 exact⟨⟨t,ht,hn⟩,by omega⟩
 exact⟨h1,by omega⟩
 rintro⟨h1,h2⟩
 by_cases e:x=(n:Int)
 exact .inl e
 exact .inr ⟨h1,by omega⟩
theorem JT{l:List BfT}{bs:List (Int×Nat)}{n:Nat}(h:∀x,x∈bs.map Prod.fst<->(∃t∈l,t.n=x)/\x<(n:Int))(hno:∀t∈l,t.n≠(n:Int)):∀x,x∈bs.map Prod.fst<->(∃t∈l,t.n=x)/\x<((n+1:Nat):Int):=fun x=>by
 rw[h x]
 constructor
 rintro⟨h1,h2⟩;exact⟨h1,by omega⟩
 rintro⟨⟨t,h1,h3⟩,h2⟩
 refine⟨⟨t,h1,h3⟩,?_⟩
 have:=hno t h1
 omega
def CkI(S0:StM)(ns:List Int)(note:ByteArray)(i:Nat)(Si:StM):Prop:=
 (i<=ns.length/\∀S2 er,ClA Si (ns.drop i) S2 er->ClA S0 ns S2 er)\/
 (i=ns.length+1/\∃S1,ClA S0 ns S1 0/\(opD S1.D 0 syD).2=0/\Si=dV S1 (opD S1.D 0 syD).1)\/
 (i=ns.length+2/\∃S1,ClA S0 ns S1 0/\(opD S1.D 0 syD).2=0/\bu (dV S1 (opD S1.D 0 syD).1) (rcI (aI note))=(Si,0))\/
 (i=ns.length+3/\∃S1 S2,ClA S0 ns S1 0/\(opD S1.D 0 syD).2=0/\bu (dV S1 (opD S1.D 0 syD).1) (rcI (aI note))=(S2,0)/\(opD S2.D 0 flD).2=0/\Si=dV S2 (opD S2.D 0 flD).1)
theorem CkI.ways{S0 Si:StM}{ns:List Int}{note:ByteArray}{i:Nat}(h:CkI S0 ns note i Si):
  (i<ns.length/\∀S2 er,ClA Si (ns.drop i) S2 er->ClA S0 ns S2 er)\/(i=ns.length+0/\ClA S0 ns Si 0)\/
  (i=ns.length+1/\∃S1,ClA S0 ns S1 0/\(opD S1.D 0 syD).2=0/\Si=dV S1 (opD S1.D 0 syD).1)\/
  (i=ns.length+2/\∃S1,ClA S0 ns S1 0/\(opD S1.D 0 syD).2=0/\bu (dV S1 (opD S1.D 0 syD).1) (rcI (aI note))=(Si,0))\/
  (i=ns.length+3/\∃S1 S2,ClA S0 ns S1 0/\(opD S1.D 0 syD).2=0/\bu (dV S1 (opD S1.D 0 syD).1) (rcI (aI note))=(S2,0)/\(opD S2.D 0 flD).2=0/\Si=dV S2 (opD S2.D 0 flD).1):=by
 rcases h with ⟨h1,h2⟩|h|h|h
 rcases Nat.lt_or_ge i ns.length with h3|h3
 exact .inl ⟨h3,h2⟩
 exact .inr (.inl ⟨by omega,h2 _ _ (by rw[List.drop_of_length_le h3];exact .nil _)⟩)
 exact .inr (.inr (.inl h))
 exact .inr (.inr (.inr (.inl h)))
 exact .inr (.inr (.inr (.inr h)))
theorem tU(S:StM)(t:BfT):(aL S t).1.pool.map BfT.n=S.pool.map BfT.n/\(aL S t).1.rr=S.rr/\(aL S t).1.recs=S.recs:=by
 have hs:∀(l:List BfT) (n:Int),(dd l n clB).map BfT.n=l.map BfT.n:=fun l n=>by
  rw[dd,List.map_map]
  refine List.map_congr_left fun u _=>?_
  show (if u.n=n then clB u else u).n=u.n
  split<;>rfl
 unfold aL
 split
 unfold bO
 split
 exact⟨rfl,rfl,rfl⟩
 refine⟨?_,rfl,rfl⟩
 show (if _ then dd S.pool t.n clB else S.pool).map BfT.n= _
 split
 exact hs _ _
 rfl
 exact⟨rfl,rfl,rfl⟩
theorem SOk.sync{S:StM}{c:Nat}(h:SOk S c):SOk (dV S (opD S.D 0 syD).1) (c+0):=by
 have hsh:∀n,shP (opD S.D 0 syD).1 n=shP S.D n:=fun n=>c6 (P:=fun D'=>shP D' n=shP S.D n) rfl rfl fun _=>by
  show rdP (rdT ((S.D.pgs.map syS).getD n.toNat gG)).1= _
  have e:(S.D.pgs.map syS).getD n.toNat gG=syS (S.D.pgs.getD n.toNat gG):=by
   rw[List.getD,List.getD,List.getElem?_map]
   cases S.D.pgs[n.toNat]? <;>rfl
  rw[e];rfl
 have hws:∀x∈(opD S.D 0 syD).1.pgs,x.ws.length<=c:=c6 (P:=fun D'=>∀x∈D'.pgs,x.ws.length<=c) h.ws h.ws fun _ x hx=>by
  obtain⟨y,_,rfl⟩:=List.mem_map.1 hx
  exact Nat.zero_le _
 have hl:(opD S.D 0 syD).1.pgs.length=S.D.pgs.length:=c6 (P:=fun D'=>D'.pgs.length=S.D.pgs.length) rfl rfl fun _=>List.length_map ..
 have hlog:(opD S.D 0 syD).1.log=S.D.log:=c6 (P:=fun D'=>D'.log=S.D.log) rfl rfl fun _=>rfl
 have hfl:(opD S.D 0 syD).1.fl=S.D.fl:=c6 (P:=fun D'=>D'.fl=S.D.fl) rfl rfl fun _=>rfl
 exact⟨h.bufs,by show (opD S.D 0 syD).1.pgs.length<=400;rw[hl];exact h.pgs,hws,h.time,h.ni,h.nt,h.right,h.nodup,h.len,fun t ht=>by show 0<=t.n/\t.n<((opD S.D 0 syD).1.pgs.length:Int);rw[hl];exact h.keys t ht,h.recs,by show (opD S.D 0 syD).1.log= _;rw[hlog];exact h.log,by show (opD S.D 0 syD).1.log.size<= _;rw[hlog];exact h.lsz,by show (opD S.D 0 syD).1.fl<=(opD S.D 0 syD).1.log.size;rw[hlog,hfl];exact h.fl,fun t ht hd=>by show _=shP (opD S.D 0 syD).1 t.n;rw[hsh];exact h.cl t ht hd⟩
theorem SOk.ckE{S:StM}{c:Nat}(h:SOk S c):SOk (ckE S) c:=⟨h.bufs,h.pgs,h.ws,h.time,Nat.zero_le _,h.nt,h.right,h.nodup,h.len,h.keys,h.recs,h.log,h.lsz,h.fl,h.cl⟩
theorem SOk.flush{S:StM}{c:Nat}(h:SOk S c):SOk (dV S (opD S.D 0 flD).1) c:=by
 have hp:(opD S.D 0 flD).1.pgs=S.D.pgs:=c6 (P:=fun D'=>D'.pgs=S.D.pgs) rfl rfl fun _=>rfl
 have hlog:(opD S.D 0 flD).1.log=S.D.log:=c6 (P:=fun D'=>D'.log=S.D.log) rfl rfl fun _=>rfl
 have hfl:(opD S.D 0 flD).1.fl<=S.D.log.size:=c6 (P:=fun D'=>D'.fl<=S.D.log.size) h.fl h.fl fun _=>Nat.le_refl _
 exact⟨h.bufs,by show (opD S.D 0 flD).1.pgs.length<=400;rw[hp];exact h.pgs,by show ∀x∈(opD S.D 0 flD).1.pgs,_;rw[hp];exact h.ws,h.time,h.ni,h.nt,h.right,h.nodup,h.len,fun t ht=>by show 0<=t.n/\t.n<((opD S.D 0 flD).1.pgs.length:Int);rw[hp];exact h.keys t ht,h.recs,by show (opD S.D 0 flD).1.log= _;rw[hlog];exact h.log,by show (opD S.D 0 flD).1.log.size<= _;rw[hlog];exact h.lsz,by show (opD S.D 0 flD).1.fl<=(opD S.D 0 flD).1.log.size;rw[hlog];exact hfl,fun t ht hd=>by show _=shP (opD S.D 0 flD).1 t.n;rw[hH hp];exact h.cl t ht hd⟩
theorem Hg{l l':List BfT}(h:l.map BfT.n=l'.map BfT.n){n:Int}(hn:∃t∈l',t.n=n):∃t∈l,t.n=n:=by
 obtain⟨t,ht,e⟩:=hn
 have h1:n∈l.map BfT.n:=by rw[h];exact List.mem_map.2 ⟨t,ht,e⟩
 exact List.mem_map.1 h1
theorem E9{S:StM}{rt:RcT}{S2:StM}(h:(bu S rt).2=0)(h2:(bu S rt).1=S2):bu S rt=(S2,0):=Prod.ext h2 h
def jj(sb db:Nat)(S:StM)(note:ByteArray)(c:Nat)(fp:List Nat)(w:World)(e:Ending)(w':World):Prop:=∃er,e= .returned (.int .i64 er)/\∃fp',St w fp [eSx sb db (fun S2=>CkQ S note S2 er/\SOk S2 (c+500)) fp'] w'
theorem jj.of{sb db:Nat}{S S2:StM}{note:ByteArray}{c:Nat}{er:Int}{fp fp':List Nat}{w w':World}(h:CkQ S note S2 er)(ho:SOk S2 (c+500))(hs:St w fp ([]++[eSt sb db S2 fp']) w'):jj sb db S note c fp w (.returned (.int .i64 er)) w':=⟨er,rfl,fp',St.sx (L:=[]) hs ⟨h,ho⟩⟩
end
section
open Go.RowKit Go.Maps Go.ChangeMaps
theorem Tryz.infoFnJ:(Tryz.prog.info? 52).map (fun i=>(i.zero,i.size,i.bytes))=some (some Value.nilFunc,1,8):=by kernel_rfl
theorem BQ(sb db:Nat)(S:StM)(note:ByteArray)(c:Nat)(fp:List Nat)(w:World)(hB:(eSt sb db S fp).holds w)(hlt:∀k∈fp,k<w.heap.size)(hok:SOk S c)(hc:c<=800000)(hns:note.size<=9000000):
  Calls Tryz.prog 28 #[po sb 0,.string note] w (jj sb db S note c fp w):=by
 have st1:St w fp [eSt sb db S fp] w:=St.lend hB (dv _ _ _ _) hlt
 have hpg:=hok.pgs
 go_enter Tryz.func28,Tryz.ntmps28
 have ak:=st1
 refine wq (sqr ?_)
 refine b9 #[vp sb] ak fun bB W1 aB=>?_
 refine sqp [.k 4 (vi 0)] ?_
 refine aa (wq (wq (sqr (au 1 aB ?_))))
 refine sqv (.bool false) aB (by
   exact sv0 rfl rfl rfl rfl rfl (fun _ _ _ h=>h) fun b g W X cx=>by
    have Ih:b (.tmp 11)=vp sb:=(cx.ou 11)
    simp[go_sem,cx.sees.const,Ih]) fun W4 bb=>?_
 refine sqp [.k 13 (.bool false)] ?_
 refine dF 13 [14,15,16] rfl rfl ?_
 refine sqp [.m 14 1,.k 15 (vi ((note.size:Int))),.k 16 (.bool (decide (60000<(note.size:Int))))] ?_
 refine sqp [.k 17 (.bool (decide (60000<(note.size:Int))))] ?_
 refine aa (wds (fun ky pD=>?_) fun ky pD=>?_)
 refine wq (sqr (sqp [.k 4 (vi 1)] ?_))
 refine aa (wp_ret (ai ?_))
 refine bpr (vi 1) (ag Tryz.results28 rpt) ?_
 exact jj.of (.arg (by have h_:=ky;simp at h_;omega)) (hok.mono (by omega)) (bb.pick [0] (by decide) rfl)
 refine wp_skip (aa (wq ?_))
 have hn6:note.size<=60000:=by have h_:=ky;simp at h_;omega
 have hfs:=eU (dy hn6)
 have hn12:=fm bb 84 3
 simp only[List.cons_append,List.nil_append] at hn12
 obtain⟨S0,fp13_,hS0,hg13_⟩:=St.rRn (r:=(rcI (aI note))) hn12.u2
 have hok0:SOk S0 c:=hS0 ▸ hok.rr _
 have hrt0:(rcI (aI note))∈S0.rr:=by rw[<-hS0];exact List.mem_append_right _ (List.mem_singleton.2 rfl)
 have hD0:S0.D=S.D:=by rw[<-hS0]
 have hP0:S0.pool=S.pool:=by rw[<-hS0]
 have hlz:=hok0.lsz
 have hpg0:=hok0.pgs
 refine sqr (sqp [.m 18 1,.k 19 (.agg #[vi 9,vi 0,vi 0,sn,sn,sn,sn,.string note])] ?_)
 refine cf #[vi 0,vi 0,vi 0,sn,sn,sn,sn,.string ByteArray.empty] hg13_ fun gZ qQ dx=>?_
 refine aY (n:=8) 2 #[vi 9,vi 0,vi 0,sn,sn,sn,sn,.string note] dx fun sg dt=>?_
 refine aa (wq (wq ?_))
 obtain⟨⟨hrw1,hrr1⟩,mb1,RA1,rc1,EA1,ec1,ib1,tb1,fpd1,hv18_⟩:=dt.unf
 refine bL [0,1,3,7,15,31,0,95,223,511,1023] [[10],[],[],[0],[9],[],[11]] [.c 20 (vp sb),.k 21 (vp sb),.k 22 (vp sb),.c 23 (vp db),.c 24 (.string S0.D.log),.k 25 (vi ((S0.D.log.size:Int))),.c 26 (.agg #[vi 9,vi 0,vi 0,sn,sn,sn,sn,.string note]),.c 27 (.string (aC (aI note))),.k 28 (vi (((aC (aI note)).size:Int))),tI 29 ((S0.D.log.size:Int)+((aC (aI note)).size:Int)) (by omega),.k 30 (.bool (decide (1048576<(S0.D.log.size:Int)+((aC (aI note)).size:Int))))] [0,1,2,3,4,5,6,7,8,9,10,11] [0,3,4,6,7] [(20,0,11,31)] hv18_ ?_ fun si dl=>?_
 refine⟨?_,?_,?_,?_,?_,trivial⟩
 exact xs4 rfl id fun cx=>ae rfl (by kernel_rfl) (cx.ou 2) ((cx.bi 10 rfl).cell 0)
 exact xs4 rfl id fun cx=>ae rfl (by kernel_rfl) (cx.an 2) ((cx.bi 0 rfl).cell 0)
 exact xsc rfl id rfl rfl fun cx=>⟨_,jz db S0.D _ (fe (CtxV.holdF cx (cx.init 9 _ rfl) rfl)),(aw (cx.an 3))⟩
 exact xs4 rfl id fun cx=>bZ (n:=8) rfl (by kernel_rfl) (by kernel_rfl) (cx.ou 5) (cx.bi 11 rfl) (nle rfl) rfl
 exact xsc rfl id rfl rfl fun cx=>⟨_,jT 9 0 0 none 0 [] note _ (fun j u h=>by cases j<;>cases h) (by decide) (fun e he=>by cases he) (by omega),(aw (cx.an 6))⟩
 refine aa (wds (fun It Oh=>?_) fun It Oh=>?_)
 refine wq (sqr (sqp [.k 4 (vi 31)] ?_))
 refine aa (wp_ret (ai ?_))
 refine bpr (vi 31) (ag Tryz.results28 rpt) ?_
 obtain⟨fp22_,hk22_⟩:=St.stf (S:=S0) (dl) (hrw1) (hrr1)
 exact jj.of (by have h_:=CkQ.full (S:=S) (note:=note) (q:=S.rr++[(rcI (aI note))]) hn6 (by rw[<-hD0];have h_:=It;simp at h_;omega);rw[hS0] at h_;exact h_) (hok0.mono (by omega)) (hk22_.pick [0] (by decide) rfl)
 refine wp_skip (aa (wq ?_))
 have hfit:S.D.log.size+(aC (aI note)).size<=1048576:=by rw[<-hD0];have h_:=It;simp at h_;omega
 refine aE [0,1,3,7,15,0,0,64,192,448,960,2047,4095] [[10],[],[],[0],[],[],[10],[],[],[0]] [[],[],[],[],[],[],[],[],[],[],[],[12]] [] [.c 31 (vp sb),.k 32 (vp sb),.k 33 (vp sb),.c 34 (vp db),.c 35 (.func (.func 69) #[vp db] #[]),.c 36 (.func (.func 70) #[] #[vp bB,vp gZ]),.c 37 (vp sb),.k 38 (vp sb),.k 39 (vp sb),.c 40 (vp db),.c 41 (.func (.func 63) #[vp db] #[]),.a 42,.a 6] (fun ix l g X=>match ix with|0|1|2|3|4|5|6|7|8|9|10=>True|11=>l 42= .slice (sA (g 42)) 3 3/\X 12=eO 52 1 (.slice (sA (g 42)) 3 3) 3 ([.func (.func 69) #[vp db] #[],.func (.func 70) #[] #[vp bB,vp gZ],.func (.func 63) #[vp db] #[]])|12=>l 6= .slice (sA (g 42)) 3 3|_=>True) [0,1,2,3,4,5,6,7,8,9,10,11,12] [0,3,4,5,6,9,10,11,12] [(6,12,1,7),(24,0,12,36)] dl ?_ ?_ ?_
 exact fun ix _ _ _ _ _ _ hs hb hx h=>match ix,h with
 |11,h=>by dsimp only;rw[<-hs 42 rfl,<-hb 42 rfl,<-hx 12 rfl];exact h
 |12,h=>by dsimp only;rw[<-hs 6 rfl,<-hb 42 rfl];exact h
 |0,_|1,_|2,_|3,_|4,_|5,_|6,_|7,_|8,_|9,_|10,_|_+13,_=>trivial
 refine⟨?_,?_,?_,?_,?_,?_,?_,?_,?_,trivial⟩
 exact xs4 rfl id fun cx=>ae rfl (by kernel_rfl) (cx.ou 2) ((cx.bi 10 rfl).cell 0)
 exact xs4 rfl id fun cx=>ae rfl (by kernel_rfl) (cx.an 2) ((cx.bi 0 rfl).cell 0)
 exact sv0 rfl rfl rfl rfl rfl (fun _ _ _ h=>h) fun b g W X cx=>by
  have PQ:b (.tmp 34)=vp db:=(cx.an 3)
  simp[go_sem,Instr.makeFunc,PQ]
 exact sv0 rfl rfl rfl rfl rfl (fun _ _ _ h=>h) fun b g W X cx=>by
  have oy:b (.tmp 2)=vp bB:=(cx.ou 2)
  have qT:b (.tmp 5)=vp gZ:=(cx.ou 5)
  simp[go_sem,Instr.makeFunc,oy,qT]
 exact xs4 rfl id fun cx=>ae rfl (by kernel_rfl) (cx.ou 2) ((cx.bi 10 rfl).cell 0)
 exact xs4 rfl id fun cx=>ae rfl (by kernel_rfl) (cx.an 8) ((cx.bi 0 rfl).cell 0)
 exact sv0 rfl rfl rfl rfl rfl (fun _ _ _ h=>h) fun b g W X cx=>by
  have PR:b (.tmp 40)=vp db:=(cx.an 9)
  simp[go_sem,Instr.makeFunc,PR]
 refine svA fun b g W X cx=>?_
 have Iu:b (.tmp 35)= .func (.func 69) #[vp db] #[]:=(cx.an 4)
 have PS:b (.tmp 36)= .func (.func 70) #[] #[vp bB,vp gZ]:=(cx.an 5)
 have zw:b (.tmp 41)= .func (.func 63) #[vp db] #[]:=(cx.an 10)
 exact dz (e:=52) (xs:=[.func (.func 69) #[vp db] #[],.func (.func 70) #[] #[vp bB,vp gZ],.func (.func 63) #[vp db] #[]]) rfl (by simp[go_sem,Iu,PS,zw]) rfl (by decide) rfl rfl (fun _ _ _ _ _=> .intro)
 exact sv rfl rfl rfl rfl rfl _ (fun _ _ _ h=>h) (fun g o h=>by rw[h 42 (by decide)]) fun b g W X cx=>cJ rfl (dTn (cx.an 11)).1
 intro l g X sk hD cv fr aD
 simp only[exq 12 ((dTn (hD 11 lq)).2)] at cv
 simp only[ed 42 ((dTn (hD 11 lq)).1),ed 6 ((dTn (hD 12 lq)))] at aD
 generalize sA (g 42)=MU at cv aD
 clear hD;subst aD;clear l g X
 refine aa (wq (wq ?_))
 obtain⟨fp24_,hk24_⟩:=St.stf (S:=S0) (cv) (hrw1) (hrr1)
 refine sqr (au 1 hk24_ ?_)
 refine sqk (vi ((S0.D.pgs.length:Int))) hk24_ (fun cx=>⟨_,oU sb db S0 _ (qJ (CtxV.holdF cx (cx.init 0 _ rfl) rfl)),(aw (cx.ou 43))⟩) fun w9 fw=>?_
 refine sqp [.k 45 (vi 0)] ?_
 refine aa (wp_block ?_)
 obtain⟨⟨hrw2,hrr2⟩,mb2,RA2,rc2,EA2,ec2,ib2,tb2,fpd2,hv28_⟩:=fw.unf
 have hA29_:=hv28_.nA kn
 refine aM (fun t_ mz az W=>∃k:Nat,∃bs:List (Int×Nat),∃m:Nat,∃SA:Option Addr,∃sc:Nat,k<=S0.D.pgs.length/\(∀x,x∈bs.map Prod.fst<->(∃t∈S0.pool,t.n=x)/\x<(k:Int))/\m=bs.length+3/\bs.length<=k/\mz=S0.D.pgs.length-k/\az=⟨(ovr (jv az) [(6,6,0,[.slice SA m sc]),(0,7,1,[]),(37,45,0,[vi ((k:Int))]),(0,46,14,[])] t_).toArray,[]⟩/\St w fp [eB bB 31 #[vp sb],eB gZ 27 #[vi 9,vi 0,vi 0,sn,sn,sn,sn,.string note],eB sb 109 #[vp db,vi S0.bufs,.map (some mb2),vi S0.time,.slice RA2 S0.recs.length rc2,.slice EA2 S0.recs.length ec2,.map (some ib2),.map (some tb2),vi S0.frm],eMx kcI ptX Tryz.prog 3 mb2 S0.pool.length (atM S0.pool),eA (List.map ft S0.pool),eM (List.map dm S0.rows),eO 27 8 (.slice RA2 S0.recs.length rc2) S0.recs.length (S0.recs.flatMap rcC),eO 3 1 (.slice EA2 S0.recs.length ec2) S0.recs.length ((cy S0.L S0.recs.length).map (Value.int .i64)),eRc S0.rr,eMx kcI ecB Tryz.prog 3 ib2 S0.ni (S0.im),eMx kcI ecB Tryz.prog 3 tb2 S0.nt (S0.told),eDk db S0.D fpd2,eO 52 1 (.slice SA m sc) m ((lF bB gZ db bs)),eA (bs.map kn)] W) (S0.D.pgs.length-0) ?_ ?_
 exact⟨0,[],3,MU,3,Nat.zero_le _,fun x=>⟨fun h=>(by cases h),fun h=>by obtain⟨⟨t,ht,rfl⟩,h2⟩:=h;have:=hok0.keys t ht;omega⟩,rfl,Nat.le_refl _,rfl,(by kernel_rfl),hA29_.pk [11,12,1,2,3,4,5,6,7,8,9,10,13,0]⟩
 rintro T7 a30 Fk ⟨k,bs,m,SA,sc,hk,hbs,hm,hbk,rfl,hj_,jp⟩
 refine ovz hj_ fun SS=>?_
 refine wq (sqr (sqp [.k 46 (.bool (decide ((k:Int)<(S0.D.pgs.length:Int))))] ?_))
 refine aa (wq (wds (fun gV kJ=>?_) fun gV kJ=>?_))
 refine wp_skip (aa (wq (wp_block (wq (sqr (sqp [.m 47 45] ?_))))))
 refine cf #[vi 0] jp fun jb w6 ej=>?_
 refine aY (n:=1) 14 #[vi ((k:Int))] ej fun zi ek=>?_
 refine aa (wq ?_)
 have hkn:kcI.ok (k:Int):=by have:=hok0.pgs;constructor<;>omega
 rcases Br S0.pool (k:Int) with hno|⟨A,t,B,hAB,hnt⟩
 refine bL [0,1,3,7,0,31,63] [[0],[],[],[2],[14],[3]] [.c 48 (vp sb),.k 49 (vp sb),.k 50 (po sb 2),.c 51 (.map (some mb2)),.c 52 (vi ((k:Int))),.c 53 (.pointer none),.c 54 (.bool false)] [0,1,2,3,4,5,6,7,8,9,10,11,12,13,14] [0,3,4,5,6] [(48,0,7,55)] ek ?_ fun zo eN=>?_
 refine⟨?_,?_,?_,?_,?_,trivial⟩
 exact xs4 rfl id fun cx=>ae rfl (by kernel_rfl) (cx.ou 2) ((cx.bi 0 rfl).cell 0)
 exact xs4 rfl id fun cx=>ae rfl (by kernel_rfl) (cx.an 2) ((cx.bi 2 rfl).cell 2)
 exact xs4 rfl id fun cx=>ae rfl (by kernel_rfl) (cx.ou 7) ((cx.bi 14 rfl).cell 0)
 exact xs4 rfl id fun cx=>(c9 (e:=115) (C:=ptX) (K:=kcI) (x:=(k:Int)) rfl (cx.an 3) (cx.an 4) (CtxV.mx cx (cx.init 3 _ rfl) rfl) (h0:=by rfl) (hx:=hkn) (hk:=show Program.underlying _ _= _ from by kernel_rfl)).trans (by rw[ks hno];rfl)
 exact sv0 rfl rfl rfl rfl rfl (fun _ _ _ h=>h) fun b g W X cx=>by
  have Iv:b (.tmp 53)= .pointer none:=(cx.an 5)
  simp[go_sem,cx.sees.const,Iv]
 refine aa (wcf rfl (wp_skip (av (aa (sqr (sqp [sI 59 ((k:Int)+1) (by omega),.m 45 59] ?_))))))
 refine aa ?_
 refine⟨S0.D.pgs.length-((k+1)),by omega,?_⟩
 exact⟨(k+1),bs,m,SA,sc,by omega,JT hbs hno,hm,by omega,rfl,(by kernel_rfl),eN.pk [0,1,2,3,4,5,6,7,8,9,10,11,12,13]⟩
 refine bL [0,1,3,7,0,31,63] [[0],[],[],[2],[14],[3]] [.c 48 (vp sb),.k 49 (vp sb),.k 50 (po sb 2),.c 51 (.map (some mb2)),.c 52 (vi ((k:Int))),.c 53 (po t.blk 0),.c 54 (.bool true)] [0,1,2,3,4,5,6,7,8,9,10,11,12,13,14] [0,3,4,5,6] [(48,0,7,55)] ek ?_ fun qM du=>?_
 refine⟨?_,?_,?_,?_,?_,trivial⟩
 exact xs4 rfl id fun cx=>ae rfl (by kernel_rfl) (cx.ou 2) ((cx.bi 0 rfl).cell 0)
 exact xs4 rfl id fun cx=>ae rfl (by kernel_rfl) (cx.an 2) ((cx.bi 2 rfl).cell 2)
 exact xs4 rfl id fun cx=>ae rfl (by kernel_rfl) (cx.ou 7) ((cx.bi 14 rfl).cell 0)
 exact xs4 rfl id fun cx=>(c9 (e:=115) (C:=ptX) (K:=kcI) (x:=(k:Int)) rfl (cx.an 3) (cx.an 4) (CtxV.mx cx (cx.init 3 _ rfl) rfl) (h0:=by rfl) (hx:=hkn) (hk:=show Program.underlying _ _= _ from by kernel_rfl)).trans (by rw[JP hok0.nodup hAB hnt];rfl)
 exact sv0 rfl rfl rfl rfl rfl (fun _ _ _ h=>h) fun b g W X cx=>by
  have Iv:b (.tmp 53)=po t.blk 0:=(cx.an 5)
  simp[go_sem,cx.sees.const,Iv]
 refine aa (wct rfl (sqr ?_))
 refine sqv (.func (.func 71) #[] #[vp bB,vp jb]) du (by
   exact sv0 rfl rfl rfl rfl rfl (fun _ _ _ h=>h) fun b g W X cx=>by
    have oy:b (.tmp 2)=vp bB:=(cx.ou 2)
    have FA:b (.tmp 7)=vp jb:=(cx.ou 7)
    simp[go_sem,Instr.makeFunc,oy,FA]) fun w7 ee=>?_
 refine d3 (fun x_=>sA x_) (fun vh=> .slice vh 1 1) (fun vh=>eO 52 1 (.slice vh 1 1) 1 ([.func (.func 71) #[] #[vp bB,vp jb]])) ee (by
   refine svA fun b g W X cx=>?_
   have Ig:b (.tmp 55)= .func (.func 71) #[] #[vp bB,vp jb]:=(cx.ou 55)
   exact dz (e:=52) (xs:=[.func (.func 71) #[] #[vp bB,vp jb]]) rfl (by simp[go_sem,Ig]) rfl (by decide) rfl rfl (fun _ _ _ _ _=> .intro)) fun vh IR j9=>?_
 refine sqp [.m 57 6] ?_
 refine tf (fun x_=>sA x_) (fun x_=>sC x_) (fun rj rk=> .slice rj (1+m) rk) (fun rj rk=>eO 52 1 (.slice rj (1+m) rk) (1+m) ((lF bB gZ db (((k:Int),jb)::bs)))) 15 j9 (by
   refine svA fun b g W X cx=>?_
   obtain⟨i0,hi0,hz0,hz1,hz2⟩:=info_parts Tryz.infoFnJ
   refine fg (n:=1) (m:=m) (nm:=1+m) (xs:=[.func (.func 71) #[] #[vp bB,vp jb]]) (news:=(lF bB gZ db bs)) (xs':=(lF bB gZ db (((k:Int),jb)::bs))) rfl (ty:=123) rfl (by kernel_rfl) hi0 hz0 hz1 hz2 rfl (cx.ou 56) cx (cx.init 15 _ rfl) rfl (cx.ou 57) ((og _ _ _ _).trans (by omega)) (At.of_own (cx.ri 12 rfl)) (JY _ _ _ _) (by simp only[maxLen];omega) (by omega) rfl rfl rfl (by omega) (rfl) (fun l o X' hs hb hv hx=>?_)
   exact⟨hv,hx⟩) fun rj rk LU lV=>?_
 refine sqp [.m 6 58] ?_
 refine av (aa (sqr (sqp [sI 59 ((k:Int)+1) (by omega),.m 45 59] ?_)))
 refine aa ?_
 have hN47_:=St.anf (x:=((k:Int),jb)) lV.u14.u14
 refine⟨S0.D.pgs.length-((k+1)),by omega,?_⟩
 exact⟨(k+1),(((k:Int),jb)::bs),1+m,rj,rk,by omega,Ku hbs (by rw[hAB];simp) hnt _,by rw[hm];simp only[List.length_cons];omega,by simp only[List.length_cons];omega,rfl,(by kernel_rfl),hN47_.pk [1,2,3,4,5,6,7,8,9,10,11,12,14,0]⟩
 refine wp_exit (al (al (bh (aa (wq (wq ?_))))))
 have hnsS0:∀x,x∈bs.map Prod.fst<->∃t∈S0.pool,t.n=x:=fun x=>⟨fun h=>((hbs x).1 h).1,fun⟨t,ht,hx⟩=>(hbs x).2 ⟨⟨t,ht,hx⟩,by have:=(hok0.keys t ht).2;omega⟩⟩
 have hnsS:∀x,x∈bs.map Prod.fst<->∃t∈S.pool,t.n=x:=by rw[<-hP0];exact hnsS0
 have hbl:(bs.map Prod.fst).length=bs.length:=List.length_map ..
 have hbk4:bs.length<=400:=by have:=hok0.pgs;omega
 obtain⟨fp48_,hk48_⟩:=St.stf (S:=S0) (jp.u11.u11.u11.u11.u11.u11.u11.u11.u11.u11) (hrw2) (hrr2)
 refine sqr (sqp [.m 60 6,.k 61 (vi ((m:Int))),.k 62 (vi 0)] ?_)
 refine aa (wp_block ?_)
 refine aM (fun t_ mz az W=>∃i:Nat,∃Si:StM,∃fpi:List Nat,i<=m/\CkI S0 (bs.map Prod.fst) note i Si/\SOk Si (c+i)/\(rcI (aI note))∈Si.rr/\Si.pool.map BfT.n=S0.pool.map BfT.n/\mz=m-i/\az=⟨(ovr (jv az) [(4,4,1,[]),(4,9,2,[]),(51,62,0,[vi ((i:Int))]),(0,63,9,[])] t_).toArray,[]⟩/\St w fp [eB bB 31 #[vp sb],eB gZ 27 #[vi 9,vi 0,vi 0,sn,sn,sn,sn,.string note],eO 52 1 (.slice SA m sc) m ((lF bB gZ db bs)),eA (bs.map kn),eSt sb db Si fpi] W) (m-0) ?_ ?_
 exact⟨0,S0,fp48_,Nat.zero_le _,.inl ⟨Nat.zero_le _,fun S2 er h=>h⟩,hok0,hrt0,rfl,rfl,(by kernel_rfl),hk48_.pk [1,2,3,4,0]⟩
 rintro Q6 a52 BD ⟨i,Si,fpi,hi,hCk,hokI,hrtI,hplI,rfl,hj_,cL⟩
 refine ovz hj_ fun PD=>?_
 rcases hCk.ways with ⟨hlt_,hcn⟩|⟨hie,hcl⟩|⟨hie,S1,hcl,fM,hSi⟩|⟨hie,S1,hcl,fM,hap⟩|⟨hie,S1,S2,hcl,fM,hap,hf0,hSi⟩
 obtain⟨x,hx⟩:∃x,bs[i]? =some x:=⟨_,List.getElem?_eq_getElem (by omega)⟩
 have hxm:x∈bs:=List.mem_of_getElem? hx
 obtain⟨t,hti,htx⟩:∃t∈Si.pool,t.n=x.1:=Hg hplI ((hnsS0 x.1).1 (List.mem_map.2 ⟨x,hxm,rfl⟩))
 obtain⟨A,B,hAB⟩:=List.append_of_mem hti
 have hdr:(bs.map Prod.fst).drop i=t.n::(bs.map Prod.fst).drop (i+1):=by rw[List.drop_eq_getElem_cons (by omega)];congr 1;rw[htx];exact(List.getElem?_eq_some_iff.1 ((List.getElem?_map ..).trans (by rw[hx];rfl))).2
 refine wq (sqr ?_)
 have hd54:(decide ((i:Int)<(m:Int)))=true:=decide_eq_true (by omega)
 refine sqp [.e 63 (.bool (decide ((i:Int)<(m:Int)))) (.bool true) (congrArg Value.bool hd54)] ?_
 refine aa (wq (wct rfl (wp_skip (aa (wq (wp_block (wq (sqr ?_))))))))
 refine sql (.pointer (some ((ad SA).add i))) cL (fun cx=>bG (e:=52) (m:=i) rfl (by kernel_rfl) (by kernel_rfl) (cx.ou 60) (cx.ou 62) (by omega) (by omega) (At.of_own (cx.ri 2 rfl)) (by rw[og];omega)) ?_
 refine sql (.func (.func 71) #[] #[vp bB,po x.2 0]) cL (fun cx=>ae rfl (by kernel_rfl) (cx.ou 64) (At.cellAd (At.of_own (cx.ri 2 rfl)) (LL hx))) ?_
 refine sqp [.m 9 65] ?_
 refine aa (wq (sqr (sqp [.m 66 9] ?_)))
 refine bN (fun X_=>X_.fp) (vi ((aL Si t).2)) (fun C6=>eSt sb db ((aL Si t).1) C6) 4 cL (by
   refine svA fun b g W X cx=>?_
   refine am.call (cN (f:=71) (args:=#[]) (args':=#[vp bB,po x.2 0]) rfl rfl (cx.ou 66) (by kernel_rfl) jc rfl) ?_
   refine(AB bB x.2 sb db Si A B t (c+i) _ _ (CtxV.holdF cx (cx.init 4 _ rfl) rfl) (CtxV.ltF cx (cx.init 4 _ rfl) rfl) (cx.bi 0 rfl) (CtxV.apF cx (cx.init 0 _ rfl) (cx.init 4 _ rfl) (xj _ _ _) rfl rfl (by decide)) (CtxV.apF cx (cx.init 3 _ rfl) (cx.init 4 _ rfl) (NJ hxm) rfl rfl (by decide)) (by rw[htx];exact Li (CtxV.holdF cx (cx.init 3 _ rfl) rfl) hxm) hokI (by omega) hAB).mono ?_
   rintro e W1 ⟨rfl,fp4,aQ⟩
   refine⟨_,rfl,aK (E:=eSt sb db Si fpi) [eSt sb db (aL Si t).1 fp4] (cx.init 4 _ rfl) rfl rfl aQ (fun l o X' hs hb hv hN=>?_)⟩
   have aJ:=(hv 67 rfl).1;have aR:=(hv 67 rfl).2
   exact⟨aJ.trans rfl,gP ((List.cons.inj hN).1)⟩) fun C6 Fp fW=>?_
 refine sqp [.m 10 67] ?_
 refine aa (wq (sqr (sqp [.m 68 10,.k 69 (.bool (((aL Si t).2) != 0))] ?_)))
 refine aa (wbs (fun vV=>?_) fun vV=>?_)
 have Oi:=bne_iff_ne.1 vV
 refine wq (sqr (sqp [.m 70 10,.m 4 70] ?_))
 refine aa (wp_ret (aV (ai (ai (aV (ai ?_))))))
 refine bpr (vi ((aL Si t).2)) (ag Tryz.results28 rpt) ?_
 exact jj.of (CkQ.cl (q:=S.rr++[(rcI (aI note))]) (ns:=bs.map Prod.fst) hn6 hfit hnsS (by rw[hS0];exact hcn _ _ (by rw[hdr];exact ClA.bad hti (by simpa using vV))) (by simpa using vV)) ((hokI.clean t hti).mono (by omega)) (fW.pick [4] (by decide) rfl)
 have Oi:=bne_eq_false_iff_eq.1 vV
 refine wp_skip (av (aa (sqr (sqp [sI 71 ((i:Int)+1) (by omega),.m 62 71] ?_))))
 refine aa ?_
 refine⟨m-((i+1)),by omega,?_⟩
 exact⟨(i+1),(aL Si t).1,C6,by omega,.inl ⟨by omega,fun S9 er h=>hcn S9 er (by rw[hdr];exact ClA.cons hti (by simpa using vV) h)⟩,(hokI.clean t hti).mono (by omega),by rw[(tU _ _).2.1];exact hrtI,(tU _ _).1.trans hplI,rfl,(by kernel_rfl),fW.pk [0,1,2,3,4]⟩
 refine wq (sqr ?_)
 have hd69:(decide ((i:Int)<(m:Int)))=true:=decide_eq_true (by omega)
 refine sqp [.e 63 (.bool (decide ((i:Int)<(m:Int)))) (.bool true) (congrArg Value.bool hd69)] ?_
 refine aa (wq (wct rfl (wp_skip (aa (wq (wp_block (wq (sqr ?_))))))))
 refine sql (.pointer (some ((ad SA).add i))) cL (fun cx=>bG (e:=52) (m:=i) rfl (by kernel_rfl) (by kernel_rfl) (cx.ou 60) (cx.ou 62) (by omega) (by omega) (At.of_own (cx.ri 2 rfl)) (by rw[og];omega)) ?_
 refine sql (.func (.func 69) #[vp db] #[]) cL (fun cx=>ae rfl (by kernel_rfl) (cx.ou 64) (At.cellAd (At.of_own (cx.ri 2 rfl)) (B2 (j:=0) (by omega)))) ?_
 refine sqp [.m 9 65] ?_
 refine aa (wq ?_)
 obtain⟨⟨hrw1,hrr1⟩,mb1,RA1,rc1,EA1,ec1,ib1,tb1,fpd1,hv73_⟩:=cL.u4.unf
 have hlzi:=hokI.lsz
 have hpgi:=hokI.pgs
 refine sqr (sqp [.m 66 9] ?_)
 refine bN (fun X_=>X_.fp) (vi ((opD Si.D 0 syD).2)) (fun FH=>eDk db ((opD Si.D 0 syD).1) FH) 9 hv73_ (by
   refine svA fun b g W X cx=>?_
   refine am.call (cN (f:=69) (args:=#[]) (args':=#[vp db]) rfl rfl (cx.ou 66) (by kernel_rfl) jc rfl) ?_
   refine(EW db Si.D _ _ (CtxV.holdF cx (cx.init 9 _ rfl) rfl) (CtxV.ltF cx (cx.init 9 _ rfl) rfl) (fun x hx=>Nat.le_trans (hokI.ws x hx) (by omega)) hpgi).mono ?_
   rintro e W1 ⟨rfl,fp4,aQ⟩
   refine⟨_,rfl,aK (E:=eDk db Si.D fpd1) [eDk db (opD Si.D 0 syD).1 fp4] (cx.init 9 _ rfl) rfl rfl aQ (fun l o X' hs hb hv hN=>?_)⟩
   have aJ:=(hv 67 rfl).1;have aR:=(hv 67 rfl).2
   exact⟨aJ.trans rfl,cK ((List.cons.inj hN).1)⟩) fun FH L6 kM=>?_
 refine sqp [.m 10 67] ?_
 refine aa (wq (sqr (sqp [.m 68 10,.k 69 (.bool (((opD Si.D 0 syD).2) != 0))] ?_)))
 refine aa (wbs (fun z6=>?_) fun z6=>?_)
 have Oj:=bne_iff_ne.1 z6
 refine wq (sqr (sqp [.m 70 10,.m 4 70] ?_))
 refine aa (wp_ret (aV (ai (ai (aV (ai ?_))))))
 refine bpr (vi ((opD Si.D 0 syD).2)) (ag Tryz.results28 rpt) ?_
 obtain⟨fp82_,hk82_⟩:=St.stf (S:=(dV Si (opD Si.D 0 syD).1)) (kM) (hrw1) (hrr1)
 exact jj.of (CkQ.sync (q:=S.rr++[(rcI (aI note))]) (ns:=bs.map Prod.fst) hn6 hfit hnsS (by rw[hS0];exact hcl) (by simpa using z6)) (hokI.sync.mono (by omega)) (hk82_.pick [0] (by decide) rfl)
 have Oj:=bne_eq_false_iff_eq.1 z6
 refine wp_skip (av (aa (sqr (sqp [sI 71 ((i:Int)+1) (by omega),.m 62 71] ?_))))
 refine aa ?_
 obtain⟨fp85_,hk85_⟩:=St.stf (S:=(dV Si (opD Si.D 0 syD).1)) (kM) (hrw1) (hrr1)
 refine⟨m-((i+1)),by omega,?_⟩
 exact⟨(i+1),(dV Si (opD Si.D 0 syD).1),fp85_,by omega,.inr (.inl ⟨by omega,Si,hcl,by simpa using z6,rfl⟩),hokI.sync.mono (by omega),hrtI,hplI,rfl,(by kernel_rfl),hk85_.pk [1,2,3,4,0]⟩
 refine wq (sqr ?_)
 have hd87:(decide ((i:Int)<(m:Int)))=true:=decide_eq_true (by omega)
 refine sqp [.e 63 (.bool (decide ((i:Int)<(m:Int)))) (.bool true) (congrArg Value.bool hd87)] ?_
 refine aa (wq (wct rfl (wp_skip (aa (wq (wp_block (wq (sqr ?_))))))))
 refine sql (.pointer (some ((ad SA).add i))) cL (fun cx=>bG (e:=52) (m:=i) rfl (by kernel_rfl) (by kernel_rfl) (cx.ou 60) (cx.ou 62) (by omega) (by omega) (At.of_own (cx.ri 2 rfl)) (by rw[og];omega)) ?_
 refine sql (.func (.func 70) #[] #[vp bB,vp gZ]) cL (fun cx=>ae rfl (by kernel_rfl) (cx.ou 64) (At.cellAd (At.of_own (cx.ri 2 rfl)) (B2 (j:=1) (by omega)))) ?_
 refine sqp [.m 9 65] ?_
 refine aa (wq (sqr (sqp [.m 66 9] ?_)))
 refine bN (fun X_=>X_.fp) (vi ((bu Si (rcI (aI note))).2)) (fun C7=>eSt sb db ((bu Si (rcI (aI note))).1) C7) 4 cL (by
   refine svA fun b g W X cx=>?_
   refine am.call (cN (f:=70) (args:=#[]) (args':=#[vp bB,vp gZ]) rfl rfl (cx.ou 66) (by kernel_rfl) jc rfl) ?_
   refine(AN bB gZ sb db Si (rcI (aI note)) (c+i) _ _ (CtxV.holdF cx (cx.init 4 _ rfl) rfl) (CtxV.ltF cx (cx.init 4 _ rfl) rfl) (cx.bi 0 rfl) (CtxV.apF cx (cx.init 0 _ rfl) (cx.init 4 _ rfl) (xj _ _ _) rfl rfl (by decide)) (CtxV.apF cx (cx.init 1 _ rfl) (cx.init 4 _ rfl) (xj _ _ _) rfl rfl (by decide)) (cx.bi 1 rfl) hokI (dy hn6) hrtI).mono ?_
   rintro e W1 ⟨rfl,fp4,aQ⟩
   refine⟨_,rfl,aK (E:=eSt sb db Si fpi) [eSt sb db (bu Si (rcI (aI note))).1 fp4] (cx.init 4 _ rfl) rfl rfl aQ (fun l o X' hs hb hv hN=>?_)⟩
   have aJ:=(hv 67 rfl).1;have aR:=(hv 67 rfl).2
   exact⟨aJ.trans rfl,gP ((List.cons.inj hN).1)⟩) fun C7 IZ kd=>?_
 refine sqp [.m 10 67] ?_
 refine aa (wq (sqr (sqp [.m 68 10,.k 69 (.bool (((bu Si (rcI (aI note))).2) != 0))] ?_)))
 refine aa (wbs (fun kz=>?_) fun kz=>?_)
 have C4:=bne_iff_ne.1 kz
 refine wq (sqr (sqp [.m 70 10,.m 4 70] ?_))
 refine aa (wp_ret (aV (ai (ai (aV (ai ?_))))))
 refine bpr (vi ((bu Si (rcI (aI note))).2)) (ag Tryz.results28 rpt) ?_
 exact jj.of (by have h_:=CkQ.app (q:=S.rr++[(rcI (aI note))]) (ns:=bs.map Prod.fst) hn6 hfit hnsS (by rw[hS0];exact hcl) fM (by rw[<-hSi];simpa using kz);rw[<-hSi] at h_;exact h_) ((hokI.append (dy hn6)).mono (by omega)) (kd.pick [4] (by decide) rfl)
 have C4:=bne_eq_false_iff_eq.1 kz
 refine wp_skip (av (aa (sqr (sqp [sI 71 ((i:Int)+1) (by omega),.m 62 71] ?_))))
 refine aa ?_
 refine⟨m-((i+1)),by omega,?_⟩
 exact⟨(i+1),(bu Si (rcI (aI note))).1,C7,by omega,.inr (.inr (.inl ⟨by omega,S1,hcl,fM,by rw[<-hSi];exact E9 (by simpa using kz) rfl⟩)),(hokI.append (dy hn6)).mono (by omega),by rw[(jC _ _).2.1];exact hrtI,by rw[(jC _ _).2.2.2.2.1];exact hplI,rfl,(by kernel_rfl),kd.pk [0,1,2,3,4]⟩
 refine wq (sqr ?_)
 have hd102:(decide ((i:Int)<(m:Int)))=true:=decide_eq_true (by omega)
 refine sqp [.e 63 (.bool (decide ((i:Int)<(m:Int)))) (.bool true) (congrArg Value.bool hd102)] ?_
 refine aa (wq (wct rfl (wp_skip (aa (wq (wp_block (wq (sqr ?_))))))))
 refine sql (.pointer (some ((ad SA).add i))) cL (fun cx=>bG (e:=52) (m:=i) rfl (by kernel_rfl) (by kernel_rfl) (cx.ou 60) (cx.ou 62) (by omega) (by omega) (At.of_own (cx.ri 2 rfl)) (by rw[og];omega)) ?_
 refine sql (.func (.func 63) #[vp db] #[]) cL (fun cx=>ae rfl (by kernel_rfl) (cx.ou 64) (At.cellAd (At.of_own (cx.ri 2 rfl)) (B2 (j:=2) (by omega)))) ?_
 refine sqp [.m 9 65] ?_
 refine aa (wq ?_)
 obtain⟨⟨hrw1,hrr1⟩,mb1,RA1,rc1,EA1,ec1,ib1,tb1,fpd1,hv106_⟩:=cL.u4.unf
 have hlzi:=hokI.lsz
 have hpgi:=hokI.pgs
 refine sqr (sqp [.m 66 9] ?_)
 refine bN (fun X_=>X_.fp) (vi ((opD Si.D 0 flD).2)) (fun BF=>eDk db ((opD Si.D 0 flD).1) BF) 9 hv106_ (by
   refine svA fun b g W X cx=>?_
   refine am.call (cN (f:=63) (args:=#[]) (args':=#[vp db]) rfl rfl (cx.ou 66) (by kernel_rfl) jc rfl) ?_
   refine(lS db Si.D _ _ (CtxV.holdF cx (cx.init 9 _ rfl) rfl) (CtxV.ltF cx (cx.init 9 _ rfl) rfl) (by omega)).mono ?_
   rintro e W1 ⟨rfl,fp4,aQ⟩
   refine⟨_,rfl,aK (E:=eDk db Si.D fpd1) [eDk db (opD Si.D 0 flD).1 fp4] (cx.init 9 _ rfl) rfl rfl aQ (fun l o X' hs hb hv hN=>?_)⟩
   have aJ:=(hv 67 rfl).1;have aR:=(hv 67 rfl).2
   exact⟨aJ.trans rfl,cK ((List.cons.inj hN).1)⟩) fun BF Pu oA=>?_
 refine sqp [.m 10 67] ?_
 refine aa (wq (sqr (sqp [.m 68 10,.k 69 (.bool (((opD Si.D 0 flD).2) != 0))] ?_)))
 refine aa (wbs (fun vj=>?_) fun vj=>?_)
 have MV:=bne_iff_ne.1 vj
 refine wq (sqr (sqp [.m 70 10,.m 4 70] ?_))
 refine aa (wp_ret (aV (ai (ai (aV (ai ?_))))))
 refine bpr (vi ((opD Si.D 0 flD).2)) (ag Tryz.results28 rpt) ?_
 obtain⟨fp115_,hk115_⟩:=St.stf (S:=(dV Si (opD Si.D 0 flD).1)) (oA) (hrw1) (hrr1)
 exact jj.of (CkQ.flush (q:=S.rr++[(rcI (aI note))]) (ns:=bs.map Prod.fst) hn6 hfit hnsS (by rw[hS0];exact hcl) fM hap (by simpa using vj)) (hokI.flush.mono (by omega)) (hk115_.pick [0] (by decide) rfl)
 have MV:=bne_eq_false_iff_eq.1 vj
 refine wp_skip (av (aa (sqr (sqp [sI 71 ((i:Int)+1) (by omega),.m 62 71] ?_))))
 refine aa ?_
 obtain⟨fp118_,hk118_⟩:=St.stf (S:=(dV Si (opD Si.D 0 flD).1)) (oA) (hrw1) (hrr1)
 refine⟨m-((i+1)),by omega,?_⟩
 exact⟨(i+1),(dV Si (opD Si.D 0 flD).1),fp118_,by omega,.inr (.inr (.inr ⟨by omega,S1,Si,hcl,fM,hap,by simpa using vj,rfl⟩)),hokI.flush.mono (by omega),hrtI,hplI,rfl,(by kernel_rfl),hk118_.pk [1,2,3,4,0]⟩
 refine wq (sqr ?_)
 have hd120:(decide ((i:Int)<(m:Int)))=false:=decide_eq_false (by omega)
 refine sqp [.e 63 (.bool (decide ((i:Int)<(m:Int)))) (.bool false) (congrArg Value.bool hd120)] ?_
 refine aa (wq (wcf rfl (wp_exit (al (al (bh (aa (wq ?_))))))))
 obtain⟨⟨hrw9,hrr9⟩,mb9,RA9,rc9,EA9,ec9,ib9,tb9,fpd9,hv121_⟩:=cL.u4.unf
 have hni9:=hokI.ni
 refine aE [0,0,2,6,14,30,63,127,255] [[10],[10],[],[],[0],[],[],[],[0]] [[],[],[],[],[],[],[],[],[14]] [[],[],[],[],[],[],[],[],[0]] [.c 72 (vp sb),.c 73 (vp sb),.k 74 (vp sb),.k 75 (po sb 4),.c 76 (.slice RA9 Si.recs.length rc9),.k 77 (vi ((Si.recs.length:Int))),.k 78 (vp sb),.k 79 (po sb 8),.n] (fun ix l g X=>match ix with|0|1|2|3|4|5|6|7=>True|8=>X 14=eB sb 109 #[vp db,vi Si.bufs,.map (some mb9),vi Si.time,.slice RA9 Si.recs.length rc9,.slice EA9 Si.recs.length ec9,.map (some ib9),.map (some tb9),vi ((Si.recs.length:Int))]|_=>True) [1,2,3,4,5,6,7,8,9,10,11,12,13,14] [0,1,4,8] [(72,0,8,80)] hv121_ ?_ ?_ ?_
 exact fun ix _ _ _ _ _ _ hs hb hx h=>match ix,h with
 |8,h=>by dsimp only;rw[<-hx 14 rfl];exact h
 |0,_|1,_|2,_|3,_|4,_|5,_|6,_|7,_|_+9,_=>trivial
 refine⟨?_,?_,?_,?_,trivial⟩
 exact xs4 rfl id fun cx=>ae rfl (by kernel_rfl) (cx.ou 2) ((cx.bi 10 rfl).cell 0)
 exact xs4 rfl id fun cx=>ae rfl (by kernel_rfl) (cx.ou 2) ((cx.bi 10 rfl).cell 0)
 exact xs4 rfl id fun cx=>ae rfl (by kernel_rfl) (cx.an 3) ((cx.bi 0 rfl).cell 4)
 refine svA fun b g W X cx=>?_
 exact bv (n:=1) rfl (cx.an 7) (cx.an 5) (by kernel_rfl) (by kernel_rfl) (by kernel_rfl) cx (cx.init 0 _ rfl) rfl (nle rfl) (by kernel_rfl) rfl rfl rfl (fun _ _ _ _ _=>id)
 intro l g X ST hD vk fr aD
 simp only[exq 14 ((dTn (hD 8 lq)))] at vk
 clear hD;subst aD;clear l g X
 refine aa (wq (sqr (au 9 vk ?_)))
 refine sqp [.k 81 (vp sb),.k 82 (po sb 6)] ?_
 refine au 13 vk ?_
 refine sqc (eMx kcI ecB Tryz.prog 3 ib9 0 (fun _=>none)) 6 vk (by
   refine svA fun b g W X cx=>?_
   exact BN (e:=4) (d:=0) rfl (cx.ou 83) cx (cx.init 6 _ rfl) rfl rfl rfl (fun _ _ _ _ _=>id)) fun SU MW=>?_
 refine aa (wq (sqr (sqp [.k 4 (vi 0)] ?_)))
 refine aa (wp_ret ?_)
 refine bpr (vi 0) (ag Tryz.results28 rpt) ?_
 obtain⟨fp129_,hk129_⟩:=St.stf (S:=(ckE Si)) (MW.u9.c0.u9.c0.u9.c0.u9.c0.u9) (hrw9) (hrr9)
 exact jj.of (by rw[hSi];exact CkQ.ok (q:=S.rr++[(rcI (aI note))]) (ns:=bs.map Prod.fst) hn6 hfit hnsS (by rw[hS0];exact hcl) fM hap hf0) (hokI.ckE.mono (by omega)) hk129_
end
section
open Go.RowKit
structure WI (S:StM) (told:Int->Bool):Prop where
 cur:∀n:Int,0<=n->n<(S.D.pgs.length:Int)->aG S n=ah S.L n
 im:∀n:Int,0<=n->n<(S.D.pgs.length:Int)->(S.im n).getD false=fv S.L n
 frm:S.frm=(bc S.L:Int)
 told:∀n:Int,0<=n->n<(S.D.pgs.length:Int)->(S.told n).getD false=told n
theorem Ev.L{S S':StM}(h:Ev S S'):S'.L=S.L:=by show S'.recs.map RcT.r= _;rw[h.recs]
theorem Ev.wi{S S':StM}{told:Int->Bool}(h:Ev S S')(hw:WI S told):WI S' told:=
 ⟨fun n h0 h1=>by rw[h.L,h.cur n h0];exact hw.cur n h0 (by rw[<-h.len];exact h1),fun n h0 h1=>by rw[h.L,h.im];exact hw.im n h0 (by rw[<-h.len];exact h1),by rw[h.L,h.frm];exact hw.frm,fun n h0 h1=>by rw[h.told];exact hw.told n h0 (by rw[<-h.len];exact h1)⟩
def ea(L:List RecM)(os:List Int):List RecM:=(os.filter fun n=>!fv L n).map fun n=>⟨8,0,n,[],aH (ah L n)⟩
def rfL(L:List RecM)(r:RecM):List RecM:=L++ea L (cE r.eds)++[r]
def rfE(pages:Nat)(L:List RecM)(r:RecM):Int:=
 if bz r=false\/r.kind=8\/r.kind=9 then 1 else if r.eds.any (dL pages)=true then 22 else if cm (ah L) r.eds≠0 then cm (ah L) r.eds else if 1048576<szF L+((aC r).size+szF (ea L (cE r.eds))) then 31 else 0
def rfT(told:Int->Bool)(L:List RecM)(r:RecM):Int->Bool:=fun n=>if n∈cE r.eds/\(ah L n).1≠0/\(bp (ah L) r.eds n).1=0 then false else told n
def rfD(pages:Nat)(L:List RecM)(told:Int->Bool)(r:RecM):List RecM×Int×Int×(Int->Bool):=if rfE pages L r=0 then (rfL L r,((rfL L r).length:Int),0,rfT told L r) else (L,0,rfE pages L r,told)
theorem tH(l:List EdT):∀(N M:Int->PgS),(∀e∈l,N e.1=M e.1)->cm N l=cm M l:=by
 induction l with
 |nil=>intro N M _;rfl
 |cons e l ih=>
  intro N M h
  rw[cm,cm,h e (by simp)]
  split
  refine ih _ _ fun x hx=>?_
  rw[eE,eE]
  rw[h e (by simp),h x (by simp[hx])]
  rfl
theorem tQ(l:List EdT)(n:Int):∀(N M:Int->PgS),(∀e∈l,N e.1=M e.1)->N n=M n->bp N l n=bp M l n:=by
 induction l with
 |nil=>intro N M _ h;exact h
 |cons e l ih=>
  intro N M h hn
  refine ih _ _ (fun x hx=>?_) ?_
  rw[eE,eE];rw[h e (by simp),h x (by simp[hx])]
  rw[eE,eE];rw[h e (by simp),hn]
theorem yJ{p q:PgS}{e:EdT}{a b:Int}(hp:bK p)(hq:bK q)(h1:p.1=q.1)(h2:p.2.2=q.2.2)(ha:0<=a/\a<=2147483647)(hb:0<=b/\b<=2147483647):doE p e a=doE q e b:=by
 have e1:=hp.1
 have e2:=hq.1
 have n1:¬(a<0\/2147483647<a):=by omega
 have n2:¬(b<0\/2147483647<b):=by omega
 rw[h2] at e1
 simp only[doE,dh,h2,e1,e2,if_neg n1,if_neg n2,h2,Bool.true_eq_false,if_false]
theorem xV{p q:PgS}{e:EdT}{a b:Int}(h1:p.1=q.1)(h2:p.2.2=q.2.2):(doV p e a).1=(doV q e b).1/\(doV p e a).2.2=(doV q e b).2.2:=by
 unfold doV
 split
 exact⟨rfl,rfl⟩
 exact⟨h1,by rw[h2]⟩
theorem DB{n lsn:Int}(hl:0<=lsn/\lsn<=2147483647):∀(l:List EdT) (N:Int->PgS) (p:PgS),(∀m,bK (N m))->bK p->p.1=(N n).1->p.2.2=(N n).2.2->cm N l=0->
  (bm n lsn p l).1=(bp N l n).1/\(bm n lsn p l).2.2=(bp N l n).2.2/\((∃e∈l,e.1=n)->(bm n lsn p l).2.1=lsn):=by
 intro l
 induction l with
 |nil=>intro N p _ _ h1 h2 _;exact⟨h1,h2,fun⟨e,he,_⟩=>by cases he⟩
 |cons e l ih=>
  intro N p hN hp h1 h2 h0
  rw[cm] at h0
  split at h0
  rename_i hd
  have hN2:∀m,bK (eE N e m):=fun m=>by
   unfold eE
   split
   exact kj hd
   exact hN m
  by_cases he:e.1=n
  have hd2:doE p e lsn=0:=by rw[yJ hp (hN n) h1 h2 hl (b:=1) (by omega),<-he];exact hd
  have e1:edA n lsn p e=doV p e lsn:=if_pos ⟨he,hd2⟩
  have e2:eE N e n=doV (N n) e 1:=by rw[eE];rw[if_pos he.symm,he]
  obtain⟨a,b,c⟩:=ih (eE N e) (doV p e lsn) hN2 (kj hd2) (by rw[e2];exact(xV h1 h2).1) (by rw[e2];exact(xV h1 h2).2) h0
  show (bm n lsn (edA n lsn p e) l).1= _/\(bm n lsn (edA n lsn p e) l).2.2= _/\(_->(bm n lsn (edA n lsn p e) l).2.1= _)
  rw[e1]
  refine⟨a,b,fun _=>?_⟩
  by_cases hx:∃x∈l,x.1=n
  exact c hx
  rw[sD (fun x hx1 hx2=>hx ⟨x,hx1,hx2⟩),Ka]
  have e1:edA n lsn p e=p:=if_neg (fun h=>he h.1)
  have e2:eE N e n=N n:=by rw[eE];rw[if_neg (fun h=>he h.symm)]
  obtain⟨a,b,c⟩:=ih (eE N e) p hN2 hp (by rw[e2];exact h1) (by rw[e2];exact h2) h0
  show (bm n lsn (edA n lsn p e) l).1= _/\(bm n lsn (edA n lsn p e) l).2.2= _/\(_->(bm n lsn (edA n lsn p e) l).2.1= _)
  rw[e1]
  refine⟨a,b,fun⟨x,hx,hn⟩=>?_⟩
  rcases List.mem_cons.1 hx with rfl|hx
  exact absurd hn he
  exact c ⟨x,hx,hn⟩
  rename_i hd;exact absurd h0 hd
theorem Gy{L:List RecM}{r:RecM}{n:Int}(hL:(L.length:Int)+1<=2147483647)(h0:cm (ah L) r.eds=0)(hn:n∈cE r.eds):ah (L++[r]) n=iu ((L.length:Int)+1) (bp (ah L) r.eds n):=by
 obtain⟨a,b,c⟩:=DB (n:=n) (lsn:=(L.length:Int)+1) (by omega) r.eds (ah L) (ah L n) (dC L) (dC L n) rfl rfl h0
 rw[gQ]
 exact Prod.ext a (Prod.ext (c (ko.1 hn)) b)
theorem Dm{L:List RecM}{r:RecM}{n:Int}(hn:n∉cE r.eds):ah (L++[r]) n=ah L n:=by
 rw[gQ,sD (fun e he h=>hn (ko.2 ⟨e,he,h⟩))]
theorem ol{L:List RecM}{os:List Int}:∀r∈ea L os,r.eds=[]/\r.kind=8/\∃n∈os,fv L n=false/\r=⟨8,0,n,[],aH (ah L n)⟩:=fun r hr=>by
 obtain⟨n,hn,rfl⟩:=List.mem_map.1 hr
 obtain⟨h1,h2⟩:=List.mem_filter.1 hn
 exact⟨rfl,rfl,n,h1,by simpa using h2,rfl⟩
theorem pa{L ims:List RecM}(h:∀r∈ims,r.eds=[])(n:Int):ah (L++ims) n=ah L n:=B0 fun r hr e he=>by rw[h r hr] at he;cases he
theorem Dl{ims:List RecM}(n:Int):∀(L:List RecM),(∀r∈ims,r.kind=8)->fv (L++ims) n=(fv L n||decide (n∈ims.map RecM.tbl)):=by
 induction ims with
 |nil=>intro L _;simp
 |cons r ims ih=>
  intro L h
  have e:L++r::ims=(L++[r])++ims:=by simp
  have hk:=h r (by simp)
  rw[e,ih _ (fun x hx=>h x (by simp[hx])),m6,if_neg (by rw[hk];decide),hk,Bool.or_assoc]
  congr 1
  rw[List.map_cons]
  by_cases ht:r.tbl=n
  rw[decide_eq_true (p:=n∈r.tbl::ims.map RecM.tbl) (by rw[ht];exact List.mem_cons_self)];simp[ht]
  have:(n∈r.tbl::ims.map RecM.tbl)=(n∈ims.map RecM.tbl):=propext ⟨fun h=>(List.mem_cons.1 h).elim (fun h=>absurd h.symm ht) id,List.mem_cons_of_mem _⟩
  simp only[this]
  rw[show (r.tbl==n)=false by simpa using ht,Bool.and_false,Bool.false_or]
theorem uA{ims:List RecM}:∀(L:List RecM),(∀r∈ims,r.kind≠9)->bc (L++ims)=bc L:=by
 induction ims with
 |nil=>intro L _;simp
 |cons r ims ih=>
  intro L h
  rw[show L++r::ims=(L++[r])++ims by simp,ih _ (fun x hx=>h x (by simp[hx])),e8,if_neg (h r (by simp))]
end
end Go.Proofs.YtcdjaepgahbhfaaGreat
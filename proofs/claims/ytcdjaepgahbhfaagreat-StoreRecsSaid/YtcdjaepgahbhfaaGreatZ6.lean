import Derived.Test.YtcdjaepgahbhfaaGreatZ5
set_option linter.unusedVariables false
set_option linter.unusedSimpArgs false
set_option maxRecDepth 100000
set_option maxHeartbeats 16000000
namespace Go.Proofs.YtcdjaepgahbhfaaGreat
variable{N:Int->PgS}{S S2:StM}{W w' w0:World}{a b er lsn sl:Int}{bor fp fp':List Nat}{bs l:List (Int×Nat)}{c db i j k sb:Nat}{e:EdT}{note s:ByteArray}{os:List Int}{p q:PgS}{r:RecM}{x:Int×Nat}
section
open Go.RowKit
theorem yg(s:ByteArray)(w:World)(hs:s.size<=9223372036854775807):
  Calls Tryz.prog 75 #[.string s] w (gM (.int .u32 (bg s)) w):=by
 go_enter Tryz.func75,Tryz.ntmps75
 go_wp2
 go_loop [3,4,5] (fun x y v=>∃k:Nat,v= .int .i64 k/\k<=s.size/\x= .int .i64 (adl (s.data.toList.take k)).1/\y= .int .i64 (adl (s.data.toList.take k)).2) (fun _ _ v=>s.size-(intOf v).toNat)
 case atStart=>exact⟨0,rfl,Nat.zero_le _,rfl,rfl⟩
 case round=>
  obtain⟨k,rfl,hk,rfl,rfl⟩:=hrel
  have hlt:=x8 (s.data.toList.take k)
  rcases Nat.lt_or_ge k s.size with hk1|hk1
  ·have HS:=Lib.hid (yS s k hk1)
   obtain⟨a,ha⟩:∃a,a=(adl (s.data.toList.take k)).1:=⟨_,rfl⟩
   obtain⟨b,hb⟩:∃b,b=(adl (s.data.toList.take k)).2:=⟨_,rfl⟩
   rw[<-ha,<-hb] at HS hlt |-
   obtain⟨hlt1,hlt2⟩:=hlt
   have hcb:s[k].toNat<256:=UInt8.toNat_lt _
   clear ha hb
   obtain⟨c,hc⟩:∃c:UInt8,c=s[k]:=⟨_,rfl⟩
   have HC:=Lib.hid hc
   have hk2:(k:Int)<(s.size:Int):=by omega
   have hk3:(0:Int)<=(k:Int):=by omega
   clear hc
   go_wp2
   go_round
   case rel=>exact⟨k+1,by go_num,by omega,by rw[HS.out];congr 1,by rw[HS.out];congr 1⟩
   case measure=>simp[intOf];omega
  obtain rfl:k=s.size:=by omega
  have e:s.data.toList.take s.size=s.data.toList:=List.take_of_length_le (by simp)
  rw[e] at hlt |-
  obtain⟨a,ha⟩:∃a,a=(adl s.data.toList).1:=⟨_,rfl⟩
  obtain⟨b,hb⟩:∃b,b=(adl s.data.toList).2:=⟨_,rfl⟩
  rw[<-ha,<-hb] at hlt |-
  obtain⟨hlt1,hlt2⟩:=hlt
  have HF:=Lib.hid (show bg s=b*65536+a by rw[bg,<-ha,<-hb])
  clear e ha hb
  go_wp2
  go_ret
  exact gM.int (by rw[HF.out];omega) (Ext.refl _)
def shN(N:Int)(k:Nat):Int:=N / 256^k
theorem IK(N:Int):shN N 0=N:=by simp[shN]
theorem Hk(N:Int)(k:Nat):(shN N k).fdiv (2^8)=shN N (k+1):=by
 rw[shN,shN,Int.fdiv_eq_ediv_of_nonneg _ (by decide),Int.pow_succ]
 exact Int.ediv_ediv_of_nonneg (Int.le_of_lt (Int.pow_pos (by decide)))
theorem D6(N:Int):ah N 0=⟨#[]⟩:=rfl
theorem wg(N:Int)(h:k<8):ah N (k+1)=strOfNums [shN N k % 256]++ah N k:=by
 apply ia
 rw[cV]
 unfold ah bl
 rw[strOfNums_data,strOfNums_data,strOfNums_data,<-List.map_append]
 congr 1
 have hu:IntKind.u64.wrap N=N % 18446744073709551616:=by rw[IntKind.wrap_u64]
 unfold lH shN
 rw[hu]
 rcases(by omega:k=0\/k=1\/k=2\/k=3\/k=4\/k=5\/k=6\/k=7) with rfl|rfl|rfl|rfl|rfl|rfl|rfl|rfl<;>
  simp only[Nat.reduceSub,Nat.reduceAdd,Int.reducePow,List.drop_succ_cons,List.drop_zero,List.cons_append,List.nil_append,List.cons.injEq,and_true]<;>omega
theorem LF{x:Int}(h:(decide (x<0)||decide (399<x))=true):false=edR (x,sl,s):=by
 have:inB x 0 399=false:=by
  simp only[Bool.or_eq_true,decide_eq_true_eq] at h
  unfold inB
  rcases h with h|h
  rw[decide_eq_false (by omega)];rfl
  rw[decide_eq_false (p:=x<=399) (by omega)];simp
 rw[lg,this];rfl
theorem Db{x:Int}(h:(decide (x<0)||decide (399<x))=false):inB x 0 399=true:=by
 simp only[Bool.or_eq_false_iff,decide_eq_false_iff_not] at h
 unfold inB
 rw[decide_eq_true (by omega),decide_eq_true (by omega)];rfl
theorem JE{x:Int}(h:(decide (x<0)||decide (399<x))=false)(h2:(sl== -1)=true):(((s.size:Int)==1)&&decide (bW (bl s) 0<=2))=edR (x,sl,s):=by
 rw[lg,Db h,if_pos (by simpa using h2),Bool.true_and,eT,Bool.not_or]
 congr 1
 rw[Bool.eq_iff_iff];simp;omega
 rw[Bool.eq_iff_iff];simp
theorem JB{x:Int}(h:(decide (x<0)||decide (399<x))=false)(h2:(sl== -1)=false):((decide (0<=sl)&&decide (sl<=23))&&decide ((s.size:Int)<=400))=edR (x,sl,s):=by
 rw[lg,Db h,if_neg (by simpa using h2),Bool.true_and];rfl
theorem A8(h:bC r=true->False):false=bC r:=by
 cases hr:bC r
 rfl
 exact(h hr).elim
theorem GC(h:RecOk r):true=bC r:=by
 symm
 simp only[bC,inB,Bool.and_eq_true,decide_eq_true_eq,List.all_eq_true]
 exact⟨h.kind,h.xid,h.tbl,by have:=h.many;omega,h.eds,by have:=h.note;omega⟩
theorem apn(s:ByteArray):s++(⟨#[]⟩:ByteArray)=s:=by apply ia;rw[cV];exact List.append_nil _
theorem KT(a b c:ByteArray):(a++b)++c=cg [a,b,c]:=by rw[bE,bE,bE,fT,apn,ByteArray.append_assoc]
theorem NT(a b c:ByteArray):(a++b)++c=cg [cg [a,b],c]:=by rw[bE,bE,bE,bE,fT,apn,apn,ByteArray.append_assoc]
theorem NG(a b c d:ByteArray):cg [a,b,c,d]=((a++b)++c)++d:=by rw[bE,bE,bE,bE,fT,apn,ByteArray.append_assoc,ByteArray.append_assoc]
theorem ND(a b c d e f:ByteArray):((((a++b)++c)++d)++e)++f=cg [a,b,c,d,e,f]:=by rw[bE,bE,bE,bE,bE,bE,fT,apn,ByteArray.append_assoc,ByteArray.append_assoc,ByteArray.append_assoc,ByteArray.append_assoc]
section
variable{P:Program}{o:Oper}{ρ:Operand->Value}{W:World}
theorem KC{t t':TypeId}{x y:Operand}{k k':IntKind}{z:Int}(h:o.op= .binOp .shr t x y t')(hx:ρ x= .int k a)(hy:ρ y= .int k' b)(hb:0<=b)(hz:a.fdiv (2^min b.toNat k.bits)=z):(execOp ρ o).run P W= .ok (.value (.int k z)) W:=by
 subst hz
 unfold execOp;rw[h]
 have:¬b<0:=by omega
 simp[hx,hy,eqGuard,binOp,Op.shift,this]
end
theorem e6(N:Int)(m:Nat)(w:World)(hm:m<=8):
  Calls Tryz.prog 74 #[.int .i64 N,.int .i64 ((m:Int))] w (Ret (.string (ah N m)) w):=by
 go_enter Tryz.func74,Tryz.ntmps74
 have aj:=St.start w
 refine wq (sqr (sqp [.k 4 (.string ⟨#[]⟩)] ?_))
 refine aa (wq (sqr (sqp [.k 5 (.string ⟨#[]⟩)] ?_)))
 refine aa (wq (wq (sqr (sqp [.k 6 (vi 0)] ?_))))
 refine aa (wp_block ?_)
 refine aN (fun t_ mz az W=>∃k:Nat,k<=m/\mz=m-k/\az=⟨(ovr (jv az) [(0,0,0,[vi (shN N k)]),(4,5,0,[.string (ah N k),vi ((k:Int))]),(0,7,14,[])] t_).toArray,[]⟩/\St w [] [] W) (m-0) ?_ ?_
 exact⟨0,by omega,rfl,(by rw[IK,D6];rfl),aj.pk []⟩
 rintro n4 a4 W4 ⟨k,hk,rfl,hj_,bc⟩
 refine ovz hj_ fun Q1=>?_
 refine wq (wq (sqr (sqp [.m 7 6,.m 8 1,.k 9 (.bool (decide ((k:Int)<(m:Int))))] ?_)))
 refine aa (wds (fun MA Ik=>?_) fun MA Ik=>?_)
 refine wp_skip (aa (wq (wp_block (wq (sqr (sqp [.m 12 0,sAn 13 .i64 (shN N k) 255 ((shN N k) % 256) (vW (shN N k) 8 (by decide)),sW 14 .u8 ((shN N k) % 256) ((shN N k) % 256) (IntWalk.u8_in _ (by omega))] ?_))))))
 refine ea (fun x_=>sA x_) (fun uS=> .slice uS 1 1) (fun uS=>eO 5 1 (.slice uS 1 1) 1 ([.int .u8 ((shN N k) % 256)])) bc (by
   refine svA fun d f W X cx=>?_
   have PI:d (.tmp 14)= .int .u8 ((shN N k) % 256):=(cx.ou 14)
   exact dy (e:=5) (xs:=[.int .u8 ((shN N k) % 256)]) rfl (by simp[go_sem,PI]) rfl (by decide) rfl rfl (fun _ _ _ _ _=> .intro)) fun uS Bs de=>?_
 refine sql (.string (strOfNums ([((shN N k) % 256)]))) de (fun cx=>kY (e:=5) rfl (by kernel_rfl) (by kernel_rfl) (by kernel_rfl) (cx.ou 15) (cx.ri 0 rfl)) ?_
 refine sqp [.m 17 5] ?_
 refine sql (.string (ah N (k+1))) de (fun cx=>(by rw[wg N (by omega)];exact tv rfl (cx.ou 16) (cx.ou 17) (by rw[strOfNums_size,aE N k (by omega)];first|omega|(simp only[List.length_cons,List.length_nil];omega)))) ?_
 refine sqp [.m 5 18] ?_
 refine aa (sqr (sqp [.m 19 0] ?_))
 refine sql (vi (shN N (k+1))) de (fun cx=>KC rfl (cx.ou 19) (cx.co _) (by decide) (Hk N k)) ?_
 refine sqp [.m 0 20] ?_
 refine av (aa (sqr (sqp [.m 10 6,sI 11 ((k:Int)+1) (by omega),.m 6 11] ?_)))
 refine aa ?_
 refine⟨m-((k+1)),by omega,?_⟩
 exact⟨(k+1),by omega,rfl,(by kernel_rfl),de.pk []⟩
 refine wp_exit (al (al (bf (aa (wq (sqr (sqp [.m 21 5,.m 4 21] ?_)))))))
 refine aa (wp_ret ?_)
 refine bpr (.string (ah N k)) (ag Tryz.results74 rpt) ?_
 exact Ret.of (by rw[show k=m by omega]) bc.ext
theorem kJ(s:ByteArray)(w:World)(hs:s.size<=65535):
  Calls Tryz.prog 139 #[.string s] w (Ret (.string (aY s)) w):=by
 have hp:=aE (s.size:Int) 2 (by omega)
 go_enter Tryz.func139,Tryz.ntmps139
 have aj:=St.start w
 refine wq (sqr (sqp [.k 2 (.string ⟨#[]⟩)] ?_))
 refine aa (wq (sqr (sqp [.m 3 0,.k 4 (vi ((s.size:Int)))] ?_)))
 refine sqk (.string (ah (s.size:Int) 2)) aj (fun cx=>⟨_,e6 (s.size:Int) 2 _ (by omega),(aM (cx.ou 4) (cx.co _))⟩) fun W4 bc=>?_
 refine sqp [.m 6 0,sS 7 (ah (s.size:Int) 2) s (by omega),.m 2 7] ?_
 refine aa (wp_ret ?_)
 refine bpr (.string ((ah (s.size:Int) 2)++s)) (ag Tryz.results139 rpt) ?_
 exact Ret.of rfl bc.ext
theorem Ad(x sl:Int)(s:ByteArray)(w:World)(hs:s.size<=9223372036854775807):
  Calls Tryz.prog 49 #[.agg #[.int .i64 x,.int .i64 sl,.string s]] w (Ret (.bool (edR (x,sl,s))) w):=by
 go_enter Tryz.func49,Tryz.ntmps49
 have aj:=St.start w
 refine wq (sqr ?_)
 refine b9 #[vi x,vi sl,.string s] aj fun aA W1 ay=>?_
 refine sqp [.k 2 (.bool false)] ?_
 refine aa (wq (wq (sqr (sqp [.k 3 (vp aA)] ?_))))
 refine aq 0 ay ?_
 refine sqp [.k 5 (.bool (decide (x<0))),.m 6 5] ?_
 refine d3 6 [7,8,9] ?_ rfl (fun hq=>?_) ?_
 rotate_left
 refine sqp [.k 7 (vp aA)] ?_
 refine aq 0 ay ?_
 refine sqp [.k 9 (.bool (decide (399<x)))] ?_
 exact sqe
 refine c5 ?_
 refine sqp [sPo 10 (decide (x<0)) (decide (399<x))] ?_
 refine aa (wbs (fun dn=>?_) fun dn=>?_)
 have g9:=dn
 simp only[zB] at g9
 refine wq (sqr (sqp [.k 2 (.bool false)] ?_))
 refine aa (wp_ret (ai ?_))
 refine bpr (.bool false) (ag Tryz.results49 rpt) ?_
 exact Ret.bool (LF dn) ay.ext
 have g9:=dn
 simp only[zB] at g9
 obtain⟨MB,MC⟩:=g9
 refine wp_skip (aa (wq (wq (sqr (sqp [.k 11 (po aA 1)] ?_)))))
 refine aq 0 ay ?_
 refine sqp [.k 13 (.bool (sl==(-1)))] ?_
 refine aa (wbs (fun dc=>?_) fun dc=>?_)
 ·have l9:=beq_iff_eq.1 dc
  refine wq (sqr (sqp [.k 14 (po aA 2)] ?_))
  refine aq 0 ay ?_
  refine sqp [.k 16 (vi ((s.size:Int))),.k 17 (.bool ((s.size:Int)==1)),.m 18 17] ?_
  refine d3 18 [19,20,21,22] ?_ rfl (fun hq=>?_) ?_
  rotate_left
  have hq_:=hq
  try simp only[zB] at hq_
  refine sqp [.k 19 (po aA 2)] ?_
  refine aq 0 ay ?_
  refine sql (.int .u8 (bW (bl s) 0)) ay (fun cx=>jY (m:=0) rfl (by kernel_rfl) (cx.ou 20) (cx.co _) (by omega) (by omega)) ?_
  refine sqp [.k 22 (.bool (decide (bW (bl s) 0<=2)))] ?_
  exact sqe
  refine c5 ?_
  refine sqp [sPa 23 ((s.size:Int)==1) (decide (bW (bl s) 0<=2)),.m 2 23] ?_
  refine aa (wp_ret (ai ?_))
  refine bpr (.bool (((s.size:Int)==1)&&(decide (bW (bl s) 0<=2)))) (ag Tryz.results49 rpt) ?_
  exact Ret.bool (JE dn dc) ay.ext
 have l9:=beq_eq_false_iff_ne.1 dc
 refine wp_skip (aa (wq (sqr (sqp [.k 24 (po aA 1)] ?_))))
 refine aq 0 ay ?_
 refine sqp [.k 26 (.bool (decide (0<=sl))),.m 27 26] ?_
 refine d3 27 [28,29,30] ?_ rfl (fun hq=>?_) ?_
 rotate_left
 refine sqp [.k 28 (po aA 1)] ?_
 refine aq 0 ay ?_
 refine sqp [.k 30 (.bool (decide (sl<=23)))] ?_
 exact sqe
 refine c5 ?_
 refine sqp [sPa 31 (decide (0<=sl)) (decide (sl<=23)),.m 32 31] ?_
 refine d3 32 [33,34,35,36] ?_ rfl (fun hq=>?_) ?_
 rotate_left
 refine sqp [.k 33 (po aA 2)] ?_
 refine aq 0 ay ?_
 refine sqp [.k 35 (vi ((s.size:Int))),.k 36 (.bool (decide ((s.size:Int)<=400)))] ?_
 exact sqe
 refine c5 ?_
 refine sqp [sPa 37 ((decide (0<=sl))&&(decide (sl<=23))) (decide ((s.size:Int)<=400)),.m 2 37] ?_
 refine aa (wp_ret ?_)
 refine bpr (.bool (((decide (0<=sl))&&(decide (sl<=23)))&&(decide ((s.size:Int)<=400)))) (ag Tryz.results49 rpt) ?_
 exact Ret.bool (JB dn dc) ay.ext
theorem sE(w:World):
  Calls Tryz.prog 50 #[sn] w (Ret (.bool true) w):=by
 go_enter Tryz.func50,Tryz.ntmps50
 have aj:=St.start w
 refine wq (sqr (sqp [.k 2 (.bool false)] ?_))
 refine aa (wq (wq (sqr (sqp [.k 3 (vi 0)] ?_))))
 refine aa (wp_block ?_)
 refine aN (fun t_ mz az W=>∃j:Nat,j<=0/\mz=0-j/\az=⟨(ovr (jv az) [(2,2,1,[vi ((j:Int))]),(0,4,12,[])] t_).toArray,[]⟩/\St w [] [] W) (0-0) ?_ ?_
 exact⟨0,Nat.zero_le _,rfl,(by kernel_rfl),aj.pk []⟩
 rintro n3 a3 W3 ⟨j,hj,rfl,hj_,aW⟩
 refine ovz hj_ fun Q2=>?_
 refine wq (wq (sqr ?_))
 have hd8:(decide ((j:Int)<0))=false:=(decide_eq_false (by omega))
 refine sqp [.m 4 3,.m 5 0,.k 6 (vi 0),.e 7 (.bool (decide ((j:Int)<0))) (.bool false) (congrArg Value.bool hd8)] ?_
 refine aa (wcf rfl (wp_exit (al (al (bf (aa (wq (sqr (sqp [.m 16 0,.k 17 (vi 0),.k 18 (.bool true),.k 2 (.bool true)] ?_)))))))))
 refine aa (wp_ret ?_)
 refine bpr (.bool true) (ag Tryz.results50 rpt) ?_
 exact Ret.bool (by decide) aW.ext
theorem Hj(w:World):
  Calls Tryz.prog 170 #[.int .i64 0] w (Ret (.string ⟨#[0]⟩) w):=by
 go_enter Tryz.func170,Tryz.ntmps170
 have aj:=St.start w
 refine wq (sqr (sqp [.k 2 (.string ⟨#[]⟩)] ?_))
 refine aa (wq (sqr (sqp [.m 3 0,sW 4 .u8 0 0 (by decide)] ?_)))
 refine ea (fun x_=>sA x_) (fun CR=> .slice CR 1 1) (fun CR=>eO 5 1 (.slice CR 1 1) 1 ([.int .u8 0])) aj (by
   refine svA fun d f W X cx=>?_
   have uG:d (.tmp 4)= .int .u8 0:=(cx.ou 4)
   exact dy (e:=5) (xs:=[.int .u8 0]) rfl (by simp[go_sem,uG]) rfl (by decide) rfl rfl (fun _ _ _ _ _=> .intro)) fun CR W4 bc=>?_
 refine sql (.string (strOfNums ([0]))) bc (fun cx=>kY (e:=5) rfl (by kernel_rfl) (by kernel_rfl) (by kernel_rfl) (cx.ou 5) (cx.ri 0 rfl)) ?_
 refine sqp [.m 2 6] ?_
 refine aa (wp_ret ?_)
 refine bpr (.string (strOfNums ([0]))) (ag Tryz.results170 rpt) ?_
 exact Ret.of rfl bc.ext
theorem ud(w:World):
  Calls Tryz.prog 140 #[sn] w (Ret (.string ⟨#[0]⟩) w):=by
 go_enter Tryz.func140,Tryz.ntmps140
 have aj:=St.start w
 refine wq (sqr (sqp [.k 2 (.string ⟨#[]⟩)] ?_))
 refine aa (wq (wq (sqr (sqp [.m 5 0] ?_))))
 refine sqk (.bool true) aj (fun cx=>⟨_,sE _,(ax (cx.ou 5))⟩) fun W3 aW=>?_
 refine sqp [.k 7 (.bool false)] ?_
 refine aa (wcf rfl (wp_skip (aa (wq (sqr (sqp [.m 8 0,.k 9 (vi 0)] ?_))))))
 refine sqk (.string ((⟨#[0]⟩:ByteArray))) aW (fun cx=>⟨_,Hj _,(ax (cx.ou 9))⟩) fun W7 aQ=>?_
 refine sqp [.m 3 10] ?_
 refine aa (wq (wq (sqr (sqp [.k 4 (vi 0)] ?_))))
 refine aa (wp_block ?_)
 refine aN (fun t_ mz az W=>∃j:Nat,j<=0/\mz=0-j/\az=⟨(ovr (jv az) [(4,4,0,[vi ((j:Int))]),(6,11,49,[])] t_).toArray,[]⟩/\St w [] [] W) (0-0) ?_ ?_
 exact⟨0,Nat.zero_le _,rfl,(by kernel_rfl),aQ.pk []⟩
 rintro T1 a10 wU ⟨j,hj,rfl,hj_,dO⟩
 refine ovz hj_ fun Sg=>?_
 refine wq (wq (sqr ?_))
 have hd15:(decide ((j:Int)<0))=false:=(decide_eq_false (by omega))
 refine sqp [.m 11 4,.m 12 0,.k 13 (vi 0),.e 14 (.bool (decide ((j:Int)<0))) (.bool false) (congrArg Value.bool hd15)] ?_
 refine aa (wcf rfl (wp_exit (al (al (bf (aa (wq (sqr (sqp [.m 60 3,.m 2 60] ?_)))))))))
 refine aa (wp_ret ?_)
 refine bpr (.string ((⟨#[0]⟩:ByteArray))) (ag Tryz.results140 rpt) ?_
 exact Ret.of rfl dO.ext
theorem mA(k x t:Int)(A:Option Addr)(c:Nat)(l:List EdT)(note:ByteArray)(w:World)(hA:At w A (l.flatMap edC))(hl:l.length<=1000000)(hz:∀e∈l,e.2.2.size<=9223372036854775807)(hns:note.size<=9223372036854775807):
  Calls Tryz.prog 16 #[.agg #[.int .i64 k,.int .i64 x,.int .i64 t,sn,sn,.slice A l.length c,sn,.string note]] w (Ret (.bool (bC ⟨k,x,t,l,note⟩)) w):=by
 go_enter Tryz.func16,Tryz.ntmps16
 have aj:=St.start w
 refine wq (sqr ?_)
 refine b9 #[vi k,vi x,vi t,sn,sn,.slice A l.length c,sn,.string note] aj fun aA W1 ay=>?_
 refine sqp [.k 2 (.bool false)] ?_
 refine aa (wq (wq (sqr (sqp [.k 6 (vp aA)] ?_))))
 refine aq 0 ay ?_
 refine sqp [.k 8 (.bool (decide (k<1))),.m 9 8] ?_
 refine d3 9 [10,11,12] ?_ rfl (fun hq=>?_) ?_
 rotate_left
 refine sqp [.k 10 (vp aA)] ?_
 refine aq 0 ay ?_
 refine sqp [.k 12 (.bool (decide (10<k)))] ?_
 exact sqe
 refine c5 ?_
 refine sqp [sPo 13 (decide (k<1)) (decide (10<k)),.m 14 13] ?_
 refine d3 14 [15,16,17] ?_ rfl (fun hq=>?_) ?_
 rotate_left
 refine sqp [.k 15 (po aA 1)] ?_
 refine aq 0 ay ?_
 refine sqp [.k 17 (.bool (decide (x<0)))] ?_
 exact sqe
 refine c5 ?_
 refine sqp [sPo 18 ((decide (k<1))||(decide (10<k))) (decide (x<0)),.m 19 18] ?_
 refine d3 19 [20,21,22] ?_ rfl (fun hq=>?_) ?_
 rotate_left
 refine sqp [.k 20 (po aA 1)] ?_
 refine aq 0 ay ?_
 refine sqp [.k 22 (.bool (decide (127<x)))] ?_
 exact sqe
 refine c5 ?_
 refine sqp [sPo 23 (((decide (k<1))||(decide (10<k)))||(decide (x<0))) (decide (127<x)),.m 24 23] ?_
 refine d3 24 [25,26,27] ?_ rfl (fun hq=>?_) ?_
 rotate_left
 refine sqp [.k 25 (po aA 2)] ?_
 refine aq 0 ay ?_
 refine sqp [.k 27 (.bool (decide (t<0)))] ?_
 exact sqe
 refine c5 ?_
 refine sqp [sPo 28 ((((decide (k<1))||(decide (10<k)))||(decide (x<0)))||(decide (127<x))) (decide (t<0)),.m 29 28] ?_
 refine d3 29 [30,31,32] ?_ rfl (fun hq=>?_) ?_
 rotate_left
 refine sqp [.k 30 (po aA 2)] ?_
 refine aq 0 ay ?_
 refine sqp [.k 32 (.bool (decide (65535<t)))] ?_
 exact sqe
 refine c5 ?_
 refine sqp [sPo 33 (((((decide (k<1))||(decide (10<k)))||(decide (x<0)))||(decide (127<x)))||(decide (t<0))) (decide (65535<t)),.m 34 33] ?_
 refine d3 34 [35,36,37,38] ?_ rfl (fun hq=>?_) ?_
 rotate_left
 refine sqp [.k 35 (po aA 5)] ?_
 refine aq 0 ay ?_
 refine sqp [.k 37 (vi ((l.length:Int))),.k 38 (.bool (decide (64<(l.length:Int))))] ?_
 exact sqe
 refine c5 ?_
 refine sqp [sPo 39 ((((((decide (k<1))||(decide (10<k)))||(decide (x<0)))||(decide (127<x)))||(decide (t<0)))||(decide (65535<t))) (decide (64<(l.length:Int))),.m 40 39] ?_
 refine d3 40 [41,42,43,44] ?_ rfl (fun hq=>?_) ?_
 rotate_left
 refine sqp [.k 41 (po aA 6)] ?_
 refine aq 0 ay ?_
 refine sqp [.k 43 (vi 0),.k 44 (.bool false)] ?_
 exact sqe
 refine c5 ?_
 refine sqp [sPo 45 (((((((decide (k<1))||(decide (10<k)))||(decide (x<0)))||(decide (127<x)))||(decide (t<0)))||(decide (65535<t)))||(decide (64<(l.length:Int)))) false,.m 46 45] ?_
 refine d3 46 [47,48,49,50] ?_ rfl (fun hq=>?_) ?_
 rotate_left
 refine sqp [.k 47 (po aA 7)] ?_
 refine aq 0 ay ?_
 refine sqp [.k 49 (vi ((note.size:Int))),.k 50 (.bool (decide (60000<(note.size:Int))))] ?_
 exact sqe
 refine c5 ?_
 refine sqp [sPo 51 ((((((((decide (k<1))||(decide (10<k)))||(decide (x<0)))||(decide (127<x)))||(decide (t<0)))||(decide (65535<t)))||(decide (64<(l.length:Int))))||false) (decide (60000<(note.size:Int)))] ?_
 refine aa (wbs (fun zu=>?_) fun zu=>?_)
 have xt:=zu
 simp only[zB] at xt
 refine wq (sqr (sqp [.k 2 (.bool false)] ?_))
 refine aa (wp_ret (ai ?_))
 refine bpr (.bool false) (ag Tryz.results16 rpt) ?_
 exact Ret.bool (A8 fun hh=>by have h1:=dU hh;have a1:=h1.kind;have a2:=h1.xid;have a3:=h1.tbl;have a4:=h1.many;have a5:=h1.note;dsimp only at a1 a2 a3 a4 a5;have h_:=zu;simp at h_;omega) ay.ext
 have xt:=zu
 simp only[zB] at xt
 obtain⟨⟨⟨⟨⟨⟨⟨⟨Q3,Q4⟩,Q5⟩,Q6⟩,Q7⟩,Q8⟩,Q9⟩,Ra⟩,Rb⟩:=xt
 refine wp_skip (aa (wq (wq (sqr (sqp [.k 3 (vi 0)] ?_)))))
 refine aa (wp_block ?_)
 refine aN (fun t_ mz az W=>∃j:Nat,j<=l.length/\(∀i x,i<j->l[i]? =some x->edR x=true)/\mz=l.length-j/\az=⟨(ovr (jv az) [(2,2,1,[vi ((j:Int))]),(0,4,1,[]),(47,52,15,[])] t_).toArray,[]⟩/\St w [] [eB aA 27 #[vi k,vi x,vi t,sn,sn,.slice A l.length c,sn,.string note]] W) (l.length-0) ?_ ?_
 exact⟨0,Nat.zero_le _,fun i x h=>absurd h (Nat.not_lt_zero i),rfl,(by kernel_rfl),ay.pk [0]⟩
 rintro Rc a52 Br ⟨j,hj,ha,rfl,hj_,cK⟩
 refine ovz hj_ fun PJ=>?_
 refine wq (wq (sqr (sqp [.m 52 3,.k 53 (po aA 5)] ?_)))
 refine aq 0 cK ?_
 refine sqp [.k 55 (vi ((l.length:Int))),.k 56 (.bool (decide ((j:Int)<(l.length:Int))))] ?_
 refine aa (wds (fun PK Ob=>?_) fun PK Ob=>?_)
 refine wp_skip (aa (wq (wp_block (wq ?_))))
 obtain⟨ep,es,eb,hek⟩:=kZ (l:=l) (k:=j) (by omega)
 have hez:eb.size<=9223372036854775807:=hz _ (List.mem_of_getElem? hek)
 refine sqr (sqp [.k 59 (po aA 5)] ?_)
 refine aq 0 cK ?_
 refine sqp [.m 61 3] ?_
 refine sql (.pointer (some ((ad A).add (j*3)))) cK (fun cx=>aB (e:=84) (m:=j) (sz:=3) rfl (by kernel_rfl) (by kernel_rfl) (cx.ou 60) (cx.ou 61) (by omega) (by omega) (hA.ext cx.upd.to_ext) (bj (sz:=3) bD (by decide) (by omega))) ?_
 refine sql (.agg #[vi ep,vi es,.string eb]) cK (fun cx=>bF (f:=edC) (m:=j) (sz:=3) (off:=0) (n:=3) rfl (by kernel_rfl) (by kernel_rfl) (cx.ou 62) rfl bD (hA.ext cx.upd.to_ext) hek (fun k hk=>match k,hk with|0,_=>rfl|1,_=>rfl|2,_=>rfl|k+3,hk=>absurd hk (by omega))) ?_
 refine sqk (.bool (edR (ep,es,eb))) cK (fun cx=>⟨_,Ad ep es eb _ hez,(ax (cx.ou 63))⟩) fun MD iJ=>?_
 refine sqp [.m 4 64] ?_
 refine aa (wq (sqr (sqp [.m 65 4,.k 66 (.bool (!(edR (ep,es,eb))))] ?_)))
 refine aa ?_
 rcases Bool.eq_false_or_eq_true (edR (ep,es,eb)) with zv|zv
 refine wp_cond_false (show Act.eval _ _= .bool false from(congrArg Value.bool (by rw[zv];rfl))) (wp_skip (av (aa (sqr (sqp [.m 57 3,sI 58 ((j:Int)+1) (by omega),.m 3 58] ?_)))))
 refine aa ?_
 refine⟨l.length-((j+1)),by omega,?_⟩
 exact⟨(j+1),by omega,xR ha hek (by simpa using zv),rfl,(by kernel_rfl),iJ.pk [0]⟩
 refine wp_cond_true (show Act.eval _ _= .bool true from(congrArg Value.bool (by rw[zv];rfl))) (wq (sqr (sqp [.k 2 (.bool false)] ?_)))
 refine aa (wp_ret (bb (ai (ai (bb (ai ?_))))))
 refine bpr (.bool false) (ag Tryz.results16 rpt) ?_
 exact Ret.bool (A8 fun hh=>by have h1:=(dU hh).eds _ (List.mem_of_getElem? hek);have h_:=zv;simp[h1] at h_) iJ.ext
 refine wp_exit (al (al (bf (aa (wq (wq (sqr (sqp [.k 5 (vi 0)] ?_))))))))
 refine aa (wp_block ?_)
 refine aN (fun t_ mz az W=>∃j2:Nat,j2<=0/\mz=0-j2/\az=⟨(ovr (jv az) [(2,2,1,[]),(2,5,0,[vi ((j2:Int))]),(61,67,21,[])] t_).toArray,[]⟩/\St w [] [eB aA 27 #[vi k,vi x,vi t,sn,sn,.slice A l.length c,sn,.string note]] W) (0-0) ?_ ?_
 exact⟨0,Nat.zero_le _,rfl,(by kernel_rfl),cK.pk [0]⟩
 rintro T2 a74 IV ⟨j2,hj2,rfl,hj_,g0⟩
 refine ovz hj_ fun Sm=>?_
 refine wq (wq (sqr (sqp [.m 67 5,.k 68 (po aA 6)] ?_)))
 refine aq 0 g0 ?_
 have hd80:(decide ((j2:Int)<0))=false:=(decide_eq_false (by omega))
 refine sqp [.k 70 (vi 0),.e 71 (.bool (decide ((j2:Int)<0))) (.bool false) (congrArg Value.bool hd80)] ?_
 refine aa (wcf rfl (wp_exit (al (al (bf (aa (wq (sqr (sqp [.k 88 (po aA 3)] ?_)))))))))
 refine aq 0 g0 ?_
 refine sqk (.bool true) g0 (fun cx=>⟨_,sE _,(ax (cx.ou 89))⟩) fun Re xu=>?_
 refine sqp [.k 91 (.bool true)] ?_
 refine c7 91 [92,93,94] rfl rfl ?_
 refine sqp [.k 92 (po aA 4)] ?_
 refine aq 0 xu ?_
 refine sqk (.bool true) xu (fun cx=>⟨_,sE _,(ax (cx.ou 93))⟩) fun OW pv=>?_
 refine sqp [.k 95 (.bool true),.k 2 (.bool true)] ?_
 refine aa (wp_ret ?_)
 refine bpr (.bool true) (ag Tryz.results16 rpt) ?_
 exact Ret.bool (GC (by have h_:=zu;simp at h_;exact⟨by dsimp only;omega,by dsimp only;omega,by dsimp only;omega,by dsimp only;omega,fun y hy=>by obtain⟨i,hi,rfl⟩:=List.mem_iff_getElem.1 hy;exact ha i _ (by dsimp only at hi;omega) (List.getElem?_eq_getElem hi),by dsimp only;omega⟩)) pv.ext
theorem xW(k x t:Int)(A:Option Addr)(c:Nat)(l:List EdT)(note:ByteArray)(w:World)(hA:At w A (l.flatMap edC))(hl:l.length<=1000000)(hz:∀e∈l,e.2.2.size<=9223372036854775807)(hns:note.size<=9223372036854775807):
  Calls Tryz.prog 73 #[.agg #[.int .i64 k,.int .i64 x,.int .i64 t,sn,sn,.slice A l.length c,sn,.string note]] w (Ret (.string (aw ⟨k,x,t,l,note⟩)) w):=by
 go_enter Tryz.func73,Tryz.ntmps73
 have aj:=St.start w
 refine wq (sqr ?_)
 refine b9 #[vi k,vi x,vi t,sn,sn,.slice A l.length c,sn,.string note] aj fun aA W1 ay=>?_
 refine sqp [.k 2 (.string ⟨#[]⟩)] ?_
 refine aa (wq (wq (sqr ?_)))
 refine bI 0 8 ay ?_
 refine sqk (.bool (bC ⟨k,x,t,l,note⟩)) ay (fun cx=>⟨_,mA k x t _ _ l note _ (hA.ext cx.upd.to_ext) hl hz hns,(ax (cx.ou 6))⟩) fun W4 bc=>?_
 refine sqp [.k 8 (.bool (!(bC ⟨k,x,t,l,note⟩)))] ?_
 refine aa ?_
 rcases Bool.eq_false_or_eq_true (bC ⟨k,x,t,l,note⟩) with dC|dC
 refine wp_cond_false (show Act.eval _ _= .bool false from(congrArg Value.bool (by rw[dC];rfl))) (wp_skip (aa (wq ?_)))
 have hrr:=dC
 have hro:=dU hrr
 have hrm:l.length<=64:=hro.many
 have hrn:note.size<=60000:=hro.note
 have pO:∀z:Int,(ah z 1).size=1:=fun z=>aE z 1 (by omega)
 have oq:∀z:Int,(ah z 2).size=2:=fun z=>aE z 2 (by omega)
 have htz:(aY ⟨#[0]⟩).size=3:=gV _
 refine bP [0,1,3,0,8,31,63,0,128,447,1023,0,2048,7103,15295,32767,0,65536,228287,490431,1048575,0,2097152,6291456,15694783,33554431,67108863] [[],[0],[],[],[0],[],[],[],[0],[],[],[],[0],[],[],[],[],[0],[],[],[],[],[0]] [.k 9 (vp aA),.c 10 (vi k),.c 11 (.string (ah k 1)),.k 12 (po aA 1),.c 13 (vi x),.c 14 (.string (ah x 1)),tS 15 (ah k 1) (ah x 1) (by simp only[ByteArray.size_append,pO,oq,htz];omega),.k 16 (po aA 2),.c 17 (vi t),.c 18 (.string (ah t 2)),tS 19 ((ah k 1)++(ah x 1)) (ah t 2) (by simp only[ByteArray.size_append,pO,oq,htz];omega),.k 20 (po aA 3),.c 21 (sn),.c 22 (.string ((⟨#[0]⟩:ByteArray))),.c 23 (.string (aY (⟨#[0]⟩:ByteArray))),tS 24 (((ah k 1)++(ah x 1))++(ah t 2)) (aY (⟨#[0]⟩:ByteArray)) (by simp only[ByteArray.size_append,pO,oq,htz];omega),.k 25 (po aA 4),.c 26 (sn),.c 27 (.string ((⟨#[0]⟩:ByteArray))),.c 28 (.string (aY (⟨#[0]⟩:ByteArray))),tS 29 ((((ah k 1)++(ah x 1))++(ah t 2))++(aY (⟨#[0]⟩:ByteArray))) (aY (⟨#[0]⟩:ByteArray)) (by simp only[ByteArray.size_append,pO,oq,htz];omega),.k 30 (po aA 5),.c 31 (.slice A l.length c),.k 32 (vi ((l.length:Int))),.c 33 (.string (ah (l.length:Int) 1)),tS 34 (((((ah k 1)++(ah x 1))++(ah t 2))++(aY (⟨#[0]⟩:ByteArray)))++(aY (⟨#[0]⟩:ByteArray))) (ah (l.length:Int) 1) (by simp only[ByteArray.size_append,pO,oq,htz];omega),.k 3 (.string ((((((ah k 1)++(ah x 1))++(ah t 2))++(aY (⟨#[0]⟩:ByteArray)))++(aY (⟨#[0]⟩:ByteArray)))++(ah (l.length:Int) 1)))] [0] [1,2,4,5,8,9,12,13,14,17,18,19,22,24] [(3,26,1,4),(5,0,26,31)] bc ?_ fun W7 aQ=>?_
 refine⟨?_,?_,?_,?_,?_,?_,?_,?_,?_,?_,?_,?_,?_,?_,trivial⟩
 exact xs4 rfl id fun cx=>ae rfl (by kernel_rfl) (cx.an 0) ((cx.bi 0 rfl).cell 0)
 exact xsc rfl id rfl rfl fun cx=>⟨_,e6 k 1 _ (by omega),(aM (cx.an 1) (cx.co _))⟩
 exact xs4 rfl id fun cx=>ae rfl (by kernel_rfl) (cx.an 3) ((cx.bi 0 rfl).cell 1)
 exact xsc rfl id rfl rfl fun cx=>⟨_,e6 x 1 _ (by omega),(aM (cx.an 4) (cx.co _))⟩
 exact xs4 rfl id fun cx=>ae rfl (by kernel_rfl) (cx.an 7) ((cx.bi 0 rfl).cell 2)
 exact xsc rfl id rfl rfl fun cx=>⟨_,e6 t 2 _ (by omega),(aM (cx.an 8) (cx.co _))⟩
 exact xs4 rfl id fun cx=>ae rfl (by kernel_rfl) (cx.an 11) ((cx.bi 0 rfl).cell 3)
 exact xsc rfl id rfl rfl fun cx=>⟨_,ud _,(ax (cx.an 12))⟩
 exact xsc rfl id rfl rfl fun cx=>⟨_,kJ (⟨#[0]⟩:ByteArray) _ (by decide),(ax (cx.an 13))⟩
 exact xs4 rfl id fun cx=>ae rfl (by kernel_rfl) (cx.an 16) ((cx.bi 0 rfl).cell 4)
 exact xsc rfl id rfl rfl fun cx=>⟨_,ud _,(ax (cx.an 17))⟩
 exact xsc rfl id rfl rfl fun cx=>⟨_,kJ (⟨#[0]⟩:ByteArray) _ (by decide),(ax (cx.an 18))⟩
 exact xs4 rfl id fun cx=>ae rfl (by kernel_rfl) (cx.an 21) ((cx.bi 0 rfl).cell 5)
 exact xsc rfl id rfl rfl fun cx=>⟨_,e6 (l.length:Int) 1 _ (by omega),(aM (cx.an 23) (cx.co _))⟩
 refine aa (wq (wq (sqr (sqp [.k 4 (vi 0)] ?_))))
 refine aa (wp_block ?_)
 refine aN (fun t_ mz az W=>∃j:Nat,∃sj:ByteArray,j<=l.length/\sj=cT (hdB ⟨k,x,t,l,note⟩) (l.take j)/\mz=l.length-j/\az=⟨(ovr (jv az) [(3,3,0,[.string sj,vi ((j:Int))]),(30,35,33,[])] t_).toArray,[]⟩/\St w [] [eB aA 27 #[vi k,vi x,vi t,sn,sn,.slice A l.length c,sn,.string note]] W) (l.length-0) ?_ ?_
 exact⟨0,(((((ah k 1)++(ah x 1))++(ah t 2))++(aY (⟨#[0]⟩:ByteArray)))++(aY (⟨#[0]⟩:ByteArray)))++(ah (l.length:Int) 1),Nat.zero_le _,ND _ _ _ _ _ _,rfl,(by kernel_rfl),aQ.pk [0]⟩
 rintro n9 a9 W9 ⟨j,sj,hj,hsj,rfl,hj_,cv⟩
 refine ovz hj_ fun Qx=>?_
 refine wq (wq (sqr (sqp [.m 35 4,.k 36 (po aA 5)] ?_)))
 refine aq 0 cv ?_
 refine sqp [.k 38 (vi ((l.length:Int))),.k 39 (.bool (decide ((j:Int)<(l.length:Int))))] ?_
 refine aa (wds (fun dH kQ=>?_) fun dH kQ=>?_)
 refine wp_skip (aa (wq (wp_block ?_)))
 obtain⟨ep,es,eb,hek⟩:=kZ (l:=l) (k:=j) (by omega)
 have her:edR (ep,es,eb)=true:=hro.eds _ (List.mem_of_getElem? hek)
 have hez:eb.size<=400:=dx her
 obtain⟨hep_,hes_⟩:=kV her
 have hes_: -1<=es/\es<=23:=hes_
 have hsz:=k9 (l:=l.take j) (fun e he=>dx (hro.eds e (List.mem_of_mem_take he))) (hdB ⟨k,x,t,l,note⟩)
 rw[<-hsj,iM,List.length_take] at hsz
 have htb:=gV eb
 refine bP [0,0,2,0,14,30,62,126,255,0,512,0,3584,7680,15872,32256,65278,131071,0,262144,0,1835008,3932160,8126464,16645886,33554431,67108863] [[],[],[0],[],[],[],[],[],[],[],[0],[],[],[],[],[],[],[],[],[0]] [.k 42 (.string sj),.k 43 (po aA 5),.c 44 (.slice A l.length c),.k 45 (vi ((j:Int))),.c 46 (.pointer (some ((ad A).add (j*3)))),.c 47 (.pointer (some ((ad A).add (j*3+0)))),.c 48 (vi ep),.c 49 (.string (ah ep 2)),tS 50 sj (ah ep 2) (by simp only[ByteArray.size_append,pO,oq,htz];omega),.k 51 (po aA 5),.c 52 (.slice A l.length c),.k 53 (vi ((j:Int))),.c 54 (.pointer (some ((ad A).add (j*3)))),.c 55 (.pointer (some ((ad A).add (j*3+1)))),.c 56 (vi es),tI 57 (es+1) (by omega),.c 58 (.string (ah (es+1) 1)),tS 59 (sj++(ah ep 2)) (ah (es+1) 1) (by simp only[ByteArray.size_append,pO,oq,htz];omega),.k 60 (po aA 5),.c 61 (.slice A l.length c),.k 62 (vi ((j:Int))),.c 63 (.pointer (some ((ad A).add (j*3)))),.c 64 (.pointer (some ((ad A).add (j*3+2)))),.c 65 (.string eb),.c 66 (.string (aY eb)),tS 67 ((sj++(ah ep 2))++(ah (es+1) 1)) (aY eb) (by simp only[ByteArray.size_append,pO,oq,htz];omega),.k 3 (.string (((sj++(ah ep 2))++(ah (es+1) 1))++(aY eb)))] [0] [2,4,5,6,7,10,12,13,14,16,19,21,22,23,24] [(3,26,1,4),(38,0,26,64)] cv ?_ fun qH dw=>?_
 refine⟨?_,?_,?_,?_,?_,?_,?_,?_,?_,?_,?_,?_,?_,?_,?_,trivial⟩
 exact xs4 rfl id fun cx=>ae rfl (by kernel_rfl) (cx.an 1) ((cx.bi 0 rfl).cell 5)
 exact xs4 rfl id fun cx=>aB (e:=84) (m:=j) (sz:=3) rfl (by kernel_rfl) (by kernel_rfl) (cx.an 2) (cx.an 3) (by omega) (by omega) (hA.ext cx.upd.to_ext) (bj (sz:=3) bD (by decide) (by omega))
 exact xs4 rfl id fun cx=>bt rfl (by kernel_rfl) (cx.an 4)
 exact xs4 rfl id fun cx=>ae rfl (by kernel_rfl) (cx.an 5) (At.eltc (f:=edC) (k:=0) bD (hA.ext cx.upd.to_ext) hek rfl)
 exact xsc rfl id rfl rfl fun cx=>⟨_,e6 ep 2 _ (by omega),(aM (cx.an 6) (cx.co _))⟩
 exact xs4 rfl id fun cx=>ae rfl (by kernel_rfl) (cx.an 9) ((cx.bi 0 rfl).cell 5)
 exact xs4 rfl id fun cx=>aB (e:=84) (m:=j) (sz:=3) rfl (by kernel_rfl) (by kernel_rfl) (cx.an 10) (cx.an 11) (by omega) (by omega) (hA.ext cx.upd.to_ext) (bj (sz:=3) bD (by decide) (by omega))
 exact xs4 rfl id fun cx=>bt rfl (by kernel_rfl) (cx.an 12)
 exact xs4 rfl id fun cx=>ae rfl (by kernel_rfl) (cx.an 13) (At.eltc (f:=edC) (k:=1) bD (hA.ext cx.upd.to_ext) hek rfl)
 exact xsc rfl id rfl rfl fun cx=>⟨_,e6 (es+1) 1 _ (by omega),(aM (cx.an 15) (cx.co _))⟩
 exact xs4 rfl id fun cx=>ae rfl (by kernel_rfl) (cx.an 18) ((cx.bi 0 rfl).cell 5)
 exact xs4 rfl id fun cx=>aB (e:=84) (m:=j) (sz:=3) rfl (by kernel_rfl) (by kernel_rfl) (cx.an 19) (cx.an 20) (by omega) (by omega) (hA.ext cx.upd.to_ext) (bj (sz:=3) bD (by decide) (by omega))
 exact xs4 rfl id fun cx=>bt rfl (by kernel_rfl) (cx.an 21)
 exact xs4 rfl id fun cx=>ae rfl (by kernel_rfl) (cx.an 22) (At.eltc (f:=edC) (k:=2) bD (hA.ext cx.upd.to_ext) hek rfl)
 exact xsc rfl id rfl rfl fun cx=>⟨_,kJ eb _ (by omega),(ax (cx.an 23))⟩
 refine av (aa (sqr (sqp [.m 40 4,sI 41 ((j:Int)+1) (by omega),.m 4 41] ?_)))
 refine aa ?_
 refine⟨l.length-((j+1)),by omega,?_⟩
 exact⟨(j+1),(((sj++(ah ep 2))++(ah (es+1) 1))++(aY eb)),by omega,by rw[wm hek,<-hsj];exact(NG _ _ _ _).symm,rfl,(by kernel_rfl),dw.pk [0]⟩
 refine wp_exit (al (al (bf (aa (wq ?_)))))
 obtain rfl:j=l.length:=by omega
 rw[List.take_length] at hsj
 have hsz:=k9 (l:=l) (fun e he=>dx (hro.eds e he)) (hdB ⟨k,x,t,l,note⟩)
 rw[<-hsj,iM] at hsz
 have htn:=gV note
 refine sqr (sqp [.m 68 3,.k 69 (po aA 6)] ?_)
 refine aq 0 cv ?_
 refine sqp [.k 71 (vi 0)] ?_
 refine sqk (.string (ah 0 1)) cv (fun cx=>⟨_,e6 0 1 _ (by omega),(aM (cx.ou 71) (cx.co _))⟩) fun y9 fa=>?_
 refine sqp [sS 73 sj (ah 0 1) (by simp only[ByteArray.size_append,pO,oq,htz];omega),.m 3 73] ?_
 refine aa (wq (wq (sqr (sqp [.k 5 (vi 0)] ?_))))
 refine aa (wp_block ?_)
 refine aN (fun t_ mz az W=>∃j2:Nat,j2<=0/\mz=0-j2/\az=⟨(ovr (jv az) [(5,5,0,[vi ((j2:Int))]),(68,74,15,[])] t_).toArray,[]⟩/\St w [] [eB aA 27 #[vi k,vi x,vi t,sn,sn,.slice A l.length c,sn,.string note]] W) (0-0) ?_ ?_
 exact⟨0,Nat.zero_le _,rfl,(by kernel_rfl),fa.pk [0]⟩
 rintro T3 a28 zh ⟨j2,hj2,rfl,hj_,dS⟩
 refine ovz hj_ fun Sn=>?_
 refine wq (wq (sqr (sqp [.m 74 5,.k 75 (po aA 6)] ?_)))
 refine aq 0 dS ?_
 have hd34:(decide ((j2:Int)<0))=false:=(decide_eq_false (by omega))
 refine sqp [.k 77 (vi 0),.e 78 (.bool (decide ((j2:Int)<0))) (.bool false) (congrArg Value.bool hd34)] ?_
 refine aa (wcf rfl (wp_exit (al (al (bf (aa (wq (sqr (sqp [.m 89 3,.k 90 (po aA 7)] ?_)))))))))
 refine aq 0 dS ?_
 refine sqk (.string (aY note)) dS (fun cx=>⟨_,kJ note _ (by omega),(ax (cx.ou 91))⟩) fun zi gG=>?_
 refine sqp [sS 93 (sj++(ah 0 1)) (aY note) (by simp only[ByteArray.size_append,pO,oq,htz];omega),.m 2 93] ?_
 refine aa (wp_ret ?_)
 refine bpr (.string ((sj++(ah 0 1))++(aY note))) (ag Tryz.results73 rpt) ?_
 exact Ret.of (congrArg Value.string (by rw[aw,if_pos hrr,<-hsj];exact(NT _ _ _))) gG.ext
 refine wp_cond_true (show Act.eval _ _= .bool true from(congrArg Value.bool (by rw[dC];rfl))) (wq (sqr (sqp [.k 2 (.string ⟨#[]⟩)] ?_)))
 refine aa (wp_ret (ai ?_))
 refine bpr (.string ⟨#[]⟩) (ag Tryz.results73 rpt) ?_
 exact Ret.of (by rw[aw,dC];rfl) bc.ext
theorem jT(k x t:Int)(A:Option Addr)(c:Nat)(l:List EdT)(note:ByteArray)(w:World)(hA:At w A (l.flatMap edC))(hl:l.length<=1000000)(hz:∀e∈l,e.2.2.size<=9223372036854775807)(hns:note.size<=9223372036854775807):
  Calls Tryz.prog 29 #[.agg #[.int .i64 k,.int .i64 x,.int .i64 t,sn,sn,.slice A l.length c,sn,.string note]] w (Ret (.string (aC ⟨k,x,t,l,note⟩)) w):=by
 go_enter Tryz.func29,Tryz.ntmps29
 have aj:=St.start w
 refine wq (sqr ?_)
 refine b9 #[vi k,vi x,vi t,sn,sn,.slice A l.length c,sn,.string note] aj fun aA W1 ay=>?_
 refine sqp [.k 2 (.string ⟨#[]⟩)] ?_
 refine aa (wq (wq (sqr ?_)))
 refine bI 0 8 ay ?_
 refine sqk (.bool (bC ⟨k,x,t,l,note⟩)) ay (fun cx=>⟨_,mA k x t _ _ l note _ (hA.ext cx.upd.to_ext) hl hz hns,(ax (cx.ou 4))⟩) fun W4 bc=>?_
 refine sqp [.k 6 (.bool (!(bC ⟨k,x,t,l,note⟩)))] ?_
 refine aa ?_
 rcases Bool.eq_false_or_eq_true (bC ⟨k,x,t,l,note⟩) with dC|dC
 refine wp_cond_false (show Act.eval _ _= .bool false from(congrArg Value.bool (by rw[dC];rfl))) (wp_skip (aa (wq (sqr ?_))))
 refine bI 0 8 bc ?_
 refine sqk (.string (aw ⟨k,x,t,l,note⟩)) bc (fun cx=>⟨_,xW k x t _ _ l note _ (hA.ext cx.upd.to_ext) hl hz hns,(ax (cx.ou 7))⟩) fun W8 dB=>?_
 refine sqp [.m 3 8] ?_
 refine aa (wq ?_)
 have hbz:=jq ⟨k,x,t,l,note⟩
 have hsl:=kx (aw ⟨k,x,t,l,note⟩)
 have y7:∀z:Int,(ah z 4).size=4:=fun z=>aE z 4 (by omega)
 refine sqr (sqp [.m 9 3,.k 10 (vi (((aw ⟨k,x,t,l,note⟩).size:Int)))] ?_)
 refine sqk (.string (ah ((aw ⟨k,x,t,l,note⟩).size:Int) 4)) dB (fun cx=>⟨_,e6 ((aw ⟨k,x,t,l,note⟩).size:Int) 4 _ (by omega),(aM (cx.ou 10) (cx.co _))⟩) fun Bs de=>?_
 refine sqp [.m 12 3] ?_
 refine sqk (.int .u32 ((bg (aw ⟨k,x,t,l,note⟩):Int))) de (fun cx=>⟨_,yg (aw ⟨k,x,t,l,note⟩) _ (by omega),(ax (cx.ou 12))⟩) fun wY cq=>?_
 refine sqp [sW 14 .i64 (bg (aw ⟨k,x,t,l,note⟩):Int) (bg (aw ⟨k,x,t,l,note⟩):Int) (IntWalk.i64_in _ (by omega))] ?_
 refine sqk (.string (ah (bg (aw ⟨k,x,t,l,note⟩):Int) 4)) cq (fun cx=>⟨_,e6 (bg (aw ⟨k,x,t,l,note⟩):Int) 4 _ (by omega),(aM (cx.ou 14) (cx.co _))⟩) fun qH dw=>?_
 refine sqp [sS 16 (ah ((aw ⟨k,x,t,l,note⟩).size:Int) 4) (ah (bg (aw ⟨k,x,t,l,note⟩):Int) 4) (by simp only[ByteArray.size_append,y7];omega),.m 17 3,sS 18 ((ah ((aw ⟨k,x,t,l,note⟩).size:Int) 4)++(ah (bg (aw ⟨k,x,t,l,note⟩):Int) 4)) (aw ⟨k,x,t,l,note⟩) (by simp only[ByteArray.size_append,y7];omega),.m 2 18] ?_
 refine aa (wp_ret ?_)
 refine bpr (.string (((ah ((aw ⟨k,x,t,l,note⟩).size:Int) 4)++(ah (bg (aw ⟨k,x,t,l,note⟩):Int) 4))++(aw ⟨k,x,t,l,note⟩))) (ag Tryz.results29 rpt) ?_
 exact Ret.of (congrArg Value.string (by rw[aC,if_pos dC];exact KT _ _ _)) dw.ext
 refine wp_cond_true (show Act.eval _ _= .bool true from(congrArg Value.bool (by rw[dC];rfl))) (wq (sqr (sqp [.k 2 (.string ⟨#[]⟩)] ?_)))
 refine aa (wp_ret (ai ?_))
 refine bpr (.string ⟨#[]⟩) (ag Tryz.results29 rpt) ?_
 exact Ret.of (by rw[aC,dC];rfl) bc.ext
end
section
open Go.RowKit
theorem DQ{L:List RecM}{n:Nat}(h:L.length=n+1):(cM L L.length)[n]? =some (szF L:Int):=by
 rw[cM,List.getElem?_map,List.getElem?_range (by omega)]
 rw[Option.map_some,<-h,List.take_length]
theorem yK(h:RdR S lsn r S2 er)(h0:er=0):RdR S lsn r S2 0:=h0 ▸ h
theorem Ey(db:Nat)(D:DkM)(bufs:Int)(L:List RecM)(tl:ByteArray)(c:Nat)(fp:List Nat)(w:World)(hB:(eDk db D fp).holds w)(hlt:∀k∈fp,k<w.heap.size)(hlog:D.log=ef L++tl)(hL:∀r∈L,bC r=true)(hta:ul D.log (szF L))(hz6:D.log.size<=1048576)(hfz:D.fl<=D.log.size)(hpg:D.pgs.length<=400)(hws:∀x∈D.pgs,x.ws.length<=c)(hc:c+200*L.length<=900000)(h8:∀r∈L,r.kind=8->r.note.size=512):
  Calls Tryz.prog 18 #[po db 0,.int .i64 bufs] w (fM db D bufs L fp w):=by
 have st1:St w fp [eDk db D fp] w:=St.lend hB (dV _ _ _) hlt
 go_enter Tryz.func18,Tryz.ntmps18
 have aj:=st1
 refine wq (sqr (sqp [.k 4 (.pointer none),.k 5 (vi 0)] ?_))
 refine aa (wq (wq (sqr (sqp [.m 13 1,.k 14 (.bool (decide (bufs<1))),.m 15 14] ?_))))
 refine sqw 15 [16,17] rfl (fun _=>sqp [.m 16 1,.k 17 (.bool (decide (64<bufs)))] sqe) ?_
 refine sqp [sPo 18 (decide (bufs<1)) (decide (64<bufs))] ?_
 refine aa (wbs (fun nB=>?_) fun nB=>?_)
 have nU:=nB
 simp only[zB] at nU
 refine wq (sqr (sqp [.k 4 (.pointer none),.k 5 (vi 30)] ?_))
 refine aa (wp_ret (ai ?_))
 refine bpr (.tuple #[.pointer none,vi 30]) (aO Tryz.results18 rpt rpt) ?_
 exact fM.dk (.bufs (by have h_:=nB;simp at h_;omega)) (aj.pick [0] (by decide) rfl)
 have nU:=nB
 simp only[zB] at nU
 obtain⟨RO,RP⟩:=nU
 refine wp_skip (aa (wq (wq ?_)))
 obtain⟨onv,hon⟩:∃z,(!D.off)=z:=⟨_,rfl⟩
 have hbb:1<=bufs/\bufs<=64:=by have h_:=nB;simp at h_;omega
 refine sqr (sqp [.m 19 0] ?_)
 refine sqk (.bool onv) aj (fun cx=>⟨_,re hon (ml db D _ (fc (CtxV.holdF cx (cx.init 0 _ rfl) rfl))),(ax (cx.ou 19))⟩) fun IQ jj=>?_
 refine sqp [.k 21 (.bool (!(onv)))] ?_
 refine aa ?_
 rcases Bool.eq_false_or_eq_true (onv) with dH|dH
 refine wp_cond_false (show Act.eval _ _= .bool false from(congrArg Value.bool (by rw[dH];rfl))) (wp_skip (aa (wq (sqr (sqp [.m 22 0,.m 23 1] ?_)))))
 refine ea (fun x_=>pbx x_) (fun iZ=> .map (some iZ)) (fun iZ=>eMx kcI ptX Tryz.prog 3 iZ 0 (fun _=>none)) jj (by
   refine svA fun o d W X cx=>?_
   exact k7 rfl rfl rfl rfl (fun _ _ _ _ _=> .intro)) fun iZ Mo ny=>?_
 refine ea (fun x_=>pbx x_) (fun i5=> .map (some i5)) (fun i5=>eMx kcI ecB Tryz.prog 3 i5 0 (fun _=>none)) ny (by
   refine svA fun o d W X cx=>?_
   exact k7 rfl rfl rfl rfl (fun _ _ _ _ _=> .intro)) fun i5 r9 dd=>?_
 refine ea (fun x_=>pbx x_) (fun i6=> .map (some i6)) (fun i6=>eMx kcI ecB Tryz.prog 3 i6 0 (fun _=>none)) dd (by
   refine svA fun o d W X cx=>?_
   exact k7 rfl rfl rfl rfl (fun _ _ _ _ _=> .intro)) fun i6 IZ iI=>?_
 refine sqp [.k 27 (.agg #[vp db,vi bufs,.map (some iZ),vi 0,sn,sn,.map (some i5),.map (some i6),vi 0])] ?_
 refine b9 #[vp db,vi bufs,.map (some iZ),vi 0,sn,sn,.map (some i5),.map (some i6),vi 0] iI fun bB wZ dF=>?_
 refine sqp [.m 6 28] ?_
 refine aa (wq (aG [0,0,0,4,12,28,60,60,125,381,893,2047,4095,8191] [[],[],[],[0],[],[],[],[],[],[],[4],[],[],[6]] [[],[],[],[],[5],[],[],[],[],[],[6],[],[],[7]] [[],[],[],[],[],[],[],[],[],[],[4],[],[],[6]] [.k 30 (vp bB),.k 31 (vp bB),.k 32 (vp db),.c 33 (.string D.log),.a 34,.a 29,.a 35,.a 36,.k 37 (vp bB),.k 38 (po bB 4),.n,.k 39 (vp bB),.k 40 (po bB 5),.n] (fun ix g d X=>match ix with|0|1|2|3=>True|4=>g 34= .tuple #[.slice (sA (tg (d 34) 0)) L.length (sC (tg (d 34) 0)),.slice (sA (tg (d 34) 1)) L.length (sC (tg (d 34) 1))]/\X 5=eSc L (sA (tg (d 34) 0)) (sC (tg (d 34) 0)) (sA (tg (d 34) 1)) (sC (tg (d 34) 1)) ((X 5).fp)|5=>g 29= .tuple #[.slice (sA (tg (d 34) 0)) L.length (sC (tg (d 34) 0)),.slice (sA (tg (d 34) 1)) L.length (sC (tg (d 34) 1))]|6=>g 35= .slice (sA (tg (d 34) 0)) L.length (sC (tg (d 34) 0))|7=>g 36= .slice (sA (tg (d 34) 1)) L.length (sC (tg (d 34) 1))|8|9=>True|10=>X 6=eB bB 109 #[vp db,vi bufs,.map (some iZ),vi 0,.slice (sA (tg (d 34) 0)) L.length (sC (tg (d 34) 0)),sn,.map (some i5),.map (some i6),vi 0]|11|12=>True|13=>X 7=eB bB 109 #[vp db,vi bufs,.map (some iZ),vi 0,.slice (sA (tg (d 34) 0)) L.length (sC (tg (d 34) 0)),.slice (sA (tg (d 34) 1)) L.length (sC (tg (d 34) 1)),.map (some i5),.map (some i6),vi 0]|_=>True) [0,1,2,3,5,7] [3,4,5,6,7,10,13] [(29,5,1,30),(0,0,5,5),(0,6,7,6)] dF ?_ ?_ ?_))
 exact fun ix _ _ _ _ _ _ hs hb hx h=>match ix,h with
 |4,h=>by dsimp only;rw[<-hs 34 rfl,<-hb 34 rfl,<-hx 5 rfl];exact h
 |5,h=>by dsimp only;rw[<-hs 29 rfl,<-hb 34 rfl];exact h
 |6,h=>by dsimp only;rw[<-hs 35 rfl,<-hb 34 rfl];exact h
 |7,h=>by dsimp only;rw[<-hs 36 rfl,<-hb 34 rfl];exact h
 |10,h=>by dsimp only;rw[<-hb 34 rfl,<-hx 6 rfl];exact h
 |13,h=>by dsimp only;rw[<-hb 34 rfl,<-hx 7 rfl];exact h
 |0,_|1,_|2,_|3,_|8,_|9,_|11,_|12,_|_+14,_=>trivial
 refine⟨?_,?_,?_,?_,?_,?_,?_,trivial⟩
 exact xsc rfl id rfl rfl fun cx=>⟨_,kA db D _ (fc (CtxV.holdF cx (cx.init 0 _ rfl) rfl)),(ax (cx.an 2))⟩
 refine svA fun o d W X cx=>?_
 refine am.call (au (args:=#[.string D.log]) rfl cx.sees rfl (by kernel_rfl) (ax (cx.an 3))) ?_
 refine(HW (D4 D.log tl L _ hlog hL hta (by omega))).mono ?_
 rintro e W1 ⟨LA4,lc4,EA4,ec4,fp4,rfl,aT⟩
 refine⟨_,rfl,rk [eSc L LA4 lc4 EA4 ec4 fp4] rfl rfl aT (fun g u X' hs hb hv hN=>?_)⟩
 have aJ:=(hv 34 rfl).1;have aV:=(hv 34 rfl).2
 exact⟨aJ.trans (by rw[aV];rfl),(by rw[aV];exact G9 ((List.cons.inj hN).1))⟩
 exact sv rfl rfl rfl rfl rfl _ (fun _ _ _ h=>h) (fun d u h=>by rw[h 34 (by decide)]) fun o d W X cx=>dj rfl (dTn (cx.an 4)).1
 exact sv rfl rfl rfl rfl rfl _ (fun _ _ _ h=>h) (fun d u h=>by rw[h 34 (by decide)]) fun o d W X cx=>cd rfl (dTn (cx.an 5)) rfl
 exact sv rfl rfl rfl rfl rfl _ (fun _ _ _ h=>h) (fun d u h=>by rw[h 34 (by decide)]) fun o d W X cx=>cd rfl (dTn (cx.an 5)) rfl
 refine svA fun o d W X cx=>?_
 exact bx (n:=1) rfl (cx.an 9) (dTn (cx.an 6)) (by kernel_rfl) (by kernel_rfl) (by kernel_rfl) cx (cx.init 4 _ rfl) rfl (nle rfl) (by kernel_rfl) rfl rfl rfl (fun g u X' hs hb hx=>by rw[hb 34];exact hx)
 refine svA fun o d W X cx=>?_
 exact bx (n:=1) rfl (cx.an 12) (dTn (cx.an 7)) (by kernel_rfl) (by kernel_rfl) (by kernel_rfl) cx (dTn (cx.an 10)) rfl (nle rfl) (by kernel_rfl) rfl rfl rfl (fun g u X' hs hb hx=>by rw[hb 34];exact hx)
 intro g d X y9 hD fa fr aD
 obtain⟨LA34_24,pD⟩:∃z,sA (tg (d 34) 0)=z:=⟨_,rfl⟩
 obtain⟨lc34_24,pE⟩:∃z,sC (tg (d 34) 0)=z:=⟨_,rfl⟩
 obtain⟨EA34_24,pF⟩:∃z,sA (tg (d 34) 1)=z:=⟨_,rfl⟩
 obtain⟨ec34_24,pG⟩:∃z,sC (tg (d 34) 1)=z:=⟨_,rfl⟩
 have zw:X 5= _:=(dTn (hD 4 lq)).2
 obtain⟨RQ,zx⟩:∃z,(X 5).fp=z:=⟨_,rfl⟩
 rw[zx] at zw
 clear zx
 simp only[zw,exq 7 ((dTn (hD 13 lq))),pD,pE,pF,pG] at fa
 simp only[ed 34 ((dTn (hD 4 lq)).1),ed 29 ((dTn (hD 5 lq))),ed 35 ((dTn (hD 6 lq))),ed 36 ((dTn (hD 7 lq))),pD,pE,pF,pG] at aD
 clear hD zw pD pE pF pG;subst aD;clear g d X
 refine aa (wq (wq ?_))
 obtain⟨rs,hrs,ht25_⟩:=fa.u4.unscf
 have hrl:rs.length=L.length:=by rw[<-hrs,List.length_map]
 refine sqr (sqp [.m 41 6,.k 42 (vp bB),.k 43 (po bB 4)] ?_)
 refine aq 7 ht25_ ?_
 refine sqp [.k 45 (vi ((L.length:Int))),.k 46 (vi 0)] ?_
 refine aa (wp_block ?_)
 refine aN (fun t_ mz az W=>∃j:Nat,j<=L.length/\mz=L.length-j/\az=⟨(ovr (jv az) [(7,7,2,[]),(37,46,0,[vi ((j:Int))]),(0,47,13,[])] t_).toArray,[]⟩/\St w fp [eO 27 8 (.slice LA34_24 L.length lc34_24) L.length (rs.flatMap rcC),eO 3 1 (.slice EA34_24 L.length ec34_24) L.length ((cM L L.length).map (Value.int .i64)),eRc rs,eDk db D fp,eMx kcI ptX Tryz.prog 3 iZ 0 (fun _=>none),eMx kcI ecB Tryz.prog 3 i5 0 (fun _=>none),eMx kcI ecB Tryz.prog 3 i6 0 (fun _=>none),eB bB 109 #[vp db,vi bufs,.map (some iZ),vi 0,.slice LA34_24 L.length lc34_24,.slice EA34_24 L.length ec34_24,.map (some i5),.map (some i6),vi ((bn (L.take j):Int))]] W) (L.length-0) ?_ ?_
 exact⟨0,Nat.zero_le _,rfl,(by kernel_rfl),ht25_.pk [0,1,2,3,4,5,6,7]⟩
 rintro OT a32 za ⟨j,hj,rfl,hj_,c6⟩
 refine ovz hj_ fun H0=>?_
 refine wq (sqr (sqp [.k 47 (.bool (decide ((j:Int)<(L.length:Int))))] ?_))
 refine aa (wq (wds (fun kB pr=>?_) fun kB pr=>?_))
 refine wp_skip (aa (wq (wp_block (wq ?_))))
 obtain⟨rt,hrt⟩:∃rt,rs[j]? =some rt:=⟨_,List.getElem?_eq_getElem (by omega)⟩
 have hlj:L[j]? =some rt.r:=by rw[<-hrs,List.getElem?_map,hrt];rfl
 refine sqr (sqp [.m 48 46] ?_)
 refine sql (.pointer (some ((ad LA34_24).add (j*8)))) c6 (fun cx=>aB (e:=27) (m:=j) (sz:=8) rfl (by kernel_rfl) (by kernel_rfl) (cx.ou 44) (cx.ou 46) (by omega) (by omega) (At.of_ownN (cx.ri 0 rfl)) (bj (sz:=8) cm (by decide) (by omega))) ?_
 refine sql (.agg #[vi rt.r.kind,vi rt.r.xid,vi rt.r.tbl,sn,sn,.slice rt.A rt.r.eds.length rt.c,sn,.string rt.r.note]) c6 (fun cx=>bF (f:=rcC) (m:=j) (sz:=8) (off:=0) (n:=8) rfl (by kernel_rfl) (by kernel_rfl) (cx.ou 49) rfl cm (At.of_ownN (cx.ri 0 rfl)) hrt (fun k hk=>match k,hk with|0,_=>rfl|1,_=>rfl|2,_=>rfl|3,_=>rfl|4,_=>rfl|5,_=>rfl|6,_=>rfl|7,_=>rfl|k+8,hk=>absurd hk (by omega))) ?_
 refine b8 #[vi 0,vi 0,vi 0,sn,sn,sn,sn,.string ByteArray.empty] c6 fun Oc zi gG=>?_
 refine sqp [.m 7 48] ?_
 refine aX (n:=8) 8 #[vi rt.r.kind,vi rt.r.xid,vi rt.r.tbl,sn,sn,.slice rt.A rt.r.eds.length rt.c,sn,.string rt.r.note] gG fun uz dR=>?_
 refine aa (wq (sqr (sqp [.k 51 (vp Oc)] ?_)))
 refine aq 8 dR ?_
 refine sqp [.k 53 (.bool (rt.r.kind==9))] ?_
 refine aa (wbs (fun zy=>?_) fun zy=>?_)
 have Od:=beq_iff_eq.1 zy
 refine sqr (sqp [.m 54 6,.m 55 7,sI 56 ((j:Int)+1) (by omega),.k 57 (vp bB),.k 58 (po bB 8)] ?_)
 refine aX (n:=1) 7 #[vp db,vi bufs,.map (some iZ),vi 0,.slice LA34_24 L.length lc34_24,.slice EA34_24 L.length ec34_24,.map (some i5),.map (some i6),vi ((j:Int)+1)] dR fun Ml l5=>?_
 refine av (aa (sqr (sqp [sI 59 ((j:Int)+1) (by omega),.m 46 59] ?_)))
 refine aa ?_
 have hft:bn (L.take (j+1))=j+1:=by rw[tA hlj,if_pos (by simpa using zy)]
 rw[show ((j:Int)+1)=((bn (L.take (j+1)):Nat):Int) by rw[hft];omega] at l5
 refine⟨L.length-((j+1)),by omega,?_⟩
 exact⟨(j+1),by omega,rfl,(by kernel_rfl),l5.pk [0,1,2,3,4,5,6,7]⟩
 have Od:=beq_eq_false_iff_ne.1 zy
 refine wp_skip (av (aa (sqr (sqp [sI 59 ((j:Int)+1) (by omega),.m 46 59] ?_))))
 refine aa ?_
 have hft:bn (L.take (j+1))=bn (L.take j):=by rw[tA hlj,if_neg (by simpa using zy)]
 rw[<-hft] at dR
 refine⟨L.length-((j+1)),by omega,?_⟩
 exact⟨(j+1),by omega,rfl,(by kernel_rfl),dR.pk [0,1,2,3,4,5,6,7]⟩
 refine wp_exit (al (al (bf (aa (wq (wq ?_))))))
 obtain rfl:j=L.length:=by omega
 rw[List.take_length] at c6
 refine sqr (sqp [.m 60 6,.k 61 (vp bB),.k 62 (po bB 8)] ?_)
 refine aq 7 c6 ?_
 refine sqp [.k 64 (.bool ((bn L:Int)==0))] ?_
 refine aa (wbs (fun m5=>?_) fun m5=>?_)
 have CQ:=beq_iff_eq.1 m5
 refine wq (sqr (sqp [.k 4 (.pointer none),.k 5 (vi 11)] ?_))
 refine aa (wp_ret (ai ?_))
 refine bpr (.tuple #[.pointer none,vi 11]) (aO Tryz.results18 rpt rpt) ?_
 exact fM.dk (.form hbb (by have h_:=hon.trans dH;simpa using h_) (by have h_:=m5;simp at h_;omega)) (c6.pick [3] (by decide) rfl)
 have CQ:=beq_eq_false_iff_ne.1 m5
 refine wp_skip (aa (wq (wq ?_)))
 have hf0:bn L≠0:=by have h_:=m5;simp at h_;omega
 have hfl:=oY L
 obtain⟨nl,hnl⟩:∃n,L.length=n+1:=⟨L.length-1,by omega⟩
 refine bP [0,1,3,7,0,16,48,112,240,496,1023,2047,4095] [[],[],[],[7],[],[],[],[7],[],[],[1],[1]] [.k 65 (vp bB),.k 66 (vp bB),.k 67 (po bB 5),.c 68 (.slice EA34_24 L.length ec34_24),.k 69 (vp bB),.k 70 (vp bB),.k 71 (po bB 5),.c 72 (.slice EA34_24 L.length ec34_24),.k 73 (vi ((L.length:Int))),tJ 74 ((L.length:Int)-1) (nl:Int) (by omega) (by omega),.c 75 (.pointer (some ((ad EA34_24).add nl))),.c 76 (vi ((szF L:Int))),.k 9 (vi ((szF L:Int)))] [0,1,2,3,4,5,6,7] [3,7,10,11] [(9,12,1,10),(55,0,12,67)] c6 ?_ fun OU rC=>?_
 refine⟨?_,?_,?_,?_,trivial⟩
 exact xs4 rfl id fun cx=>ae rfl (by kernel_rfl) (cx.an 2) ((cx.bi 7 rfl).cell 5)
 exact xs4 rfl id fun cx=>ae rfl (by kernel_rfl) (cx.an 6) ((cx.bi 7 rfl).cell 5)
 exact xs4 rfl id fun cx=>bS (e:=3) (m:=nl) rfl (by kernel_rfl) (by kernel_rfl) (cx.an 3) (cx.an 9) (by omega) (by omega) (At.of_own (cx.ri 1 rfl)) (by rw[List.length_map,mF]<;>omega)
 exact xs4 rfl id fun cx=>ae rfl (by kernel_rfl) (cx.an 10) (At.cellAd (At.of_own (cx.ri 1 rfl)) ((List.getElem?_map ..).trans (by rw[DQ hnl];rfl)))
 refine aa (wq (sqr (sqp [.m 77 9,.m 78 0] ?_)))
 refine sqk (.string D.log) rC (fun cx=>⟨_,kA db D _ (fc (CtxV.holdF cx (cx.init 3 _ rfl) rfl)),(ax (cx.ou 78))⟩) fun Fj gF=>?_
 refine sqp [.k 80 (vi ((D.log.size:Int))),.k 81 (.bool (decide ((szF L:Int)<(D.log.size:Int))))] ?_
 refine aa (wds (fun nX Oe=>?_) fun nX Oe=>?_)
 refine wq (sqr (sqp [.m 82 0,.m 83 9] ?_))
 refine bM (fun X_=>X_.fp) (vi ((opD D (ctE D (szF L)) (ctD (szF L))).2)) (fun I5=>eDk db ((opD D (ctE D (szF L)) (ctD (szF L))).1) I5) 3 gF (by
   refine svA fun o d W X cx=>?_
   refine am.call (au (args:=#[vp db,vi ((szF L:Int))]) rfl cx.sees rfl (by kernel_rfl) (aM (cx.ou 82) (cx.ou 83))) ?_
   refine(Gs db D (szF L:Int) _ _ (CtxV.holdF cx (cx.init 3 _ rfl) rfl) (CtxV.ltF cx (cx.init 3 _ rfl) rfl) (by omega)).mono ?_
   rintro e W1 ⟨rfl,fp4,aT⟩
   refine⟨_,rfl,aK (E:=eDk db D fp) [eDk db (opD D (ctE D (szF L)) (ctD (szF L))).1 fp4] (cx.init 3 _ rfl) rfl rfl aT (fun g u X' hs hb hv hN=>?_)⟩
   have aJ:=(hv 84 rfl).1;have aV:=(hv 84 rfl).2
   exact⟨aJ.trans rfl,cJ ((List.cons.inj hN).1)⟩) fun I5 IV g0=>?_
 refine sqp [.m 10 84] ?_
 refine aa (wq (sqr (sqp [.m 85 10,.k 86 (.bool (((opD D (ctE D (szF L)) (ctD (szF L))).2) != 0))] ?_)))
 refine aa (wbs (fun zz=>?_) fun zz=>?_)
 have Of:=bne_iff_ne.1 zz
 refine wq (sqr (sqp [.m 87 10,.k 4 (.pointer none),.m 5 87] ?_))
 refine aa (wp_ret (ai ?_))
 refine bpr (.tuple #[.pointer none,vi ((opD D (ctE D (szF L)) (ctD (szF L))).2)]) (aO Tryz.results18 rpt rpt) ?_
 have hop:gh D L=opD D (ctE D (szF L)) (ctD (szF L)):=if_pos (by have h_:=of_decide_eq_true nX;omega)
 exact fM.dk (by have h_:=OpnR.cut (L:=L) hbb (by have h_:=hon.trans dH;simpa using h_) hf0 (by rw[hop];simpa using zz);rw[hop] at h_;exact h_) (g0.pick [3] (by decide) rfl)
 have Of:=bne_eq_false_iff_eq.1 zz
 refine wp_skip (aa (wq (wq ?_)))
 have hop:gh D L=opD D (ctE D (szF L)) (ctD (szF L)):=if_pos (by have h_:=of_decide_eq_true nX;omega)
 have hc0:(gh D L).2=0:=by rw[hop];simpa using zz
 obtain⟨D1,hD1⟩:∃z,(gh D L).1=z:=⟨_,rfl⟩
 rw[<-hop,hD1] at g0
 have hdk:=Ba hlog hfz hc0
 rw[hD1] at hdk
 have hok0:SOk (iN D1 bufs rs (bn L)) c:=SOk.opn hbb (by rw[hdk.2.1];exact hpg) (by rw[hdk.2.1];exact hws) (by rw[hrs];exact hL) (by rw[hrs];exact hdk.1) (by rw[hdk.1,cE];have h_:=congrArg ByteArray.size hlog;rw[ByteArray.size_append,cE] at h_;omega) (by rw[hdk.2.2.1,hdk.1,cE];omega)
 have hn82_:=(g0.nM dK).nA fv
 refine sqr (sqp [.m 88 6,.k 89 (vp bB),.k 90 (po bB 8)] ?_)
 refine aq 9 hn82_ ?_
 refine sqp [.m 11 91] ?_
 refine aa (wp_block ?_)
 obtain⟨fp88_,hk88_⟩:=St.stf (S:=iN D1 bufs rs (bn L)) (by have h_:=hn82_.u8.u8.u6.u6.u6.u6.u6.u8.u9;rw[stL,stC,StM.L,show (iN D1 bufs rs (bn L)).recs.map RcT.r=L from hrs,show (iN D1 bufs rs (bn L)).recs.length=L.length from hrl];exact h_) (fun t ht=>by cases ht) (fun t ht=>ht)
 refine aN (fun t_ mz az W=>∃j:Nat,∃Sj:StM,∃fpj:List Nat,j<=L.length/\(∀S2 er,RdL j Sj (L.drop j) S2 er->RdL (bn L) (iN D1 bufs rs (bn L)) (L.drop (bn L)) S2 er)/\SOk Sj (c+200*j)/\Sj.recs=rs/\Sj.rr=rs/\mz=L.length-j/\az=⟨(ovr (jv az) [(4,4,2,[]),(5,11,0,[vi ((j:Int))]),(0,12,1,[]),(79,92,23,[])] t_).toArray,[]⟩/\St w fp [eSt bB db Sj fpj] W) (L.length-((bn L))) ?_ ?_
 exact⟨(bn L),(iN D1 bufs rs (bn L)),fp88_,hfl,fun S2 er h=>h,hok0.mono (by omega),rfl,rfl,rfl,(by kernel_rfl),hk88_.pk [0]⟩
 rintro T4 a89 Mt ⟨j,Sj,fpj,hj,hcont,hokj,hrj,hrrj,rfl,hj_,l8⟩
 refine ovz hj_ fun So=>?_
 refine wq (wq ?_)
 obtain⟨mb90_,RA90_,rc90_,EA90_,ec90_,ib90_,tb90_,fpd90_,ha90_⟩:=St.toA (L:=[]) (l8.pick [0] (by decide) rfl)
 have hb90_:St w fp [iQ bB db Sj mb90_ RA90_ rc90_ EA90_ ec90_ ib90_ tb90_ fpd90_ fpj] Mt:=ha90_
 have hrjl:Sj.recs.length=L.length:=by rw[hrj,hrl]
 have hcj:200*j<=200*L.length:=by omega
 refine sqr (sqp [.m 92 11,.m 93 6,.k 94 (vp bB),.k 95 (po bB 4)] ?_)
 refine sql (.slice RA90_ Sj.recs.length rc90_) hb90_ (fun cx=>ae rfl (by kernel_rfl) (cx.ou 95) ((kd (CtxV.holdF cx (cx.init 0 _ rfl) rfl)).blkL.cell 4)) ?_
 refine sqp [.k 97 (vi ((Sj.recs.length:Int))),.k 98 (.bool (decide ((j:Int)<(Sj.recs.length:Int))))] ?_
 refine aa (wds (fun PL Og=>?_) fun PL Og=>?_)
 refine wp_skip (aa (wq (wp_block (wq ?_))))
 have hjl:j<L.length:=by omega
 obtain⟨rt,hrt⟩:∃rt,rs[j]? =some rt:=⟨_,List.getElem?_eq_getElem (by omega)⟩
 have hrt2:Sj.recs[j]? =some rt:=by rw[hrj];exact hrt
 have hlj:L[j]? =some rt.r:=by rw[<-hrs,List.getElem?_map,hrt];rfl
 have hrm:rt∈Sj.rr:=by rw[hrrj];exact List.mem_of_getElem? hrt
 have hlm:=List.mem_of_getElem? hlj
 refine sqr (sqp [.m 101 6,.m 102 11,sI 103 ((j:Int)+1) (by omega),.m 104 6,.k 105 (vp bB),.k 106 (po bB 4)] ?_)
 refine sql (.slice RA90_ Sj.recs.length rc90_) hb90_ (fun cx=>ae rfl (by kernel_rfl) (cx.ou 106) ((kd (CtxV.holdF cx (cx.init 0 _ rfl) rfl)).blkL.cell 4)) ?_
 refine sqp [.m 108 11] ?_
 refine sql (.pointer (some ((ad RA90_).add (j*8)))) hb90_ (fun cx=>aB (e:=27) (m:=j) (sz:=8) rfl (by kernel_rfl) (by kernel_rfl) (cx.ou 107) (cx.ou 108) (by omega) (by omega) (kd (CtxV.holdF cx (cx.init 0 _ rfl) rfl)).recs (bj (sz:=8) cm (by decide) (by omega))) ?_
 refine sql (.agg #[vi rt.r.kind,vi rt.r.xid,vi rt.r.tbl,sn,sn,.slice rt.A rt.r.eds.length rt.c,sn,.string rt.r.note]) hb90_ (fun cx=>bF (f:=rcC) (m:=j) (sz:=8) (off:=0) (n:=8) rfl (by kernel_rfl) (by kernel_rfl) (cx.ou 109) rfl cm (kd (CtxV.holdF cx (cx.init 0 _ rfl) rfl)).recs hrt2 (fun k hk=>match k,hk with|0,_=>rfl|1,_=>rfl|2,_=>rfl|3,_=>rfl|4,_=>rfl|5,_=>rfl|6,_=>rfl|7,_=>rfl|k+8,hk=>absurd hk (by omega))) ?_
 refine oU (fun x_=>tZ x_) (fun X_=>X_.fp) (fun er111_109=>vi er111_109) (fun er111_109 zA=>eSx bB db (fun S2=>RdR Sj ((j:Int)+1) rt.r S2 er111_109) zA) 0 hb90_ (by
   refine svA fun o d W X cx=>?_
   refine am.call (au (args:=#[vp bB,vi ((j:Int)+1),.agg #[vi rt.r.kind,vi rt.r.xid,vi rt.r.tbl,sn,sn,.slice rt.A rt.r.eds.length rt.c,sn,.string rt.r.note]]) rfl cx.sees rfl (by kernel_rfl) (dL (cx.ou 101) (cx.ou 103) (cx.ou 110))) ?_
   refine(wh bB db Sj ((j:Int)+1) rt (c+200*j) _ _ (vD (CtxV.holdF cx (cx.init 0 _ rfl) rfl)) (CtxV.ltF cx (cx.init 0 _ rfl) rfl) hokj (by omega) (hL _ hlm) hrm (h8 _ hlm)).mono ?_
   rintro e W1 ⟨er4,rfl,fp4,aT⟩
   refine⟨_,rfl,aK (E:=iQ bB db Sj mb90_ RA90_ rc90_ EA90_ ec90_ ib90_ tb90_ fpd90_ fpj) [eSx bB db (fun S2=>RdR Sj ((j:Int)+1) rt.r S2 er4) fp4] (cx.init 0 _ rfl) rfl rfl aT (fun g u X' hs hb hv hN=>?_)⟩
   have aJ:=(hv 111 rfl).1;have aV:=(hv 111 rfl).2
   exact⟨aJ.trans (by rw[aV];exact rfl),(by rw[aV];exact fS ((List.cons.inj hN).1))⟩) fun er111_109 zA PM zC=>?_
 refine sqp [.m 12 111] ?_
 refine aa (wq ?_)
 obtain⟨S1,hR,hy111_⟩:=zC.unx
 have hrd_:=hR.ok hokj (hL _ hlm)
 refine sqr (sqp [.m 112 12,.k 113 (.bool (er111_109 != 0))] ?_)
 refine aa (wbs (fun rF=>?_) fun rF=>?_)
 have ME:=bne_iff_ne.1 rF
 refine wq (sqr (sqp [.m 114 12,.k 4 (.pointer none),.m 5 114] ?_))
 refine aa (wp_ret (bb (ai (ai (bb (ai ?_))))))
 refine bpr (.tuple #[.pointer none,vi er111_109]) (aO Tryz.results18 rpt rpt) ?_
 obtain⟨fpz,hz118_⟩:=St.dkOf (L:=[]) (hy111_.pick [0] (by decide) rfl)
 exact fM.dk (.bad hbb (by have h_:=hon.trans dH;simpa using h_) hf0 hc0 rs hrs (by rw[hD1];exact hcont _ _ (by rw[List.drop_eq_getElem_cons hjl,show L[j]'hjl=rt.r from(List.getElem?_eq_some_iff.1 hlj).2];exact RdL.bad hR (by simpa using rF))) (by simpa using rF)) hz118_
 have ME:=bne_eq_false_iff_eq.1 rF
 refine wp_skip (av (aa (sqr (sqp [.m 99 11,sI 100 ((j:Int)+1) (by omega),.m 11 100] ?_))))
 refine aa ?_
 refine⟨L.length-((j+1)),by omega,?_⟩
 exact⟨(j+1),S1,zA,by omega,(fun S2 er h=>hcont S2 er (by rw[List.drop_eq_getElem_cons (by omega:j<L.length),show L[j]'(by omega)=rt.r from(List.getElem?_eq_some_iff.1 hlj).2];exact RdL.cons (yK hR (by simpa using rF)) h)),(hrd_.1.mono (by omega)),hrd_.2.2.1.trans hrj,hrd_.2.1.trans hrrj,rfl,(by kernel_rfl),hy111_.pk [0]⟩
 refine wp_exit (al (al (bf (aa (wq (sqr (sqp [.m 115 6,.m 4 115,.k 5 (vi 0)] ?_)))))))
 refine aa (wp_ret ?_)
 refine bpr (.tuple #[vp bB,vi 0]) (aO Tryz.results18 rpt rpt) ?_
 exact fM.st (.ok hbb (by have h_:=hon.trans dH;simpa using h_) hf0 hc0 rs hrs (by rw[hD1];exact hcont _ _ (by rw[List.drop_of_length_le (by omega)];exact RdL.nil _ _))) (St.ofA (L:=[]) (hb90_.pick [0] (by decide) rfl))
 refine wp_skip (aa (wq (wq ?_)))
 have hop:gh D L=(D,0):=if_neg (by have h_:=of_decide_eq_false nX;omega)
 have hc0:(gh D L).2=0:=by rw[hop]
 obtain⟨D1,hD1⟩:∃z,(gh D L).1=z:=⟨_,rfl⟩
 have hD2:D=D1:=by rw[<-hD1,hop]
 rw[show eDk db D=eDk db D1 by rw[hD2]] at gF
 have hdk:=Ba hlog hfz hc0
 rw[hD1] at hdk
 have hok0:SOk (iN D1 bufs rs (bn L)) c:=SOk.opn hbb (by rw[hdk.2.1];exact hpg) (by rw[hdk.2.1];exact hws) (by rw[hrs];exact hL) (by rw[hrs];exact hdk.1) (by rw[hdk.1,cE];have h_:=congrArg ByteArray.size hlog;rw[ByteArray.size_append,cE] at h_;omega) (by rw[hdk.2.2.1,hdk.1,cE];omega)
 have hn125_:=(gF.nM dK).nA fv
 refine sqr (sqp [.m 88 6,.k 89 (vp bB),.k 90 (po bB 8)] ?_)
 refine aq 9 hn125_ ?_
 refine sqp [.m 11 91] ?_
 refine aa (wp_block ?_)
 obtain⟨fp131_,hk131_⟩:=St.stf (S:=iN D1 bufs rs (bn L)) (by have h_:=hn125_.u8.u8.u6.u6.u6.u6.u6.u8.u9;rw[stL,stC,StM.L,show (iN D1 bufs rs (bn L)).recs.map RcT.r=L from hrs,show (iN D1 bufs rs (bn L)).recs.length=L.length from hrl];exact h_) (fun t ht=>by cases ht) (fun t ht=>ht)
 refine aN (fun t_ mz az W=>∃j:Nat,∃Sj:StM,∃fpj:List Nat,j<=L.length/\(∀S2 er,RdL j Sj (L.drop j) S2 er->RdL (bn L) (iN D1 bufs rs (bn L)) (L.drop (bn L)) S2 er)/\SOk Sj (c+200*j)/\Sj.recs=rs/\Sj.rr=rs/\mz=L.length-j/\az=⟨(ovr (jv az) [(4,4,2,[]),(5,11,0,[vi ((j:Int))]),(0,12,1,[]),(79,92,23,[])] t_).toArray,[]⟩/\St w fp [eSt bB db Sj fpj] W) (L.length-((bn L))) ?_ ?_
 exact⟨(bn L),(iN D1 bufs rs (bn L)),fp131_,hfl,fun S2 er h=>h,hok0.mono (by omega),rfl,rfl,rfl,(by kernel_rfl),hk131_.pk [0]⟩
 rintro Sp a132 PN ⟨j,Sj,fpj,hj,hcont,hokj,hrj,hrrj,rfl,hj_,MF⟩
 refine ovz hj_ fun RR=>?_
 refine wq (wq ?_)
 obtain⟨mb133_,RA133_,rc133_,EA133_,ec133_,ib133_,tb133_,fpd133_,ha133_⟩:=St.toA (L:=[]) (MF.pick [0] (by decide) rfl)
 have hb133_:St w fp [iQ bB db Sj mb133_ RA133_ rc133_ EA133_ ec133_ ib133_ tb133_ fpd133_ fpj] PN:=ha133_
 have hrjl:Sj.recs.length=L.length:=by rw[hrj,hrl]
 have hcj:200*j<=200*L.length:=by omega
 refine sqr (sqp [.m 92 11,.m 93 6,.k 94 (vp bB),.k 95 (po bB 4)] ?_)
 refine sql (.slice RA133_ Sj.recs.length rc133_) hb133_ (fun cx=>ae rfl (by kernel_rfl) (cx.ou 95) ((kd (CtxV.holdF cx (cx.init 0 _ rfl) rfl)).blkL.cell 4)) ?_
 refine sqp [.k 97 (vi ((Sj.recs.length:Int))),.k 98 (.bool (decide ((j:Int)<(Sj.recs.length:Int))))] ?_
 refine aa (wds (fun Oh MG=>?_) fun Oh MG=>?_)
 refine wp_skip (aa (wq (wp_block (wq ?_))))
 have hjl:j<L.length:=by omega
 obtain⟨rt,hrt⟩:∃rt,rs[j]? =some rt:=⟨_,List.getElem?_eq_getElem (by omega)⟩
 have hrt2:Sj.recs[j]? =some rt:=by rw[hrj];exact hrt
 have hlj:L[j]? =some rt.r:=by rw[<-hrs,List.getElem?_map,hrt];rfl
 have hrm:rt∈Sj.rr:=by rw[hrrj];exact List.mem_of_getElem? hrt
 have hlm:=List.mem_of_getElem? hlj
 refine sqr (sqp [.m 101 6,.m 102 11,sI 103 ((j:Int)+1) (by omega),.m 104 6,.k 105 (vp bB),.k 106 (po bB 4)] ?_)
 refine sql (.slice RA133_ Sj.recs.length rc133_) hb133_ (fun cx=>ae rfl (by kernel_rfl) (cx.ou 106) ((kd (CtxV.holdF cx (cx.init 0 _ rfl) rfl)).blkL.cell 4)) ?_
 refine sqp [.m 108 11] ?_
 refine sql (.pointer (some ((ad RA133_).add (j*8)))) hb133_ (fun cx=>aB (e:=27) (m:=j) (sz:=8) rfl (by kernel_rfl) (by kernel_rfl) (cx.ou 107) (cx.ou 108) (by omega) (by omega) (kd (CtxV.holdF cx (cx.init 0 _ rfl) rfl)).recs (bj (sz:=8) cm (by decide) (by omega))) ?_
 refine sql (.agg #[vi rt.r.kind,vi rt.r.xid,vi rt.r.tbl,sn,sn,.slice rt.A rt.r.eds.length rt.c,sn,.string rt.r.note]) hb133_ (fun cx=>bF (f:=rcC) (m:=j) (sz:=8) (off:=0) (n:=8) rfl (by kernel_rfl) (by kernel_rfl) (cx.ou 109) rfl cm (kd (CtxV.holdF cx (cx.init 0 _ rfl) rfl)).recs hrt2 (fun k hk=>match k,hk with|0,_=>rfl|1,_=>rfl|2,_=>rfl|3,_=>rfl|4,_=>rfl|5,_=>rfl|6,_=>rfl|7,_=>rfl|k+8,hk=>absurd hk (by omega))) ?_
 refine oU (fun x_=>tZ x_) (fun X_=>X_.fp) (fun er111_152=>vi er111_152) (fun er111_152 zD=>eSx bB db (fun S2=>RdR Sj ((j:Int)+1) rt.r S2 er111_152) zD) 0 hb133_ (by
   refine svA fun o d W X cx=>?_
   refine am.call (au (args:=#[vp bB,vi ((j:Int)+1),.agg #[vi rt.r.kind,vi rt.r.xid,vi rt.r.tbl,sn,sn,.slice rt.A rt.r.eds.length rt.c,sn,.string rt.r.note]]) rfl cx.sees rfl (by kernel_rfl) (dL (cx.ou 101) (cx.ou 103) (cx.ou 110))) ?_
   refine(wh bB db Sj ((j:Int)+1) rt (c+200*j) _ _ (vD (CtxV.holdF cx (cx.init 0 _ rfl) rfl)) (CtxV.ltF cx (cx.init 0 _ rfl) rfl) hokj (by omega) (hL _ hlm) hrm (h8 _ hlm)).mono ?_
   rintro e W1 ⟨er4,rfl,fp4,aT⟩
   refine⟨_,rfl,aK (E:=iQ bB db Sj mb133_ RA133_ rc133_ EA133_ ec133_ ib133_ tb133_ fpd133_ fpj) [eSx bB db (fun S2=>RdR Sj ((j:Int)+1) rt.r S2 er4) fp4] (cx.init 0 _ rfl) rfl rfl aT (fun g u X' hs hb hv hN=>?_)⟩
   have aJ:=(hv 111 rfl).1;have aV:=(hv 111 rfl).2
   exact⟨aJ.trans (by rw[aV];exact rfl),(by rw[aV];exact fS ((List.cons.inj hN).1))⟩) fun er111_152 zD PO uT=>?_
 refine sqp [.m 12 111] ?_
 refine aa (wq ?_)
 obtain⟨S1,hR,hy154_⟩:=uT.unx
 have hrd_:=hR.ok hokj (hL _ hlm)
 refine sqr (sqp [.m 112 12,.k 113 (.bool (er111_152 != 0))] ?_)
 refine aa (wbs (fun rG=>?_) fun rG=>?_)
 have MH:=bne_iff_ne.1 rG
 refine wq (sqr (sqp [.m 114 12,.k 4 (.pointer none),.m 5 114] ?_))
 refine aa (wp_ret (bb (ai (ai (bb (ai ?_))))))
 refine bpr (.tuple #[.pointer none,vi er111_152]) (aO Tryz.results18 rpt rpt) ?_
 obtain⟨fpz,hz161_⟩:=St.dkOf (L:=[]) (hy154_.pick [0] (by decide) rfl)
 exact fM.dk (.bad hbb (by have h_:=hon.trans dH;simpa using h_) hf0 hc0 rs hrs (by rw[hD1];exact hcont _ _ (by rw[List.drop_eq_getElem_cons hjl,show L[j]'hjl=rt.r from(List.getElem?_eq_some_iff.1 hlj).2];exact RdL.bad hR (by simpa using rG))) (by simpa using rG)) hz161_
 have MH:=bne_eq_false_iff_eq.1 rG
 refine wp_skip (av (aa (sqr (sqp [.m 99 11,sI 100 ((j:Int)+1) (by omega),.m 11 100] ?_))))
 refine aa ?_
 refine⟨L.length-((j+1)),by omega,?_⟩
 exact⟨(j+1),S1,zD,by omega,(fun S2 er h=>hcont S2 er (by rw[List.drop_eq_getElem_cons (by omega:j<L.length),show L[j]'(by omega)=rt.r from(List.getElem?_eq_some_iff.1 hlj).2];exact RdL.cons (yK hR (by simpa using rG)) h)),(hrd_.1.mono (by omega)),hrd_.2.2.1.trans hrj,hrd_.2.1.trans hrrj,rfl,(by kernel_rfl),hy154_.pk [0]⟩
 refine wp_exit (al (al (bf (aa (wq (sqr (sqp [.m 115 6,.m 4 115,.k 5 (vi 0)] ?_)))))))
 refine aa (wp_ret ?_)
 refine bpr (.tuple #[vp bB,vi 0]) (aO Tryz.results18 rpt rpt) ?_
 exact fM.st (.ok hbb (by have h_:=hon.trans dH;simpa using h_) hf0 hc0 rs hrs (by rw[hD1];exact hcont _ _ (by rw[List.drop_of_length_le (by omega)];exact RdL.nil _ _))) (St.ofA (L:=[]) (hb133_.pick [0] (by decide) rfl))
 refine wp_cond_true (show Act.eval _ _= .bool true from(congrArg Value.bool (by rw[dH];rfl))) (wq (sqr (sqp [.k 4 (.pointer none),.k 5 (vi 24)] ?_)))
 refine aa (wp_ret (ai ?_))
 refine bpr (.tuple #[.pointer none,vi 24]) (aO Tryz.results18 rpt rpt) ?_
 exact fM.dk (.off hbb (by have h_:=hon.trans dH;simpa using h_)) (jj.pick [0] (by decide) rfl)
end
section
open Go.RowKit
def aI(note:ByteArray):RecM:=⟨9,0,0,[],note⟩
theorem dA(h:note.size<=60000):bC (aI note)=true:=by
 have:decide ((note.size:Int)<=60000)=true:=decide_eq_true (by omega)
 show (inB 9 1 10&&(inB 0 0 127&&(inB 0 0 65535&&(decide ((([]:List EdT).length:Int)<=64)&&((([]:List EdT).all edR)&&decide ((note.size:Int)<=60000))))))=true
 rw[this];decide
def fmR(D:DkM)(note:ByteArray):DkM×Int:=opD D (apE D (aC (aI note))) (apD (aC (aI note)))
def vI(D:DkM)(note:ByteArray):DkM×Int:=if 0<D.log.size\/60000<note.size then (D,1) else if (fmR D note).2≠0 then fmR D note else opD (fmR D note).1 0 flD
theorem PaQ.ok{n:Int}{ok:Bool}(h:PaQ S n S2 ok)(hc:SOk S c):SOk S2 (c+3):=by
 obtain⟨er,h1,_⟩:=h
 exact hc.load h1
theorem PaQ.ev{n:Int}{ok:Bool}(h:PaQ S n S2 ok)(hc:SOk S c):Ev S S2/\(ok=false->S2.D.off=true\/¬(0<=n/\n<(S.D.pgs.length:Int)))/\(ok=true->0<=n/\n<(S.D.pgs.length:Int)):=by
 obtain⟨er,h1,h2⟩:=h
 obtain⟨a,b,d⟩:=Ev.load hc h1
 refine⟨a,fun h=>b ?_,fun h=>(d ?_).1⟩
 rw[h] at h2;simpa using h2.symm
 rw[h] at h2;simpa using h2.symm
def eH(S:StM)(n:Int)(b:Bool):StM:={S with nt:=mzP S.told n S.nt,told:=cj S.told n (some b)}
theorem SOk.told(h:SOk S c)(n:Int)(b:Bool):SOk (eH S n b) (c+1):=⟨h.bufs,h.pgs,fun x hx=>Nat.le_succ_of_le (h.ws x hx),⟨h.time.1,by have:=h.time.2;show S.time<= _;omega⟩,Nat.le_succ_of_le h.ni,by have h1:=pS S.told n S.nt;have:=h.nt;show mzP S.told n S.nt<=c+1;omega,h.right,h.nodup,h.len,h.keys,h.recs,h.log,h.lsz,h.fl,h.cl⟩
inductive FrR:StM->Nat->StM->Int->Prop where
 |stop {S:StM}{n:Nat}(h:S.D.pgs.length<=n):FrR S n S (-1)
 |told {S S2:StM}{n:Nat}{r:Int}(h:n<S.D.pgs.length) (ht:(S.told (n:Int)).getD false=true) (hr:FrR S (n+1) S2 r):FrR S n S2 r
 |no {S S1 S2:StM}{n:Nat}{r:Int}{ok:Bool}(h:n<S.D.pgs.length) (ht:(S.told (n:Int)).getD false=false) (hp:PaQ S (n:Int) S1 ok) (hk:¬(ok=true/\(aF S (n:Int)).1=0)) (hr:FrR S1 (n+1) S2 r):FrR S n S2 r
 |yes {S S1:StM}{n:Nat}(h:n<S.D.pgs.length) (ht:(S.told (n:Int)).getD false=false) (hp:PaQ S (n:Int) S1 true) (hk:(aF S (n:Int)).1=0):FrR S n (eH S1 (n:Int) true) (n:Int)
def qA(sb db:Nat)(S:StM)(fp:List Nat)(w:World)(e:Ending)(w':World):Prop:=∃r,e= .returned (.int .i64 r)/\∃fp',St w fp [eSx sb db (fun S2=>FrR S 0 S2 r) fp'] w'
theorem qA.of{r:Int}{w:World}(h:FrR S 0 S2 r)(hs:St w fp ([]++[eSt sb db S2 fp']) w'):qA sb db S fp w (.returned (.int .i64 r)) w':=⟨r,rfl,fp',St.sx (L:=[]) hs h⟩
theorem Al(db:Nat)(D:DkM)(note:ByteArray)(fp:List Nat)(w:World)(hB:(eDk db D fp).holds w)(hlt:∀k∈fp,k<w.heap.size)(hlz:D.log.size<=9000000)(hns:note.size<=9000000):
  Calls Tryz.prog 20 #[po db 0,.string note] w (bV db (vI D note) fp w):=by
 have st1:St w fp [eDk db D fp] w:=St.lend hB (dV _ _ _) hlt
 go_enter Tryz.func20,Tryz.ntmps20
 have aj:=st1
 refine wq (sqr (sqp [.k 4 (vi 0)] ?_))
 refine aa (wq (wq (sqr (sqp [.m 6 0] ?_))))
 refine sqk (.string D.log) aj (fun cx=>⟨_,kA db D _ (fc (CtxV.holdF cx (cx.init 0 _ rfl) rfl)),(ax (cx.ou 6))⟩) fun W3 aW=>?_
 refine sqp [.k 8 (vi ((D.log.size:Int))),.k 9 (.bool (decide (0<(D.log.size:Int)))),.m 10 9] ?_
 refine sqw 10 [11,12,13] rfl (fun _=>sqp [.m 11 1,.k 12 (vi ((note.size:Int))),.k 13 (.bool (decide (60000<(note.size:Int))))] sqe) ?_
 refine sqp [sPo 14 (decide (0<(D.log.size:Int))) (decide (60000<(note.size:Int)))] ?_
 refine aa (wbs (fun dn=>?_) fun dn=>?_)
 have g9:=dn
 simp only[zB] at g9
 refine wq (sqr (sqp [.k 4 (vi 1)] ?_))
 refine aa (wp_ret (ai ?_))
 refine bpr (vi 1) (ag Tryz.results20 rpt) ?_
 exact bV.of (R':=(D,1)) (by rw[vI,if_pos (by have h_:=dn;simp at h_;omega)]) (aW.pick [0] (by decide) rfl)
 have g9:=dn
 simp only[zB] at g9
 obtain⟨MB,MC⟩:=g9
 refine wp_skip (aa (wq (wq ?_)))
 have hn6:note.size<=60000:=by have h_:=dn;simp at h_;omega
 have hfs:=eU (dA hn6)
 refine sqr (sqp [.m 15 0,.m 16 1,.k 17 (.agg #[vi 9,vi 0,vi 0,sn,sn,sn,sn,.string note])] ?_)
 refine sqk (.string (aC (aI note))) aW (fun cx=>⟨_,j6 9 0 0 none 0 [] note _ (fun j u h=>by cases j<;>cases h) (by decide) (fun e he=>by cases he) (by omega),(ax (cx.ou 17))⟩) fun qH dw=>?_
 refine bM (fun X_=>X_.fp) (vi ((fmR D note).2)) (fun CS=>eDk db ((fmR D note).1) CS) 0 dw (by
   refine svA fun n d W X cx=>?_
   refine am.call (au (args:=#[vp db,.string (aC (aI note))]) rfl cx.sees rfl (by kernel_rfl) (aM (cx.ou 15) (cx.ou 18))) ?_
   refine(rX db D (aC (aI note)) _ _ (CtxV.holdF cx (cx.init 0 _ rfl) rfl) (CtxV.ltF cx (cx.init 0 _ rfl) rfl) (by omega) (by omega)).mono ?_
   rintro e W1 ⟨rfl,fp4,aT⟩
   refine⟨_,rfl,aK (E:=eDk db D fp) [eDk db (fmR D note).1 fp4] (cx.init 0 _ rfl) rfl rfl aT (fun f g X' hs hb hv hN=>?_)⟩
   have aJ:=(hv 19 rfl).1;have aV:=(hv 19 rfl).2
   exact⟨aJ.trans rfl,cJ ((List.cons.inj hN).1)⟩) fun CS ux dQ=>?_
 refine sqp [.m 5 19] ?_
 refine aa (wq (sqr (sqp [.m 20 5,.k 21 (.bool (((fmR D note).2) != 0))] ?_)))
 refine aa (wbs (fun zE=>?_) fun zE=>?_)
 have Oi:=bne_iff_ne.1 zE
 refine wq (sqr (sqp [.m 22 5,.m 4 22] ?_))
 refine aa (wp_ret (ai ?_))
 refine bpr (vi ((fmR D note).2)) (ag Tryz.results20 rpt) ?_
 exact bV.of (R':=fmR D note) (by rw[vI,if_neg (by have h_:=dn;simp at h_;omega),if_pos (by simpa using zE)]) (dQ.pick [0] (by decide) rfl)
 have Oi:=bne_eq_false_iff_eq.1 zE
 refine wp_skip (aa (wq ?_))
 have hlz2:(fmR D note).1.log.size<=10000000:=by
  unfold fmR;refine cY (P:=fun D'=>D'.log.size<=10000000) (Nat.le_trans hlz (by decide)) (Nat.le_trans hlz (by decide)) fun _=>?_
  show (D.log++ _).size<= _
  rw[ByteArray.size_append];omega
 refine sqr (sqp [.m 23 0] ?_)
 refine bM (fun X_=>X_.fp) (vi ((opD (fmR D note).1 0 flD).2)) (fun I6=>eDk db ((opD (fmR D note).1 0 flD).1) I6) 0 dQ (by
   refine svA fun n d W X cx=>?_
   refine am.call (au (args:=#[vp db]) rfl cx.sees rfl (by kernel_rfl) (ax (cx.ou 23))) ?_
   refine(lS db (fmR D note).1 _ _ (CtxV.holdF cx (cx.init 0 _ rfl) rfl) (CtxV.ltF cx (cx.init 0 _ rfl) rfl) hlz2).mono ?_
   rintro e W1 ⟨rfl,fp4,aT⟩
   refine⟨_,rfl,aK (E:=eDk db ((fmR D note).1) CS) [eDk db (opD (fmR D note).1 0 flD).1 fp4] (cx.init 0 _ rfl) rfl rfl aT (fun f g X' hs hb hv hN=>?_)⟩
   have aJ:=(hv 24 rfl).1;have aV:=(hv 24 rfl).2
   exact⟨aJ.trans rfl,cJ ((List.cons.inj hN).1)⟩) fun I6 wV dP=>?_
 refine sqp [.m 4 24] ?_
 refine aa (wp_ret ?_)
 refine bpr (vi ((opD (fmR D note).1 0 flD).2)) (ag Tryz.results20 rpt) ?_
 exact bV.of (by rw[vI,if_neg (by have h_:=dn;simp at h_;omega),if_neg (by simpa using zE)]) (dP.pick [0] (by decide) rfl)
theorem Lc{S1:StM}{n:Nat}{ok:Bool}(h:n<S.D.pgs.length)(ht:(S.told (n:Int)).getD false=false)(hp:PaQ S (n:Int) S1 ok)(hk:ok=true/\(pgF S (n:Int) ok).1=0):FrR S n (eH S1 (n:Int) true) (n:Int):=by
 obtain⟨rfl,h2⟩:=hk
 exact .yes h ht hp (by rw[pgF,if_pos rfl] at h2;exact h2)
theorem Cp(sb db:Nat)(S:StM)(c:Nat)(fp:List Nat)(w:World)(hB:(eSt sb db S fp).holds w)(hlt:∀k∈fp,k<w.heap.size)(hok:SOk S c)(hc:c<=900000):
  Calls Tryz.prog 22 #[po sb 0] w (qA sb db S fp w):=by
 have st1:St w fp [eSt sb db S fp] w:=St.lend hB (dv _ _ _ _) hlt
 have hpg:=hok.pgs
 go_enter Tryz.func22,Tryz.ntmps22
 have aj:=st1
 refine wq (sqr (sqp [.k 2 (vi 0)] ?_))
 refine aa (wq (wq (sqr (sqp [.m 6 0] ?_))))
 refine sqk (vi ((S.D.pgs.length:Int))) aj (fun cx=>⟨_,pi sb db S _ (pR (CtxV.holdF cx (cx.init 0 _ rfl) rfl)),(ax (cx.ou 6))⟩) fun W3 aW=>?_
 refine sqp [.k 8 (vi 0)] ?_
 refine aa (wp_block ?_)
 refine aN (fun t_ mz az W=>∃n:Nat,∃Sj:StM,∃fpj:List Nat,n<=S.D.pgs.length/\(∀S2 r,FrR Sj n S2 r->FrR S 0 S2 r)/\SOk Sj (c+3*n)/\Sj.D.pgs.length=S.D.pgs.length/\mz=S.D.pgs.length-n/\az=⟨(ovr (jv az) [(2,2,4,[]),(2,8,0,[vi ((n:Int))]),(0,9,27,[])] t_).toArray,[]⟩/\St w fp [eSt sb db Sj fpj] W) (S.D.pgs.length-0) ?_ ?_
 exact⟨0,S,fp,Nat.zero_le _,fun S2 r h=>h,hok,rfl,rfl,(by kernel_rfl),aW.pk [0]⟩
 rintro n5 a5 W5 ⟨n,Sj,fpj,hn,hcont,hokj,hpj,rfl,hj_,aR⟩
 refine ovz hj_ fun w4=>?_
 refine wq (sqr (sqp [.k 9 (.bool (decide ((n:Int)<(S.D.pgs.length:Int))))] ?_))
 refine aa (wq (wds (fun fL nT=>?_) fun fL nT=>?_))
 ·refine wp_skip (aa (wq (wp_block (wq (sqr (sqp [.m 10 8,.m 3 10] ?_))))))
  refine aa (wq (wq ?_))
  have hnp:n<Sj.D.pgs.length:=by omega
  have hpg:=hok.pgs
  have hkn:kcI.ok (n:Int):=by constructor<;>omega
  obtain⟨⟨hrw1,hrr1⟩,mb1,RA1,rc1,EA1,ec1,ib1,tb1,fpd1,hv10_⟩:=aR.unf
  refine sqr (sqp [.m 11 0,.k 12 (vp sb),.k 13 (po sb 7)] ?_)
  refine aq 0 hv10_ ?_
  refine sqp [.m 15 3] ?_
  refine sql (.bool (((Sj.told (n:Int)).getD false))) hv10_ (fun cx=>cZ (e:=4) (C:=ecB) (K:=kcI) (x:=(n:Int)) rfl (cx.ou 14) (cx.ou 15) (CtxV.mx cx (cx.init 8 _ rfl) rfl) (h0:=(by rfl)) (hx:=hkn) (hk:=show Program.underlying _ _= _ from by kernel_rfl)) ?_
  refine aa (wbs (fun nR=>?_) fun nR=>?_)
  refine wp_exit (al (bf (aa (sqr (sqp [sI 35 ((n:Int)+1) (by omega),.m 8 35] ?_)))))
  refine aa ?_
  obtain⟨fp20_,hk20_⟩:=St.stf (S:=Sj) (hv10_) (hrw1) (hrr1)
  refine⟨S.D.pgs.length-((n+1)),by omega,?_⟩
  exact⟨(n+1),Sj,fp20_,by omega,(fun S2 r h=>hcont S2 r (FrR.told hnp nR h)),(hokj.mono (by omega)),hpj,rfl,(by kernel_rfl),hk20_.pk [0]⟩
  refine wp_skip (aa (wq ?_))
  obtain⟨fp21_,hk21_⟩:=St.stf (S:=Sj) (hv10_) (hrw1) (hrr1)
  refine aG [0,0,3,7,15,15,0,95,255] [[],[],[0],[],[],[],[],[3]] [[],[],[1,2],[],[],[],[3],[4]] [[],[],[0],[],[],[],[],[3]] [.k 18 (vp sb),.k 19 (vi ((n:Int))),.a 20,.a 17,.a 21,.a 22,.a 4,.n,.a 5] (fun ix f d X=>match ix with|0|1=>True|2=>f 20= .tuple #[.agg #[vi ((pgF Sj (n:Int) (tB1 (d 20))).1),vi ((pgF Sj (n:Int) (tB1 (d 20))).2.1),.slice (sA (tg (tg (d 20) 0) 2)) ((pgF Sj (n:Int) (tB1 (d 20))).2.2.length) (sC (tg (tg (d 20) 0) 2))],.bool (tB1 (d 20))]/\X 1=eSx sb db (fun S2=>PaQ Sj (n:Int) S2 (tB1 (d 20))) ((X 1).fp)/\X 2=eO 9 1 (.slice (sA (tg (tg (d 20) 0) 2)) ((pgF Sj (n:Int) (tB1 (d 20))).2.2.length) (sC (tg (tg (d 20) 0) 2))) ((pgF Sj (n:Int) (tB1 (d 20))).2.2.length) ((pgF Sj (n:Int) (tB1 (d 20))).2.2.map Value.string)|3=>f 17= .tuple #[.agg #[vi ((pgF Sj (n:Int) (tB1 (d 20))).1),vi ((pgF Sj (n:Int) (tB1 (d 20))).2.1),.slice (sA (tg (tg (d 20) 0) 2)) ((pgF Sj (n:Int) (tB1 (d 20))).2.2.length) (sC (tg (tg (d 20) 0) 2))],.bool (tB1 (d 20))]|4=>f 21= .agg #[vi ((pgF Sj (n:Int) (tB1 (d 20))).1),vi ((pgF Sj (n:Int) (tB1 (d 20))).2.1),.slice (sA (tg (tg (d 20) 0) 2)) ((pgF Sj (n:Int) (tB1 (d 20))).2.2.length) (sC (tg (tg (d 20) 0) 2))]|5=>f 22= .bool (tB1 (d 20))|6=>f 4=vp (pb (d 4))/\X 3=eB (pb (d 4)) 48 #[vi 0,vi 0,sn]|7=>X 4=eB (pb (d 4)) 48 #[vi ((pgF Sj (n:Int) (tB1 (d 20))).1),vi ((pgF Sj (n:Int) (tB1 (d 20))).2.1),.slice (sA (tg (tg (d 20) 0) 2)) ((pgF Sj (n:Int) (tB1 (d 20))).2.2.length) (sC (tg (tg (d 20) 0) 2))]|8=>f 5= .bool (tB1 (d 20))|_=>True) [1,2,4] [2,3,4,5,6,7,8] [(4,6,3,6),(11,3,1,12),(0,0,3,3),(0,4,2,2)] hk21_ ?_ ?_ ?_
  exact fun ix _ _ _ _ _ _ hs hb hx h=>match ix,h with
  |2,h=>by dsimp only;rw[<-hs 20 rfl,<-hb 20 rfl,<-hx 1 rfl,<-hx 2 rfl];exact h
  |3,h=>by dsimp only;rw[<-hs 17 rfl,<-hb 20 rfl];exact h
  |4,h=>by dsimp only;rw[<-hs 21 rfl,<-hb 20 rfl];exact h
  |5,h=>by dsimp only;rw[<-hs 22 rfl,<-hb 20 rfl];exact h
  |6,h=>by dsimp only;rw[<-hs 4 rfl,<-hb 4 rfl,<-hx 3 rfl];exact h
  |7,h=>by dsimp only;rw[<-hb 4 rfl,<-hb 20 rfl,<-hx 4 rfl];exact h
  |8,h=>by dsimp only;rw[<-hs 5 rfl,<-hb 20 rfl];exact h
  |0,_|1,_|_+9,_=>trivial
  refine⟨?_,?_,?_,?_,?_,?_,?_,trivial⟩
  refine svA fun g d W X cx=>?_
  refine am.call (au (args:=#[vp sb,vi ((n:Int))]) rfl cx.sees rfl (by kernel_rfl) (aM (cx.an 0) (cx.an 1))) ?_
  refine(qi sb db Sj (n:Int) (c+3*n) _ _ (CtxV.holdF cx (cx.init 0 _ rfl) rfl) (CtxV.ltF cx (cx.init 0 _ rfl) rfl) hokj (by omega) hkn).mono ?_
  rintro e W1 ⟨ok4,A4,c4,rfl,fp4,aT⟩
  refine⟨_,rfl,aK (E:=eSt sb db Sj fp21_) [eSx sb db (fun S2=>PaQ Sj (n:Int) S2 ok4) fp4,eO 9 1 (.slice A4 ((pgF Sj (n:Int) ok4).2.2.length) c4) ((pgF Sj (n:Int) ok4).2.2.length) ((pgF Sj (n:Int) ok4).2.2.map Value.string)] (cx.init 0 _ rfl) rfl rfl aT (fun f o X' hs hb hv hN=>?_)⟩
  have aJ:=(hv 20 rfl).1;have aV:=(hv 20 rfl).2
  exact⟨aJ.trans (by rw[aV];exact rfl),(by rw[aV];exact fS ((List.cons.inj hN).1)),(by rw[aV];exact(List.cons.inj (List.cons.inj hN).2).1)⟩
  exact sv rfl rfl rfl rfl rfl _ (fun _ _ _ h=>h) (fun d o h=>by rw[h 20 (by decide)]) fun g d W X cx=>dj rfl (dTn (cx.an 2)).1
  exact sv rfl rfl rfl rfl rfl _ (fun _ _ _ h=>h) (fun d o h=>by rw[h 20 (by decide)]) fun g d W X cx=>cd rfl (dTn (cx.an 3)) rfl
  exact sv rfl rfl rfl rfl rfl _ (fun _ _ _ h=>h) (fun d o h=>by rw[h 20 (by decide)]) fun g d W X cx=>cd rfl (dTn (cx.an 3)) rfl
  refine svA fun g d W X cx=>?_
  exact dm (cs:=#[vi 0,vi 0,sn]) rfl (by kernel_rfl) rfl rfl (fun _ _ _ _ _=> .intro)
  refine svA fun g d W X cx=>?_
  exact bx (n:=3) rfl (dTn (cx.an 6)).1 (dTn (cx.an 4)) (by kernel_rfl) (by kernel_rfl) (by kernel_rfl) cx (dTn (cx.an 6)).2 rfl (nle rfl) (by kernel_rfl) rfl rfl rfl (fun f o X' hs hb hx=>by rw[hb 4,hb 20];exact hx)
  exact sv rfl rfl rfl rfl rfl _ (fun _ _ _ h=>h) (fun d o h=>by rw[h 20 (by decide)]) fun g d W X cx=>di rfl (dTn (cx.an 5))
  intro f d X wZ hD dF fr aD
  obtain⟨ok20_22,pH⟩:∃z,tB1 (d 20)=z:=⟨_,rfl⟩
  obtain⟨Rf,qN⟩:∃z,sA (tg (tg (d 20) 0) 2)=z:=⟨_,rfl⟩
  obtain⟨Rg,qO⟩:∃z,sC (tg (tg (d 20) 0) 2)=z:=⟨_,rfl⟩
  obtain⟨Oj,tj⟩:∃z,pb (d 4)=z:=⟨_,rfl⟩
  have MI:X 1= _:=(dTn (hD 2 lq)).2.1
  obtain⟨Ok,zF⟩:∃z,(X 1).fp=z:=⟨_,rfl⟩
  rw[zF] at MI
  clear zF
  simp only[MI,exq 2 ((dTn (hD 2 lq)).2.2),exq 4 ((dTn (hD 7 lq))),pH,qN,qO,tj] at dF
  simp only[ed 20 ((dTn (hD 2 lq)).1),ed 17 ((dTn (hD 3 lq))),ed 21 ((dTn (hD 4 lq))),ed 22 ((dTn (hD 5 lq))),ed 4 ((dTn (hD 6 lq)).1),ed 5 ((dTn (hD 8 lq))),pH,qN,qO,tj] at aD
  clear hD MI pH qN qO tj;subst aD;clear f d X
  refine aa (wq ?_)
  obtain⟨S1,hP,hy23_⟩:=dF.unx
  refine sqr (sqp [.m 23 5,.m 24 23] ?_)
  refine d3 24 [25,26,27] ?_ rfl (fun hq=>?_) ?_
  rotate_left
  refine sqp [.k 25 (vp Oj)] ?_
  refine aq 2 hy23_ ?_
  refine sqp [.k 27 (.bool (((pgF Sj (n:Int) ok20_22).1)==0))] ?_
  exact sqe
  refine c5 ?_
  refine sqp [sPa 28 ok20_22 (((pgF Sj (n:Int) ok20_22).1)==0)] ?_
  refine aa (wbs (fun jJ=>?_) fun jJ=>?_)
  have jm:=jJ
  simp only[zB] at jm
  obtain⟨Mj,Mk⟩:=jm
  refine wq ?_
  obtain⟨⟨hrw2,hrr2⟩,mb2,RA2,rc2,EA2,ec2,ib2,tb2,fpd2,hv31_⟩:=hy23_.unf
  have hnt:=(hP.ok hokj).nt
  refine sqr (sqp [.m 29 0,.k 30 (vp sb),.k 31 (po sb 7)] ?_)
  refine aq 0 hv31_ ?_
  refine sqp [.m 33 3] ?_
  refine sqc (eMx kcI ecB Tryz.prog 3 tb2 ((mzP S1.told (n:Int) S1.nt)) (cj S1.told (n:Int) (some true))) 8 hv31_ (by
    refine svA fun g d W X cx=>?_
    exact gC (e:=4) (v:=true) (.inl rfl) (cx.ou 32) (show g _=Kc.enc kcI (n:Int) from(cx.ou 33)) (show g _=Ec.enc ecB true from(cx.co _)) cx (cx.init 8 _ rfl) rfl (trivial) (by omega) (hkn) rfl rfl rfl (fun _ _ _ _ _=>id) (hk:=show Program.underlying _ _= _ from by kernel_rfl)) fun Fh fE=>?_
  refine aa (wq (sqr (sqp [.m 34 3,.m 2 34] ?_)))
  refine aa (wp_ret (bb (ai (ai (bb (ai ?_))))))
  refine bpr (vi ((n:Int))) (ag Tryz.results22 rpt) ?_
  obtain⟨fp40_,hk40_⟩:=St.stf (S:=(eH S1 (n:Int) true)) (fE.u10.c0.u10.c0) (hrw2) (hrr2)
  exact qA.of (hcont _ _ (Lc hnp nR hP (by have h_:=jJ;simpa using h_))) hk40_
  have jm:=jJ
  simp only[zB] at jm
  refine wp_skip (av (aa (sqr (sqp [sI 35 ((n:Int)+1) (by omega),.m 8 35] ?_))))
  refine aa ?_
  refine⟨S.D.pgs.length-((n+1)),by omega,?_⟩
  exact⟨(n+1),S1,Ok,by omega,(fun S2 r h=>hcont S2 r (FrR.no hnp nR hP (fun hh=>by have h_:=jJ;simp[hh.1,pgF,hh.2] at h_) h)),((hP.ok hokj).mono (by omega)),((hP.ev hokj).1.len.trans hpj),rfl,(by kernel_rfl),hy23_.pk [0]⟩
 refine wp_exit (al (al (bf (aa (wq (sqr (sqp [.k 2 (vi (-1))] ?_)))))))
 refine aa (wp_ret ?_)
 refine bpr (vi (-1)) (ag Tryz.results22 rpt) ?_
 exact qA.of (hcont _ _ (.stop (by omega))) (aR.pick [0] (by decide) rfl)
end
section
open Go.RowKit Go.Maps Go.ChangeMaps
section
variable{κ ε:Type}{K:Kc κ}{C:Ec ε}{P:Program}{o:Oper}{ρ:Operand->Value}{W:World}{k e b n:Nat}{m:κ->Option ε}
theorem xZ{t:TypeId}{y z:Operand}{x:κ}(h:o.op= .lookup t y z true)(hy:ρ y= .map (some b))(hz:ρ z=K.enc x)(hb:gD K C P k b n m W)(h0:(zeroValue e).run P W= .ok (C.enc C.e0) W)(hx:K.ok x)
  (hk:K.ty P k:=by kernel_rfl) (ht:P.underlying t=some (.map k e):=by kernel_rfl):(execOp ρ o).run P W= .ok (.value (.tuple #[C.enc ((m x).getD C.e0),.bool (m x).isSome])) W:=by
 obtain⟨D,hD,_,_,hm⟩:=hb
 obtain⟨v,ps,hrun,hv⟩:=hD.look_ok (K.keyed hk) ht h0 (C.read C.e0 C.ok0) (K.key hk hx)
 rw[C.back v _ ps _ hv (hm x hx).2,(hm x hx).1] at hrun
 unfold execOp
 rw[h]
 simp[hy,hz,hrun]
end
abbrev PgV:=Int×Int×Option Addr×Nat×Nat
def Hy(v:PgV):Value:= .agg #[.int .i64 v.1,.int .i64 v.2.1,.slice v.2.2.1 v.2.2.2.1 v.2.2.2.2]
def spD:Option Nat->DataW Unit
 |none=> .lit (.int .i64 (-1))
 |some j=> .lit (.int .i64 (j:Int))
theorem Kg:∀{a b:Option Nat},spD a=spD b->a=b
 |none,none,_=>rfl
 |none,some j,h=>by simp[spD] at h
 |some i,none,h=>by simp[spD] at h
 |some i,some j,h=>by simp[spD] at h;congr 1;omega
def adD:Option Addr->DataW Unit
 |none=> .nil
 |some a=> .agg [.lit (.int .i64 (a.block:Int)),.lit (.int .i64 (a.off:Int)),spD a.spot]
theorem J0:∀{a b:Option Addr},adD a=adD b->a=b
 |none,none,_=>rfl
 |none,some j,h=>by simp[adD] at h
 |some i,none,h=>by simp[adD] at h
 |some ⟨i1,i2,i3⟩,some ⟨j1,j2,j3⟩,h=>by
  simp only[adD,DataW.agg.injEq,List.cons.injEq,DataW.lit.injEq,Lit.int.injEq,and_true,true_and] at h
  obtain⟨h1,h2,h3⟩:=h
  rw[Int.ofNat.inj h1,Int.ofNat.inj h2,Kg h3]
def ya(v:PgV):DataW Unit:= .agg [.lit (.int .i64 v.1),.lit (.int .i64 v.2.1),adD v.2.2.1,.lit (.int .i64 (v.2.2.2.1:Int)),.lit (.int .i64 (v.2.2.2.2:Int))]
def Gp:List Value->Option (DataW Unit×List MemPlace)
 | [.int .i64 k,.int .i64 l,.slice A n c]=>some (ya (k,l,A,n,c),[])
 |_=>none
def Gm:Value->Option (DataW Unit×List MemPlace)
 | .agg cells=>Gp cells.toList
 |_=>none
theorem DH(v:List Value)(d:DataW Unit)(ps:List MemPlace)(e:PgV)(h:Gp v=some (d,ps))(hd:d=ya e):v=[.int .i64 e.1,.int .i64 e.2.1,.slice e.2.2.1 e.2.2.2.1 e.2.2.2.2]:=by
 unfold Gp at h
 split at h
 rename_i k l A n c
 injection h with h
 injection h with h _
 rw[hd] at h
 obtain⟨e1,e2,e3,e4,e5⟩:=e
 simp only[ya,DataW.agg.injEq,List.cons.injEq,DataW.lit.injEq,Lit.int.injEq,and_true,true_and] at h
 obtain⟨h1,h2,h3,h4,h5⟩:=h
 rw[h1,h2,J0 h3,Int.ofNat.inj h4,Int.ofNat.inj h5]
 cases h
theorem Gf(v:Value)(d:DataW Unit)(ps:List MemPlace)(e:PgV)(h:Gm v=some (d,ps))(hd:d=ya e):v=Hy e:=by
 unfold Gm at h
 split at h
 rename_i cells
 have h1:=DH _ _ _ _ h hd
 rw[Hy]
 congr 1
 exact Array.toList_inj.1 h1
 cases h
def pgX:Ec PgV where
 enc:=Hy
 dat:=ya
 R:=Gm
 e0:=(0,0,none,0,0)
 okE:=fun _=>True
 read:=fun e _=>rfl
 back:=Gf
 ok0:=trivial
def jF(os:List Int)(e:EdT):List Int:=if e.1∈os then os else os++[e.1]
def cH(l:List EdT):List Int:=l.foldl jF []
def eR(N:Int->PgS)(e:EdT):Int->PgS:=fun n=>if n=e.1 then doV (N e.1) e 1 else N n
def bq(cur:Int->PgS)(l:List EdT):Int->PgS:=l.foldl eR cur
def cU(N:Int->PgS):List EdT->Int
 | []=>0
 |e::l=>if doE (N e.1) e 1=0 then cU (eR N e) l else doE (N e.1) e 1
theorem sF(l:List EdT)(e:EdT):cH (l++[e])=jF (cH l) e:=by rw[cH,List.foldl_append];rfl
theorem yU(cur:Int->PgS)(l:List EdT)(e:EdT):bq cur (l++[e])=eR (bq cur l) e:=by rw[bq,List.foldl_append];rfl
theorem AW(l1:List EdT):∀(N:Int->PgS) (l2:List EdT),cU N l1=0->cU N (l1++l2)=cU (bq N l1) l2:=by
 induction l1 with
 |nil=>intro N l2 _;rfl
 |cons e l ih=>
  intro N l2 h
  rw[cU] at h
  rw[List.cons_append,cU]
  split at h
  rename_i h0
  rw[if_pos h0]
  exact ih _ _ h
  rename_i h0;exact absurd h h0
theorem ip{l:List EdT}(h:l[j]? =some e):l.take (j+1)=l.take j++[e]:=by rw[List.take_add_one,h];rfl
theorem yd{l:List EdT}(he:l[j]? =some e)(h:cU N (l.take j)=0)(h0:doE (bq N (l.take j) e.1) e 1=0):cU N (l.take (j+1))=0:=by
 rw[ip he,AW _ _ _ h,cU,if_pos h0];rfl
theorem sr{l:List EdT}(he:l[j]? =some e)(h:cU N (l.take j)=0)(h0:doE (bq N (l.take j) e.1) e 1≠0):cU N l=doE (bq N (l.take j) e.1) e 1:=by
 obtain⟨hj,rfl⟩:=List.getElem?_eq_some_iff.1 he
 have e1:l=l.take j++l[j]::l.drop (j+1):=by rw[<-List.drop_eq_getElem_cons hj,List.take_append_drop]
 conv=>lhs;rw[e1]
 rw[AW _ _ _ h,cU,if_neg h0]
theorem mi(l:List EdT):(cH l).length<=l.length:=by
 have h:∀(l:List EdT) (os:List Int),(l.foldl jF os).length<=os.length+l.length:=by
  intro l
  induction l with
  |nil=>intro os;exact Nat.le_refl _
  |cons e l ih=>
   intro os
   refine Nat.le_trans (ih _) ?_
   unfold jF
   split
   simp only[List.length_cons];omega
   simp only[List.length_cons,List.length_append,List.length_nil];omega
 have:=h l []
 simpa[cH] using this
theorem ky{l:List EdT}{n:Int}:n∈cH l<->∃e∈l,e.1=n:=by
 have h:∀(l:List EdT) (os:List Int),n∈l.foldl jF os<->(n∈os\/∃e∈l,e.1=n):=by
  intro l
  induction l with
  |nil=>intro os;simp
  |cons e l ih=>
   intro os
   rw[List.foldl_cons,ih]
   unfold jF
   split
   rename_i h1
   constructor
   rintro(h|⟨x,hx,hn⟩)
   exact .inl h
   exact .inr ⟨x,List.mem_cons_of_mem _ hx,hn⟩
   rintro(h|⟨x,hx,hn⟩)
   exact .inl h
   rcases List.mem_cons.1 hx with rfl|hx
   exact .inl (hn ▸ h1)
   exact .inr ⟨x,hx,hn⟩
   rw[List.mem_append,List.mem_singleton]
   constructor
   rintro((h|h)|⟨x,hx,hn⟩)
   exact .inl h
   exact .inr ⟨e,List.mem_cons_self,h.symm⟩
   exact .inr ⟨x,List.mem_cons_of_mem _ hx,hn⟩
   rintro(h|⟨x,hx,hn⟩)
   exact .inl (.inl h)
   rcases List.mem_cons.1 hx with rfl|hx
   exact .inl (.inr hn.symm)
   exact .inr ⟨x,hx,hn⟩
 have:=h l []
 simpa[cH] using this
theorem DI(l:List EdT):(cH l).Nodup:=by
 have h:∀(l:List EdT) (os:List Int),os.Nodup->(l.foldl jF os).Nodup:=by
  intro l
  induction l with
  |nil=>intro os h;exact h
  |cons e l ih=>
   intro os h
   refine ih _ ?_
   unfold jF
   split
   exact h
   rename_i h1
   rw[List.nodup_append]
   exact⟨h,by simp,fun a ha b hb e2=>h1 (by rw[<-List.mem_singleton.1 hb,<-e2];exact ha)⟩
 exact h l [] List.nodup_nil
def d9(n:Nat)(e:EdT):Bool:=decide (e.1<0)||decide ((n:Int)<=e.1)
def lC{α:Type}(p:α->Bool)(k:Int):List α->Int
 | []=> -1
 |x::l=>if p x then k else lC p (k+1) l
theorem AT{α:Type}{p:α->Bool}{l:List α}{x:α}(h:l[k]? =some x):lC p (k:Int) (l.drop k)=if p x then (k:Int) else lC p ((k+1:Nat):Int) (l.drop (k+1)):=by
 obtain⟨hk,rfl⟩:=List.getElem?_eq_some_iff.1 h
 rw[List.drop_eq_getElem_cons hk,lC];rfl
theorem Hb{α:Type}(p:α->Bool)(l:List α):∀k:Int,0<=k->decide (0<=lC p k l)=l.any p:=by
 induction l with
 |nil=>intro k _;rfl
 |cons x l ih=>
  intro k hk
  rw[lC,List.any_cons]
  cases p x with
  |true=>rw[if_pos rfl,Bool.true_or];exact decide_eq_true hk
  |false=>rw[if_neg (by decide),Bool.false_or];exact ih (k+1) (by omega)
theorem JX(n:Nat)(x:Int)(sl:Int)(s:ByteArray):(if decide (x<0)=true then true else decide ((n:Int)<=x))=d9 n (x,sl,s):=by
 unfold d9;cases decide (x<0)<;>rfl
theorem Ho(x sl:Int)(s:ByteArray)(q sb db:Nat)(S:StM)(w:World)(hbq:Blk w q 31 #[po sb 0])(aZ:lz w sb db S):
  Calls Tryz.prog 54 #[.agg #[.int .i64 x,.int .i64 sl,.string s],po q 0] w (Ret (.bool (d9 S.D.pgs.length (x,sl,s))) w):=by
 go_enter Tryz.func54,Tryz.ntmps54
 have aj:=St.start w
 refine wq (sqr ?_)
 refine b9 #[vi x,vi sl,.string s] aj fun br W1 ay=>?_
 refine sqp [.k 3 (.bool false)] ?_
 refine aa (wq (bP [0,1,3,7,15,31,15,79,255,511,1023] [[],[0],[],[],[],[0]] [.k 4 (vp br),.c 5 (vi x),.k 6 (.bool (decide (x<0))),.k 7 (.bool (decide (x<0))),.z 8 (!(decide (x<0))) (vp br),.y 9 (!(decide (x<0))) (vi x),.y 10 (!(decide (x<0))) (vp sb),.y 11 (!(decide (x<0))) (vi ((S.D.pgs.length:Int))),.z 12 (!(decide (x<0))) (.bool (decide ((S.D.pgs.length:Int)<=x))),tO 13 (decide (x<0)) (decide ((S.D.pgs.length:Int)<=x)),.k 3 (.bool ((decide (x<0))||(decide ((S.D.pgs.length:Int)<=x))))] [0] [1,5,6,7] [(3,10,1,4),(0,0,10,10)] ay ?_ fun W3 aW=>?_))
 refine⟨?_,?_,?_,?_,trivial⟩
 exact xs4 rfl id fun cx=>ae rfl (by kernel_rfl) (cx.an 0) ((cx.bi 0 rfl).cell 0)
 exact m2 rfl (fun _ _ _ h=>h) (fun cx=>(cx.an 3)) fun cx hq=>ae rfl (by kernel_rfl) (mbv (cx.an 4) hq) ((cx.bi 0 rfl).cell 0)
 exact m2 rfl (fun _ _ _ h=>h) (fun cx=>(cx.an 3)) fun cx hq=>ae rfl (by kernel_rfl) (cx.ou 1) ((Blk.ext hbq cx.upd.to_ext).cell 0)
 exact m3 rfl (fun _ _ _ h=>h) (fun cx=>(cx.an 3)) fun cx hq=>⟨_,_,au (args:=#[vp sb]) rfl cx.sees rfl (by kernel_rfl) (ax (mbv (cx.an 6) hq)),pi sb db S _ (lz.ext aZ cx.upd.to_ext)⟩
 refine aa (wp_ret ?_)
 refine bpr (.bool ((decide (x<0))||(decide ((S.D.pgs.length:Int)<=x)))) (ag Tryz.results54 rpt) ?_
 exact Ret.bool (by rw[<-JX];simp) aW.ext
theorem DL(A:Option Addr)(c:Nat)(l:List EdT)(f0:FuncId)(cap:Array Value)(p:EdT->Bool)(w:World)(hA:At w A (l.flatMap edC))(hl:l.length<=100000)(hcf:gU Tryz.prog f0=true)(hf:∀(W:World) (k:EdT),Ext w W->Calls Tryz.prog f0 (#[.agg #[.int .i64 k.1,.int .i64 k.2.1,.string k.2.2]]++cap) W (Ret (.bool (p k)) W)):
  Calls Tryz.prog 117 #[.slice A l.length c,.func (.func f0) #[] cap] w (Ret (.int .i64 (lC p 0 l)) w):=by
 go_enter Tryz.func117,Tryz.ntmps117
 have aj:=St.start w
 refine wq (sqr (sqp [.k 4 (vi 0)] ?_))
 refine aa (wq (wq (sqr (sqp [.m 6 0,.k 7 (vi ((l.length:Int))),.k 8 (vi 0)] ?_))))
 refine aa (wp_block ?_)
 refine aN (fun t_ mz az W=>∃k:Nat,k<=l.length/\lC p 0 l=lC p (k:Int) (l.drop k)/\mz=l.length-k/\az=⟨(ovr (jv az) [(4,4,2,[]),(2,8,0,[vi ((k:Int))]),(0,9,10,[])] t_).toArray,[]⟩/\St w [] [] W) (l.length-0) ?_ ?_
 exact⟨0,Nat.zero_le _,rfl,rfl,(by kernel_rfl),aj.pk []⟩
 rintro n5 a5 W5 ⟨k,hk,hkr,rfl,hj_,aR⟩
 refine ovz hj_ fun w4=>?_
 refine wq (sqr (sqp [.k 9 (.bool (decide ((k:Int)<(l.length:Int))))] ?_))
 refine aa (wq (wds (fun fL nT=>?_) fun fL nT=>?_))
 refine wp_skip (aa (wq (wp_block (wq (sqr (sqp [.m 10 8,.m 5 10] ?_))))))
 refine aa (wq ?_)
 obtain⟨ep,es,eb,hek⟩:=kZ (l:=l) (k:=k) (by omega)
 refine sqr (sqp [.m 11 1,.m 12 0,.m 13 5] ?_)
 refine sql (.pointer (some ((ad A).add (k*3)))) aR (fun cx=>aB (e:=84) (m:=k) (sz:=3) rfl (by kernel_rfl) (by kernel_rfl) (cx.ou 12) (cx.ou 13) (by omega) (by omega) (hA.ext cx.upd.to_ext) (bj (sz:=3) bD (by decide) (by omega))) ?_
 refine sql (.agg #[vi ep,vi es,.string eb]) aR (fun cx=>bF (f:=edC) (m:=k) (sz:=3) (off:=0) (n:=3) rfl (by kernel_rfl) (by kernel_rfl) (cx.ou 14) rfl bD (hA.ext cx.upd.to_ext) hek (fun k hk=>match k,hk with|0,_=>rfl|1,_=>rfl|2,_=>rfl|k+3,hk=>absurd hk (by omega))) ?_
 refine sqv (.bool ((p (ep,es,eb)))) aR (iA rfl rfl rfl rfl rfl (fun _ _ _ h=>h) fun g d W X cx=>⟨_,_,cN (f:=f0) (args:=#[.agg #[vi ep,vi es,.string eb]]) (args':=#[.agg #[vi ep,vi es,.string eb]]++cap) rfl rfl (cx.ou 11) hcf (ax (cx.ou 15)) (by rw[Array.empty_append]),(by have h9:=hf W (ep,es,eb) cx.upd.to_ext;dsimp only at h9;exact h9)⟩) fun Bq gx=>?_
 refine aa (wbs (fun dc=>?_) fun dc=>?_)
 refine wq (sqr (sqp [.m 17 5,.m 4 17] ?_))
 refine aa (wp_ret (bb (ai (ai (bb (ai ?_))))))
 refine bpr (vi ((k:Int))) (ag Tryz.results117 rpt) ?_
 exact Ret.of (by rw[hkr,AT hek,dc];rfl) gx.ext
 refine wp_skip (av (aa (sqr (sqp [sI 18 ((k:Int)+1) (by omega),.m 8 18] ?_))))
 refine aa ?_
 refine⟨l.length-((k+1)),by omega,?_⟩
 exact⟨(k+1),by omega,by rw[hkr,AT hek,dc];rfl,rfl,(by kernel_rfl),gx.pk []⟩
 refine wp_exit (al (al (bf (aa (wq (sqr (sqp [.k 4 (vi (-1))] ?_)))))))
 refine aa (wp_ret ?_)
 refine bpr (vi (-1)) (ag Tryz.results117 rpt) ?_
 exact Ret.of (by rw[hkr,List.drop_of_length_le (by omega)];rfl) aR.ext
theorem EG(A:Option Addr)(c:Nat)(l:List EdT)(f0:FuncId)(cap:Array Value)(p:EdT->Bool)(w:World)(hA:At w A (l.flatMap edC))(hl:l.length<=100000)(hcf:gU Tryz.prog f0=true)(hf:∀(W:World) (k:EdT),Ext w W->Calls Tryz.prog f0 (#[.agg #[.int .i64 k.1,.int .i64 k.2.1,.string k.2.2]]++cap) W (Ret (.bool (p k)) W)):
  Calls Tryz.prog 53 #[.slice A l.length c,.func (.func f0) #[] cap] w (Ret (.bool (l.any p)) w):=by
 go_enter Tryz.func53,Tryz.ntmps53
 have aj:=St.start w
 refine wq (sqr (sqp [.k 4 (.bool false)] ?_))
 refine aa (wq (sqr (sqp [.m 5 0,.m 6 1] ?_)))
 refine sqv (vi ((lC p 0 l))) aj (iA rfl rfl rfl rfl rfl (fun _ _ _ h=>h) fun f d W X cx=>⟨_,_,au (args:=#[.slice A l.length c,.func (.func f0) #[] cap]) rfl cx.sees rfl (by kernel_rfl) (aM (cx.ou 5) (cx.ou 6)),DL _ _ l _ _ p _ (hA.ext cx.upd.to_ext) hl hcf (fun W k hW=>hf W k (cx.upd.to_ext.trans hW))⟩) fun W4 bc=>?_
 refine sqp [.k 8 (.bool (decide (0<=(lC p 0 l)))),.m 4 8] ?_
 refine aa (wp_ret ?_)
 refine bpr (.bool (decide (0<=(lC p 0 l)))) (ag Tryz.results53 rpt) ?_
 exact Ret.of (by rw[<-Hb _ _ 0 (by omega)]) bc.ext
end
section
open Go.RowKit Go.Maps Go.ChangeMaps
noncomputable def gg(S:StM)(n:Int):RecM:=⟨8,0,n,[],aH (aF S n)⟩
def eI(S:StM)(os:List Int):List Int:=os.filter fun n=>!(S.im n).getD false
def rcI(r:RecM):RcT:=⟨r,none,0⟩
noncomputable def icC(S:StM)(n:Int):List Value:=rcC (rcI (gg S n))
theorem AO(S:StM)(n:Int):(icC S n).length=8:=rfl
noncomputable def fk(S:StM)(os:List Int):List RecM:=(eI S os).map (gg S)
def iC(l:Int)(p:PgS):PgS:=(p.1,l,p.2.2)
def npV(p:PgS)(pg:PgR):PgV:=(p.1,p.2.1,pg.A,p.2.2.length,pg.c)
noncomputable def eE(S:StM)(r:RecM):Int:=(S.recs.length:Int)+((eI S (cH r.eds)).length:Int)+1
theorem qh(S:StM)(os:List Int)(n:Int):eI S (os++[n])=if (S.im n).getD false=true then eI S os else eI S os++[n]:=by
 rw[eI,List.filter_append]
 cases h:(S.im n).getD false
 rw[if_neg (by decide),List.filter_cons_of_pos (by rw[h];rfl)];rfl
 rw[if_pos rfl,List.filter_cons_of_neg (by rw[h];decide),List.filter_nil,List.append_nil];rfl
theorem o8(S:StM)(os:List Int):(eI S os).length<=os.length:=List.length_filter_le _ _
theorem sH{n:Int}(h:n∈eI S os):n∈os:=(List.mem_filter.1 h).1
theorem iP(h:SOk S c)(n:Int):bJ (aF S n):=by
 unfold aF
 split
 rename_i t ht;exact h.right t (List.mem_of_find?_eq_some ht)
 exact se _
theorem jO{cur:Int->PgS}{l:List EdT}(hc:∀n,bJ (cur n))(h:cU cur l=0)(n:Int):bJ (bq cur l n):=by
 induction l generalizing cur with
 |nil=>exact hc n
 |cons e l ih=>
  rw[cU] at h
  split at h
  rename_i h0
  refine ih (fun m=>?_) h
  unfold eR
  split
  exact kr h0
  exact hc m
  rename_i h0;exact absurd h h0
structure DoI (cur N:Int->PgS) (lsn:Int) (os:List Int) (mW mN:Int->Option PgV) (rows:List PgR) (ex:Option Int):Prop where
 w:∀n∈os,∃pg∈rows,mW n=some (npV (cur n) pg)/\pg.p.2.2=(cur n).2.2
 n:∀n∈os,∃pg∈rows,mN n=some (npV (N n) pg)/\pg.p.2.2=(N n).2.2/\(ex≠some n->pg.p=iC lsn (N n))
 no:∀n,n∉os->mW n=none/\mN n=none/\N n=cur n
theorem DoI.init(cur:Int->PgS)(lsn:Int)(rows:List PgR):DoI cur cur lsn [] (fun _=>none) (fun _=>none) rows none:=⟨fun n h=>(by cases h),fun n h=>(by cases h),fun n _=>⟨rfl,rfl,rfl⟩⟩
theorem DoI.mono{cur:Int->PgS}{mW mN:Int->Option PgV}{rows rows':List PgR}{ex:Option Int}(h:DoI cur N lsn os mW mN rows ex)(hr:∀r∈rows,r∈rows'):DoI cur N lsn os mW mN rows' ex:=
 ⟨fun n hn=>let ⟨pg,a,b⟩:=h.w n hn;⟨pg,hr pg a,b⟩,fun n hn=>let ⟨pg,a,b⟩:=h.n n hn;⟨pg,hr pg a,b⟩,h.no⟩
theorem mB(h:e.1∈os):jF os e=os:=if_pos h
theorem kq(h:e.1∉os):jF os e=os++[e.1]:=if_neg h
theorem Ep(os:List Int)(e:EdT):e.1∈jF os e:=by
 by_cases h:e.1∈os
 rw[mB h];exact h
 rw[kq h];exact List.mem_append_right _ (List.mem_singleton.2 rfl)
theorem DoI.mem{cur:Int->PgS}{mW mN:Int->Option PgV}{rows:List PgR}{ex:Option Int}(h:DoI cur N lsn os mW mN rows ex){n:Int}:((mW n).isSome=true<->n∈os):=by
 constructor
 intro h1
 refine Classical.byContradiction fun hn=>?_
 rw[(h.no n hn).1] at h1
 cases h1
 intro hn
 obtain⟨pg,_,h2,_⟩:=h.w n hn
 rw[h2];rfl
theorem DoI.old{cur:Int->PgS}{mW mN:Int->Option PgV}{rows:List PgR}(h:DoI cur N lsn os mW mN rows none)(e:EdT)(hs:(mW e.1).isSome=true):DoI cur N lsn (jF os e) mW mN rows (some e.1):=by
 rw[mB (h.mem.1 hs)]
 exact⟨h.w,fun n hn=>let ⟨pg,a,b,c,d⟩:=h.n n hn;⟨pg,a,b,c,fun _=>d (by simp)⟩,h.no⟩
theorem DoI.new{cur:Int->PgS}{mW mN:Int->Option PgV}{rows:List PgR}(h:DoI cur N lsn os mW mN rows none)(e:EdT)(hs:(mW e.1).isSome=false)(hq:q=cur e.1)(A:Option Addr)(c:Nat):
  DoI cur N lsn (jF os e) (cj mW e.1 (some (q.1,q.2.1,A,q.2.2.length,c))) (cj mN e.1 (some (q.1,q.2.1,A,q.2.2.length,c))) (rows++[⟨q,A,c⟩]) (some e.1):=by
 have hn:e.1∉os:=fun hm=>by rw[h.mem.2 hm] at hs;cases hs
 rw[kq hn]
 subst hq
 refine⟨fun n hm=>?_,fun n hm=>?_,fun n hm=>?_⟩
 by_cases e1:n=e.1
 subst e1;exact⟨_,List.mem_append_right _ (List.mem_singleton.2 rfl),if_pos rfl,rfl⟩
 obtain⟨pg,a,b⟩:=h.w n ((List.mem_append.1 hm).elim id fun h=>absurd (List.mem_singleton.1 h) e1)
 exact⟨pg,List.mem_append_left _ a,by rw[cj,if_neg e1];exact b.1,b.2⟩
 by_cases e1:n=e.1
 subst e1
 exact⟨_,List.mem_append_right _ (List.mem_singleton.2 rfl),by rw[cj,if_pos rfl,npV,(h.no _ hn).2.2],by rw[(h.no _ hn).2.2],fun h=>absurd rfl h⟩
 obtain⟨pg,a,b,c,d⟩:=h.n n ((List.mem_append.1 hm).elim id fun h=>absurd (List.mem_singleton.1 h) e1)
 exact⟨pg,List.mem_append_left _ a,by rw[cj,if_neg e1];exact b,c,fun _=>d (by simp)⟩
 have h1:n∉os:=fun h2=>hm (List.mem_append_left _ h2)
 have e1:n≠e.1:=fun h2=>hm (List.mem_append_right _ (List.mem_singleton.2 h2))
 obtain⟨a,b,c⟩:=h.no n h1
 exact⟨by rw[cj,if_neg e1];exact a,by rw[cj,if_neg e1];exact b,c⟩
theorem DoI.edit{cur:Int->PgS}{mW mN:Int->Option PgV}{rows:List PgR}(h:DoI cur N lsn os mW mN rows (some e.1))(hm:e.1∈os)(hq:q=doV (N e.1) e 1)(A:Option Addr)(c:Nat):
  DoI cur (eR N e) lsn os mW (cj mN e.1 (some (q.1,q.2.1,A,q.2.2.length,c))) (rows++[⟨iC lsn q,A,c⟩]) none:=by
 subst hq
 refine⟨fun n hn=>let ⟨pg,a,b⟩:=h.w n hn;⟨pg,List.mem_append_left _ a,b⟩,fun n hn=>?_,fun n hn=>?_⟩
 by_cases e1:n=e.1
 subst e1
 have e2:eR N e e.1=doV (N e.1) e 1:=if_pos rfl
 exact⟨_,List.mem_append_right _ (List.mem_singleton.2 rfl),by rw[cj,if_pos rfl,npV,e2],by rw[e2];rfl,fun _=>by rw[e2]⟩
 obtain⟨pg,a,b,c,d⟩:=h.n n hn
 have e2:eR N e n=N n:=if_neg e1
 exact⟨pg,List.mem_append_left _ a,by rw[cj,if_neg e1,e2];exact b,by rw[e2];exact c,fun _=>by rw[e2];exact d (fun h=>e1 (Option.some.inj h).symm)⟩
 obtain⟨a,b,c⟩:=h.no n hn
 have e1:n≠e.1:=fun h2=>hn (h2 ▸ hm)
 exact⟨a,by rw[cj,if_neg e1];exact b,by rw[eR,if_neg e1];exact c⟩
inductive ApI:StM->List RecM->StM->Int->Prop where
 |nil (S:StM):ApI S [] S 0
 |bad {S:StM}{r:RecM}{l:List RecM}(q:List RcT) (h:(bz {S with rr:=q} (rcI r)).2≠0):ApI S (r::l) (bz {S with rr:=q} (rcI r)).1 (bz {S with rr:=q} (rcI r)).2
 |cons {S S2:StM}{r:RecM}{l:List RecM}{er:Int}(q:List RcT) (h:(bz {S with rr:=q} (rcI r)).2=0) (hr:ApI (imS (bz {S with rr:=q} (rcI r)).1 r.tbl) l S2 er):ApI S (r::l) S2 er
inductive PuA (cur N:Int->PgS) (lsn:Int):StM->List Int->StM->Int->Prop where
 |nil (S:StM):PuA cur N lsn S [] S 0
 |bad {S S2:StM}{n er:Int}{l:List Int}{pg:PgR}(hp:pg.p=iC lsn (N n)) (h:ei (if (cur n).1≠0/\(N n).1=0 then eH S n false else S) n pg S2 er) (he:er≠0):PuA cur N lsn S (n::l) S2 er
 |cons {S S1 S2:StM}{n er:Int}{l:List Int}{pg:PgR}(hp:pg.p=iC lsn (N n)) (h:ei (if (cur n).1≠0/\(N n).1=0 then eH S n false else S) n pg S1 0) (hr:PuA cur N lsn S1 l S2 er):PuA cur N lsn S (n::l) S2 er
def DoA(r:RecM):Prop:=bC r=true/\r.kind≠8/\r.kind≠9
noncomputable def jV(S:StM)(r:RecM):Nat:=S.D.log.size+((aC r).size+szF (fk S (cH r.eds)))
inductive DoQ (S:StM) (r:RecM):StM->Int->Int->Prop where
 |arg (h:¬DoA r):DoQ S r S 0 1
 |page {S':StM}(h:DoA r) (hp:r.eds.any (d9 S.D.pgs.length)=true) (he:Ev S S'):DoQ S r S' 0 22
 |pow {S':StM}(h:DoA r) (hp:r.eds.any (d9 S.D.pgs.length)=false) (he:Ev S S') (ho:S'.D.off=true):DoQ S r S' 0 24
 |err {S':StM}(h:DoA r) (hp:r.eds.any (d9 S.D.pgs.length)=false) (he:Ev S S') (h0:cU (aF S) r.eds≠0):DoQ S r S' 0 (cU (aF S) r.eds)
 |full {S':StM}(h:DoA r) (hp:r.eds.any (d9 S.D.pgs.length)=false) (he:Ev S S') (h0:cU (aF S) r.eds=0) (hf:1048576<jV S r):DoQ S r S' 0 31
 |img {S1 S2:StM}{er:Int}(h:DoA r) (hp:r.eds.any (d9 S.D.pgs.length)=false) (he:Ev S S1) (hk:∃c,SOk S1 c) (h0:cU (aF S) r.eds=0) (hf:jV S r<=1048576) (hi:ApI S1 (fk S (cH r.eds)) S2 er) (hn:er≠0):DoQ S r S2 0 er
 |app {S1 S2:StM}{rt:RcT}(h:DoA r) (hp:r.eds.any (d9 S.D.pgs.length)=false) (he:Ev S S1) (hk:∃c,SOk S1 c) (h0:cU (aF S) r.eds=0) (hf:jV S r<=1048576) (hi:ApI S1 (fk S (cH r.eds)) S2 0) (hr:rt.r=r) (hn:(bz S2 rt).2≠0):DoQ S r (bz S2 rt).1 0 (bz S2 rt).2
 |put {S1 S2 S3:StM}{rt:RcT}{er:Int}(h:DoA r) (hp:r.eds.any (d9 S.D.pgs.length)=false) (he:Ev S S1) (hk:∃c,SOk S1 c) (h0:cU (aF S) r.eds=0) (hf:jV S r<=1048576) (hi:ApI S1 (fk S (cH r.eds)) S2 0) (hr:rt.r=r) (ha:(bz S2 rt).2=0)
   (hu:PuA (aF S) (bq (aF S) r.eds) (eE S r) (bz S2 rt).1 (cH r.eds) S3 er):DoQ S r S3 (if er=0 then eE S r else 0) er
def fP(sb db:Nat)(S:StM)(r:RecM)(c:Nat)(fp:List Nat)(w:World)(e:Ending)(w':World):Prop:=∃n er,e= .returned (.tuple #[.int .i64 n,.int .i64 er])/\∃fp',St w fp [eSx sb db (fun S2=>DoQ S r S2 n er/\SOk S2 (c+700)) fp'] w'
theorem fP.of{n:Int}{w:World}(h:DoQ S r S2 n er)(ho:SOk S2 (c+700))(hs:St w fp ([]++[eSt sb db S2 fp']) w'):fP sb db S r c fp w (.returned (.tuple #[.int .i64 n,.int .i64 er])) w':=⟨n,er,rfl,fp',St.sx (L:=[]) hs ⟨h,ho⟩⟩
theorem SOk.rr(h:SOk S c)(q:List RcT):SOk {S with rr:=q} c:=⟨h.bufs,h.pgs,h.ws,h.time,h.ni,h.nt,h.right,h.nodup,h.len,h.keys,h.recs,h.log,h.lsz,h.fl,h.cl⟩
theorem Ev.rr(S:StM)(q:List RcT):Ev S {S with rr:=q}:=⟨rfl,rfl,rfl,rfl,rfl,fun r h=>h,rfl,rfl,.inl rfl,rfl,id,fun _=>rfl,fun j x y hx hy=>by have hy:S.D.pgs[j]? =some y:=hy;rw[hx] at hy;cases hy;exact⟨rfl,[],by simp,fun z hz=>by cases hz⟩,fun m _=>rfl⟩
theorem Ev.rows'(S:StM)(pg:PgR):Ev S (ka S pg):=⟨rfl,rfl,rfl,rfl,rfl,fun r h=>List.mem_append_left _ h,rfl,rfl,.inl rfl,rfl,id,fun _=>rfl,fun j x y hx hy=>by have hy:S.D.pgs[j]? =some y:=hy;rw[hx] at hy;cases hy;exact⟨rfl,[],by simp,fun z hz=>by cases hz⟩,fun m _=>rfl⟩
theorem GB(h:(eSt sb db S fp).holds W){r:PgR}(hr:r∈S.rows):At W r.A (r.p.2.2.map Value.string):=by
 obtain⟨_,mb,RA,rc,EA,ec,ib,tb,fpd,_,_,h3⟩:=h
 exact jd (h3 (eM (S.rows.map dK)) (by simp[stL])).1 hr
theorem ng{n:Int}(h:SOk S c)(hn:0<=n/\n<(S.D.pgs.length:Int)):bC (gg S n)=true:=by
 have h1:=dD (iP h n)
 have h2:=h.pgs
 have a1:inB n 0 65535=true:=by unfold inB;rw[Bool.and_eq_true,decide_eq_true_eq,decide_eq_true_eq];omega
 have a2:decide (((aH (aF S n)).size:Int)<=60000)=true:=decide_eq_true (by omega)
 show (inB 8 1 10&&(inB 0 0 127&&(inB n 0 65535&&(decide ((([]:List EdT).length:Int)<=64)&&((([]:List EdT).all edR)&&decide (((aH (aF S n)).size:Int)<=60000))))))=true
 rw[a1,a2];decide
theorem lh{l:List EdT}{n:Nat}(h:l.any (d9 n)=false)(he:e∈l):0<=e.1/\e.1<(n:Int):=by
 have h1:=(List.any_eq_false.1 h) e he
 unfold d9 at h1
 simp only[Bool.or_eq_true,decide_eq_true_eq,not_or] at h1
 omega
theorem De(S:StM)(os:List Int)(n:Int)(h:(S.im n).getD false=false):szF (fk S (os++[n]))=szF (fk S os)+(aC (gg S n)).size:=by
 rw[fk,qh,if_neg (by rw[h];decide),List.map_append];exact pf _ _
theorem D3(S:StM)(os:List Int)(n:Int)(h:(S.im n).getD false=true):eI S (os++[n])=eI S os:=by rw[qh,if_pos h]
theorem Gx(S:StM)(os:List Int)(n:Int)(h:(S.im n).getD false=false):eI S (os++[n])=eI S os++[n]:=by rw[qh,if_neg (by rw[h];decide)]
theorem Bj(os:List Int)(n:Int):os.map (Value.int .i64)++[.int .i64 n]=(os++[n]).map (Value.int .i64):=by rw[List.map_append];rfl
theorem Jj(S:StM)(os:List Int)(n:Int):os.flatMap (icC S)++icC S n=(os++[n]).flatMap (icC S):=by rw[List.flatMap_append];simp
theorem Ez{k l l2:Int}{ss:List ByteArray}(h:bA k l ss=true)(hl:0<=l2/\l2<=2147483647):bA k l2 ss=true:=by
 unfold bA at h |-
 simp only[Bool.and_eq_true,decide_eq_true_eq] at h |-
 obtain⟨a,b,_,_,d⟩:=h
 exact⟨a,b,hl.1,hl.2,d⟩
theorem l0{l:Int}(h:bJ p)(hl:0<=l/\l<=2147483647):bJ (iC l p):=⟨Ez h.1 hl,h.2⟩
theorem SOk.recs_len(h:SOk S c):S.recs.length<=1048576:=by
 have h1:=ob h.recs
 have h3:=congrArg ByteArray.size h.log
 rw[cE] at h3
 have h2:S.L.length=S.recs.length:=List.length_map ..
 have:=h.lsz
 omega
theorem ei.rows{S:StM}{n:Int}{pg:PgR}(h:ei S n pg S2 er):∀p∈S.rows,p∈S2.rows:=by
 obtain⟨S1,h1,⟨_,rfl⟩|⟨_,_,rfl⟩⟩:=h
 exact h1.rows.1
 exact h1.rows.1
theorem jL(S:StM)(rt:RcT):(bz S rt).1.rows=S.rows/\(bz S rt).1.rr=S.rr/\(bz S rt).1.im=S.im/\(bz S rt).1.told=S.told/\(bz S rt).1.pool=S.pool/\(bz S rt).1.D.pgs=S.D.pgs/\(bz S rt).1.D.fl=S.D.fl:=by
 obtain⟨a,b⟩:=Bd S rt.r
 unfold bz
 split<;>exact⟨rfl,rfl,rfl,rfl,rfl,a,b⟩
theorem wJ{rt:RcT}(h:(bz S rt).2=0):(bz S rt).1.recs=S.recs++[rt]:=by
 unfold bz at h |-
 split
 rename_i h1;rw[if_pos h1] at h;exact absurd h h1
 rfl
end
section
open Go.RowKit Go.Maps Go.ChangeMaps
theorem xE{n:Int}{pg:PgR}(h:ei S n pg S2 er)(h0:er=0):ei S n pg S2 0:=h0 ▸ h
theorem Ke(sb db:Nat)(S:StM)(r:RecM)(A:Option Addr)(rc:Nat)(c:Nat)(fp:List Nat)(w:World)(hB:(eSt sb db S fp).holds w)(hlt:∀k∈fp,k<w.heap.size)(hok:SOk S c)(hc:c<=800000)(hA:∀W,Upd fp w W->At W A (r.eds.flatMap edC))(hI:r.eds.length<=100000)(hz:∀e∈r.eds,e.2.2.size<=9223372036854775807)(hns:r.note.size<=9223372036854775807):
  Calls Tryz.prog 17 #[po sb 0,.agg #[.int .i64 r.kind,.int .i64 r.xid,.int .i64 r.tbl,sn,sn,.slice A r.eds.length rc,sn,.string r.note]] w (fP sb db S r c fp w):=by
 have st1:St w fp [eSt sb db S fp] w:=St.lend hB (dv _ _ _ _) hlt
 have hpg:=hok.pgs
 go_enter Tryz.func17,Tryz.ntmps17
 have aj:=st1
 refine wq (sqr ?_)
 refine b9 #[vp sb] aj fun br W1 ay=>?_
 refine b9 #[vi r.kind,vi r.xid,vi r.tbl,sn,sn,.slice A r.eds.length rc,sn,.string r.note] ay fun ck W2 bu=>?_
 refine sqp [.k 4 (vi 0),.k 5 (vi 0)] ?_
 refine aa (wq (wq (sqr (aq 1 bu ?_))))
 refine sqv (.bool false) bu (by
   exact sv0 rfl rfl rfl rfl rfl (fun _ _ _ h=>h) fun o d W X cx=>by
    have PP:o (.tmp 32)=vp sb:=(cx.ou 32)
    simp[go_sem,cx.sees.const,PP]) fun W6 bK=>?_
 refine sqp [.k 34 (.bool false)] ?_
 refine c7 34 [35,36,37] rfl rfl ?_
 refine bI 2 8 bK ?_
 refine sqk (.bool (bC r)) bK (fun cx=>⟨_,lQ r.kind r.xid r.tbl _ _ r.eds r.note _ (hA _ cx.upd) (by omega) hz hns,(ax (cx.ou 35))⟩) fun W9 cv=>?_
 refine sqp [.k 37 (.bool (!(bC r)))] ?_
 refine sqp [.k 38 (.bool (!(bC r))),.m 39 38] ?_
 refine d3 39 [40,41,42] ?_ rfl (fun hq=>?_) ?_
 rotate_left
 refine sqp [.k 40 (vp ck)] ?_
 refine aq 2 cv ?_
 refine sqp [.k 42 (.bool (r.kind==8))] ?_
 exact sqe
 refine c5 ?_
 refine sqp [sPo 43 (!(bC r)) (r.kind==8),.m 44 43] ?_
 refine d3 44 [45,46,47] ?_ rfl (fun hq=>?_) ?_
 rotate_left
 refine sqp [.k 45 (vp ck)] ?_
 refine aq 2 cv ?_
 refine sqp [.k 47 (.bool (r.kind==9))] ?_
 exact sqe
 refine c5 ?_
 refine sqp [sPo 48 ((!(bC r))||(r.kind==8)) (r.kind==9)] ?_
 refine aa (wbs (fun zG=>?_) fun zG=>?_)
 have xv:=zG
 simp only[zB] at xv
 refine wq (sqr (sqp [.k 4 (vi 0),.k 5 (vi 1)] ?_))
 refine aa (wp_ret (ai ?_))
 refine bpr (.tuple #[vi 0,vi 1]) (aO Tryz.results17 rpt rpt) ?_
 exact fP.of (.arg (fun hh=>by have h_:=zG;have h1:=hh.1;have h2:=hh.2.1;have h3:=hh.2.2;simp_all)) (hok.mono (by omega)) (cv.pick [0] (by decide) rfl)
 have xv:=zG
 simp only[zB] at xv
 obtain⟨⟨Rh,Ri⟩,Rj⟩:=xv
 refine wp_skip (aa (wq ?_))
 have hda:DoA r:=by have h_:=zG;simp at h_;exact⟨h_.1.1,h_.1.2,h_.2⟩
 refine sqr ?_
 refine bI 2 8 cv ?_
 refine iE (fun cG cL=> .agg #[vi r.kind,vi r.xid,vi r.tbl,sn,sn,.slice cG r.eds.length cL,sn,.string r.note]) (fun cG cL=>eO 84 3 (.slice cG r.eds.length cL) r.eds.length (r.eds.flatMap edC)) cv (fun cx=>⟨_,(tD A rc r _ (hA _ cx.upd) hI).mono (by rintro e W1 ⟨A4,c4,rfl,aT⟩;exact⟨_,_,rfl,aT⟩),(ax (cx.ou 49))⟩) fun cG cL w3 fF=>?_
 refine aX (n:=8) 2 #[vi r.kind,vi r.xid,vi r.tbl,sn,sn,.slice cG r.eds.length cL,sn,.string r.note] fF fun y6 e9=>?_
 refine aa (wq (wq ?_))
 obtain⟨S0,fp28_,hS0,hg28_⟩:=St.rRn (r:=(⟨r,cG,cL⟩:RcT)) e9.u3
 have hok0:SOk S0 c:=hS0 ▸ hok.rr _
 have hev0:Ev S S0:=hS0 ▸ Ev.rr S _
 have hrt0:(⟨r,cG,cL⟩:RcT)∈S0.rr:=by rw[<-hS0];exact List.mem_append_right _ (List.mem_singleton.2 rfl)
 have O2:S0.D.pgs.length=S.D.pgs.length:=hev0.len
 refine sqr (sqp [.k 51 (po ck 5)] ?_)
 refine aq 2 hg28_ ?_
 refine sqv (.func (.func 54) #[] #[vp br]) hg28_ (by
   exact sv0 rfl rfl rfl rfl rfl (fun _ _ _ h=>h) fun o d W X cx=>by
    have m4:o (.tmp 2)=vp br:=(cx.ou 2)
    simp[go_sem,Instr.makeFunc,m4]) fun O3 nC=>?_
 refine sqk (.bool ((r.eds.any (d9 S0.D.pgs.length)))) nC (fun cx=>⟨_,EG _ _ r.eds 54 #[vp br] (d9 S0.D.pgs.length) _ (mj (CtxV.holdF cx (cx.init 0 _ rfl) rfl) hrt0) hI (by kernel_rfl) (fun W2 k hW=>Ho k.1 k.2.1 k.2.2 br sb db S0 W2 ((cx.bi 1 rfl).ext hW) (lz.ext (pR (CtxV.holdF cx (cx.init 0 _ rfl) rfl)) hW)),(aM (cx.ou 52) (cx.ou 53))⟩) fun za c6=>?_
 refine aa (wbs (fun pt=>?_) fun pt=>?_)
 refine wq (sqr (sqp [.k 4 (vi 0),.k 5 (vi 22)] ?_))
 refine aa (wp_ret (ai ?_))
 refine bpr (.tuple #[vi 0,vi 22]) (aO Tryz.results17 rpt rpt) ?_
 exact fP.of (.page hda (by rw[<-O2];exact pt) hev0) (hok0.mono (by omega)) (c6.pick [0] (by decide) rfl)
 refine wp_skip (aa (wq ?_))
 have hin:r.eds.any (d9 S.D.pgs.length)=false:=by rw[<-O2];exact pt
 have hro:=dU hda.1
 have hml:=hro.many
 refine sqr (sqp [.k 6 (sn)] ?_)
 refine aa (wq (sqr ?_))
 refine ea (fun x_=>pbx x_) (fun i7=> .map (some i7)) (fun i7=>eMx kcI pgX Tryz.prog 3 i7 0 (fun _=>none)) c6 (by
   refine svA fun o d W X cx=>?_
   exact k7 rfl rfl rfl rfl (fun _ _ _ _ _=> .intro)) fun i7 Fh fE=>?_
 refine ea (fun x_=>pbx x_) (fun ij=> .map (some ij)) (fun ij=>eMx kcI pgX Tryz.prog 3 ij 0 (fun _=>none)) fE (by
   refine svA fun o d W X cx=>?_
   exact k7 rfl rfl rfl rfl (fun _ _ _ _ _=> .intro)) fun ij zi gG=>?_
 refine sqp [.m 7 55,.m 8 56] ?_
 refine aa (wq (wq (sqr (sqp [.k 57 (po ck 5)] ?_))))
 refine aq 2 gG ?_
 refine sqp [.k 59 (vi ((r.eds.length:Int))),.k 60 (vi 0)] ?_
 refine aa (wp_block ?_)
 have hn45:=St.nilrow gG 3
 simp only[List.cons_append,List.nil_append] at hn45
 refine aN (fun t_ mz az W=>∃j:Nat,∃os:List Int,∃m:Nat,∃OA:Option Addr,∃oc:Nat,∃Sj:StM,∃fpj:List Nat,∃mW:Int->Option PgV,∃nW:Nat,∃mN:Int->Option PgV,∃nN:Nat,j<=r.eds.length/\os=cH (r.eds.take j)/\m=os.length/\Ev S Sj/\SOk Sj (c+3*j)/\(⟨r,cG,cL⟩:RcT)∈Sj.rr/\cU (aF S) (r.eds.take j)=0/\DoI (aF S) (bq (aF S) (r.eds.take j)) (eE S r) os mW mN Sj.rows none/\nW<=j/\nN<=2*j/\mz=r.eds.length-j/\az=⟨(ovr (jv az) [(4,4,2,[.slice OA m oc]),(3,10,7,[]),(43,60,0,[vi ((j:Int))]),(0,61,51,[])] t_).toArray,[]⟩/\St w fp [eB br 31 #[vp sb],eB ck 27 #[vi r.kind,vi r.xid,vi r.tbl,sn,sn,.slice cG r.eds.length cL,sn,.string r.note],eMx kcI pgX Tryz.prog 3 i7 nW (mW),eMx kcI pgX Tryz.prog 3 ij nN (mN),eO 3 1 (.slice OA m oc) m (os.map (Value.int .i64)),eSt sb db Sj fpj] W) (r.eds.length-0) ?_ ?_
 exact⟨0,[],0,none,0,S0,fp28_,(fun _=>none),0,(fun _=>none),0,Nat.zero_le _,rfl,rfl,hev0,hok0,hrt0,rfl,DoI.init _ _ _,Nat.zero_le _,Nat.zero_le _,rfl,(by kernel_rfl),hn45.pk [1,2,3,4,5,0]⟩
 rintro T5 a46 Bp ⟨j,os,m,OA,oc,Sj,fpj,mW,nW,mN,nN,hj,hos,hm,hevj,hokj,hrtj,herr,hIj,hnW,hnN,rfl,hj_,fq⟩
 refine ovz hj_ fun Sr=>?_
 refine wq (sqr (sqp [.k 61 (.bool (decide ((j:Int)<(r.eds.length:Int))))] ?_))
 refine aa (wq (wds (fun PQ Ol=>?_) fun PQ Ol=>?_))
 refine wp_skip (aa (wq (wp_block (wq ?_))))
 have hmj:m<=j:=by rw[hm,hos];have h1:=mi (r.eds.take j);rw[List.length_take] at h1;omega
 have hjl:j<r.eds.length:=by omega
 obtain⟨ep,es,eb,hek⟩:=kZ (l:=r.eds) (k:=j) (by omega)
 have hke:edR (ep,es,eb)=true:=hro.eds _ (List.mem_of_getElem? hek)
 have hez:eb.size<=9223372036854775807:=by have:=dx hke;dsimp only at this;omega
 have hkn:kcI.ok ep:=by have:=(kV hke).1;dsimp only at this;constructor<;>omega
 have hpr:0<=ep/\ep<(S.D.pgs.length:Int):=lh hin (List.mem_of_getElem? hek)
 refine sqr ?_
 refine sql (.pointer (some ((ad cG).add (j*3)))) fq (fun cx=>aB (e:=84) (m:=j) (sz:=3) rfl (by kernel_rfl) (by kernel_rfl) (cx.ou 58) (cx.ou 60) (by omega) (by omega) (show At _ _ (r.eds.flatMap edC) from mj (CtxV.holdF cx (cx.init 5 _ rfl) rfl) hrtj) (bj (sz:=3) bD (by decide) (by omega))) ?_
 refine sql (.agg #[vi ep,vi es,.string eb]) fq (fun cx=>bF (f:=edC) (m:=j) (sz:=3) (off:=0) (n:=3) rfl (by kernel_rfl) (by kernel_rfl) (cx.ou 62) rfl bD (show At _ _ (r.eds.flatMap edC) from mj (CtxV.holdF cx (cx.init 5 _ rfl) rfl) hrtj) hek (fun k hk=>match k,hk with|0,_=>rfl|1,_=>rfl|2,_=>rfl|k+3,hk=>absurd hk (by omega))) ?_
 refine b8 #[vi 0,vi 0,.string ByteArray.empty] fq fun ly IP kO=>?_
 refine aX (n:=3) 6 #[vi ep,vi es,.string eb] kO fun Br cK=>?_
 refine aa ?_
 refine ma (fun t_ az W=>∃mW2:Int->Option PgV,∃nW2:Nat,∃mN2:Int->Option PgV,∃nN2:Nat,∃os2:List Int,∃m2:Nat,∃OA2:Option Addr,∃oc2:Nat,∃S2:StM,∃fp2:List Nat,os2=jF os (ep,es,eb)/\m2=os2.length/\Ev S S2/\SOk S2 (c+3*j+3)/\(⟨r,cG,cL⟩:RcT)∈S2.rr/\DoI (aF S) (bq (aF S) (r.eds.take j)) (eE S r) os2 mW2 mN2 S2.rows (some ep)/\nW2<=j+1/\nN2<=2*j+1/\az=⟨(ovr (jv az) [(4,4,2,[.slice OA2 m2 oc2]),(4,11,4,[]),(49,64,31,[])] t_).toArray,[]⟩/\St w fp [eB br 31 #[vp sb],eB ck 27 #[vi r.kind,vi r.xid,vi r.tbl,sn,sn,.slice cG r.eds.length cL,sn,.string r.note],eB ly 84 #[vi ep,vi es,.string eb],eMx kcI pgX Tryz.prog 3 i7 nW2 (mW2),eMx kcI pgX Tryz.prog 3 ij nN2 (mN2),eO 3 1 (.slice OA2 m2 oc2) m2 (os2.map (Value.int .i64)),eSt sb db S2 fp2] W) ?_ ?_
 refine wq (sqr (sqp [.m 65 7,.k 66 (vp ly)] ?_))
 refine aq 6 cK ?_
 refine sql (.tuple #[.agg #[vi (((mW ep).getD ((0:Int),(0:Int),(none:Option Addr),(0:Nat),(0:Nat))).1),vi (((mW ep).getD ((0:Int),(0:Int),(none:Option Addr),(0:Nat),(0:Nat))).2.1),.slice (((mW ep).getD ((0:Int),(0:Int),(none:Option Addr),(0:Nat),(0:Nat))).2.2.1) (((mW ep).getD ((0:Int),(0:Int),(none:Option Addr),(0:Nat),(0:Nat))).2.2.2.1) (((mW ep).getD ((0:Int),(0:Int),(none:Option Addr),(0:Nat),(0:Nat))).2.2.2.2)],.bool ((mW ep).isSome)]) cK (fun cx=>xZ (e:=48) (C:=pgX) (K:=kcI) (x:=ep) rfl (cx.ou 65) (cx.ou 67) (CtxV.mx cx (cx.init 2 _ rfl) rfl) (h0:=(by rfl)) (hx:=hkn) (hk:=show Program.underlying _ _= _ from by kernel_rfl)) ?_
 refine sqp [.m 64 68,.k 69 (.agg #[vi (((mW ep).getD ((0:Int),(0:Int),(none:Option Addr),(0:Nat),(0:Nat))).1),vi (((mW ep).getD ((0:Int),(0:Int),(none:Option Addr),(0:Nat),(0:Nat))).2.1),.slice (((mW ep).getD ((0:Int),(0:Int),(none:Option Addr),(0:Nat),(0:Nat))).2.2.1) (((mW ep).getD ((0:Int),(0:Int),(none:Option Addr),(0:Nat),(0:Nat))).2.2.2.1) (((mW ep).getD ((0:Int),(0:Int),(none:Option Addr),(0:Nat),(0:Nat))).2.2.2.2)]),.k 70 (.bool ((mW ep).isSome))] ?_
 refine b8 #[vi 0,vi 0,sn] cK fun Rk zf eP=>?_
 refine aX (n:=3) 7 #[vi (((mW ep).getD ((0:Int),(0:Int),(none:Option Addr),(0:Nat),(0:Nat))).1),vi (((mW ep).getD ((0:Int),(0:Int),(none:Option Addr),(0:Nat),(0:Nat))).2.1),.slice (((mW ep).getD ((0:Int),(0:Int),(none:Option Addr),(0:Nat),(0:Nat))).2.2.1) (((mW ep).getD ((0:Int),(0:Int),(none:Option Addr),(0:Nat),(0:Nat))).2.2.2.1) (((mW ep).getD ((0:Int),(0:Int),(none:Option Addr),(0:Nat),(0:Nat))).2.2.2.2)] eP fun T6 I7=>?_
 refine sqp [.m 12 70] ?_
 refine aa (wq (sqr (sqp [.m 71 12,.k 72 (.bool (!((mW ep).isSome)))] ?_)))
 refine aa ?_
 rcases Bool.eq_false_or_eq_true ((mW ep).isSome) with qP|qP
 refine wp_cond_false (show Act.eval _ _= .bool false from(congrArg Value.bool (by rw[qP];rfl))) (wp_skip (aa ?_))
 exact⟨mW,nW,mN,nN,os,m,OA,oc,Sj,fpj,(mB (e:=(ep,es,eb)) (hIj.mem.1 (by have h_:=qP;simpa using h_))).symm,hm,hevj,hokj.mono (by omega),hrtj,(mB (e:=(ep,es,eb)) (hIj.mem.1 (by have h_:=qP;simpa using h_))) ▸ hIj.old (ep,es,eb) (by have h_:=qP;simpa using h_),by omega,by omega,(by kernel_rfl),I7.pk [0,1,6,2,3,4,5]⟩
 refine wp_cond_true (show Act.eval _ _= .bool true from(congrArg Value.bool (by rw[qP];rfl))) (wq (aG [0,0,2,7,15,31,31,0,191,511] [[0],[],[6],[5],[],[],[],[],[10]] [[],[],[],[8,9],[],[],[],[10],[11]] [[],[],[],[5],[],[],[],[],[10]] [.c 74 (vp sb),.k 75 (vp ly),.c 76 (vi ep),.a 77,.a 73,.a 78,.a 79,.a 13,.n,.a 14] (fun ix t d X=>match ix with|0|1|2=>True|3=>t 77= .tuple #[.agg #[vi ((pgF Sj ep (tB1 (d 77))).1),vi ((pgF Sj ep (tB1 (d 77))).2.1),.slice (sA (tg (tg (d 77) 0) 2)) ((pgF Sj ep (tB1 (d 77))).2.2.length) (sC (tg (tg (d 77) 0) 2))],.bool (tB1 (d 77))]/\X 8=eSx sb db (fun S2=>PaQ Sj ep S2 (tB1 (d 77))) ((X 8).fp)/\X 9=eO 9 1 (.slice (sA (tg (tg (d 77) 0) 2)) ((pgF Sj ep (tB1 (d 77))).2.2.length) (sC (tg (tg (d 77) 0) 2))) ((pgF Sj ep (tB1 (d 77))).2.2.length) ((pgF Sj ep (tB1 (d 77))).2.2.map Value.string)|4=>t 73= .tuple #[.agg #[vi ((pgF Sj ep (tB1 (d 77))).1),vi ((pgF Sj ep (tB1 (d 77))).2.1),.slice (sA (tg (tg (d 77) 0) 2)) ((pgF Sj ep (tB1 (d 77))).2.2.length) (sC (tg (tg (d 77) 0) 2))],.bool (tB1 (d 77))]|5=>t 78= .agg #[vi ((pgF Sj ep (tB1 (d 77))).1),vi ((pgF Sj ep (tB1 (d 77))).2.1),.slice (sA (tg (tg (d 77) 0) 2)) ((pgF Sj ep (tB1 (d 77))).2.2.length) (sC (tg (tg (d 77) 0) 2))]|6=>t 79= .bool (tB1 (d 77))|7=>t 13=vp (pb (d 13))/\X 10=eB (pb (d 13)) 48 #[vi 0,vi 0,sn]|8=>X 11=eB (pb (d 13)) 48 #[vi ((pgF Sj ep (tB1 (d 77))).1),vi ((pgF Sj ep (tB1 (d 77))).2.1),.slice (sA (tg (tg (d 77) 0) 2)) ((pgF Sj ep (tB1 (d 77))).2.2.length) (sC (tg (tg (d 77) 0) 2))]|9=>t 14= .bool (tB1 (d 77))|_=>True) [0,1,2,3,4,6,7,8,9,11] [0,2,3,4,5,6,7,8,9] [(13,7,3,15),(58,4,1,59),(0,0,4,4),(0,5,2,2)] I7 ?_ ?_ ?_))
 exact fun ix _ _ _ _ _ _ hs hb hx h=>match ix,h with
 |3,h=>by dsimp only;rw[<-hs 77 rfl,<-hb 77 rfl,<-hx 8 rfl,<-hx 9 rfl];exact h
 |4,h=>by dsimp only;rw[<-hs 73 rfl,<-hb 77 rfl];exact h
 |5,h=>by dsimp only;rw[<-hs 78 rfl,<-hb 77 rfl];exact h
 |6,h=>by dsimp only;rw[<-hs 79 rfl,<-hb 77 rfl];exact h
 |7,h=>by dsimp only;rw[<-hs 13 rfl,<-hb 13 rfl,<-hx 10 rfl];exact h
 |8,h=>by dsimp only;rw[<-hb 13 rfl,<-hb 77 rfl,<-hx 11 rfl];exact h
 |9,h=>by dsimp only;rw[<-hs 14 rfl,<-hb 77 rfl];exact h
 |0,_|1,_|2,_|_+10,_=>trivial
 refine⟨?_,?_,?_,?_,?_,?_,?_,?_,?_,trivial⟩
 exact xs4 rfl id fun cx=>ae rfl (by kernel_rfl) (cx.ou 2) ((cx.bi 0 rfl).cell 0)
 exact xs4 rfl id fun cx=>ae rfl (by kernel_rfl) (cx.an 1) ((cx.bi 6 rfl).cell 0)
 refine svA fun o d W X cx=>?_
 refine am.call (au (args:=#[vp sb,vi ep]) rfl cx.sees rfl (by kernel_rfl) (aM (cx.an 0) (cx.an 2))) ?_
 refine(qi sb db Sj ep (c+3*j) _ _ (CtxV.holdF cx (cx.init 5 _ rfl) rfl) (CtxV.ltF cx (cx.init 5 _ rfl) rfl) hokj (by omega) hkn).mono ?_
 rintro e W1 ⟨ok4,A4,c4,rfl,fp4,aT⟩
 refine⟨_,rfl,aK (E:=eSt sb db Sj fpj) [eSx sb db (fun S2=>PaQ Sj ep S2 ok4) fp4,eO 9 1 (.slice A4 ((pgF Sj ep ok4).2.2.length) c4) ((pgF Sj ep ok4).2.2.length) ((pgF Sj ep ok4).2.2.map Value.string)] (cx.init 5 _ rfl) rfl rfl aT (fun t y X' hs hb hv hN=>?_)⟩
 have aJ:=(hv 77 rfl).1;have aV:=(hv 77 rfl).2
 exact⟨aJ.trans (by rw[aV];exact rfl),(by rw[aV];exact fS ((List.cons.inj hN).1)),(by rw[aV];exact(List.cons.inj (List.cons.inj hN).2).1)⟩
 exact sv rfl rfl rfl rfl rfl _ (fun _ _ _ h=>h) (fun d y h=>by rw[h 77 (by decide)]) fun o d W X cx=>dj rfl (dTn (cx.an 3)).1
 exact sv rfl rfl rfl rfl rfl _ (fun _ _ _ h=>h) (fun d y h=>by rw[h 77 (by decide)]) fun o d W X cx=>cd rfl (dTn (cx.an 4)) rfl
 exact sv rfl rfl rfl rfl rfl _ (fun _ _ _ h=>h) (fun d y h=>by rw[h 77 (by decide)]) fun o d W X cx=>cd rfl (dTn (cx.an 4)) rfl
 refine svA fun o d W X cx=>?_
 exact dm (cs:=#[vi 0,vi 0,sn]) rfl (by kernel_rfl) rfl rfl (fun _ _ _ _ _=> .intro)
 refine svA fun o d W X cx=>?_
 exact bx (n:=3) rfl (dTn (cx.an 7)).1 (dTn (cx.an 5)) (by kernel_rfl) (by kernel_rfl) (by kernel_rfl) cx (dTn (cx.an 7)).2 rfl (nle rfl) (by kernel_rfl) rfl rfl rfl (fun t y X' hs hb hx=>by rw[hb 13,hb 77];exact hx)
 exact sv rfl rfl rfl rfl rfl _ (fun _ _ _ h=>h) (fun d y h=>by rw[h 77 (by decide)]) fun o d W X cx=>di rfl (dTn (cx.an 6))
 intro t d X OX hD px fr aD
 obtain⟨ok77_67,pI⟩:∃z,tB1 (d 77)=z:=⟨_,rfl⟩
 obtain⟨ik,qQ⟩:∃z,sA (tg (tg (d 77) 0) 2)=z:=⟨_,rfl⟩
 obtain⟨il,qR⟩:∃z,sC (tg (tg (d 77) 0) 2)=z:=⟨_,rfl⟩
 obtain⟨Rl,qS⟩:∃z,pb (d 13)=z:=⟨_,rfl⟩
 have MJ:X 8= _:=(dTn (hD 3 lq)).2.1
 obtain⟨RS,zH⟩:∃z,(X 8).fp=z:=⟨_,rfl⟩
 rw[zH] at MJ
 clear zH
 simp only[MJ,exq 9 ((dTn (hD 3 lq)).2.2),exq 11 ((dTn (hD 8 lq))),pI,qQ,qR,qS] at px
 simp only[ed 77 ((dTn (hD 3 lq)).1),ed 73 ((dTn (hD 4 lq))),ed 78 ((dTn (hD 5 lq))),ed 79 ((dTn (hD 6 lq))),ed 13 ((dTn (hD 7 lq)).1),ed 14 ((dTn (hD 9 lq))),pI,qQ,qR,qS] at aD
 clear hD MJ pI qQ qR qS;subst aD;clear t d X
 refine aa (wq (wq ?_))
 obtain⟨S1,hP,hy68_⟩:=px.u7.unx
 have hok1:=hP.ok hokj
 have hev1:=hP.ev hokj
 have hrt1:(⟨r,cG,cL⟩:RcT)∈S1.rr:=by obtain⟨er_,h_,_⟩:=hP;rw[h_.rr];exact hrtj
 refine sqr (sqp [.m 80 14,.k 81 (.bool (!(ok77_67)))] ?_)
 refine aa ?_
 rcases Bool.eq_false_or_eq_true (ok77_67) with nX|nX
 refine wp_cond_false (show Act.eval _ _= .bool false from(congrArg Value.bool (by rw[nX];rfl))) (wp_skip (aa (wq ?_)))
 have hpc:pgF Sj ep ok77_67=aF S ep:=by rw[nX,pgF,if_pos rfl];exact hevj.cur ep hpr.1
 refine sqr (sqp [.m 82 6,.k 83 (vp ly)] ?_)
 refine aq 6 hy68_ ?_
 refine ea (fun x_=>sA x_) (fun uU=> .slice uU 1 1) (fun uU=>eO 3 1 (.slice uU 1 1) 1 ([vi ep])) hy68_ (by
   refine svA fun o d W X cx=>?_
   have PR:o (.tmp 84)=vi ep:=(cx.ou 84)
   exact dy (e:=3) (xs:=[vi ep]) rfl (by simp[go_sem,PR]) rfl (by decide) rfl rfl (fun _ _ _ _ _=> .intro)) fun uU Me kR=>?_
 refine sk (fun x_=>sA x_) (fun x_=>sC x_) (fun qT qU=> .slice qT (m+1) qU) (fun qT qU=>eO 3 1 (.slice qT (m+1) qU) (m+1) ((os++[ep]).map (Value.int .i64))) 5 kR (by
   refine svA fun o d W X cx=>?_
   obtain⟨i0,hi0,hz0,hz1,hz2⟩:=info_parts Tryz.infoIntJ
   refine fe (n:=m) (m:=1) (nm:=m+1) (xs:=os.map (Value.int .i64)) (news:=[vi ep]) (xs':=(os++[ep]).map (Value.int .i64)) rfl (ty:=25) rfl (by kernel_rfl) hi0 hz0 hz1 hz2 rfl (cx.ou 82) cx (cx.init 5 _ rfl) rfl (cx.ou 85) (by first|(simp;done)|(simp;omega)) (At.of_own (cx.ri 10 rfl)) (by simp[Value.oneCell']) (by simp only[maxLen];omega) (by omega) rfl rfl rfl (by omega) ((Bj _ _)) (fun t y X' hs hb hv hx=>?_)
   exact⟨hv,hx⟩) fun qT qU QL CH=>?_
 refine sqp [.m 6 86] ?_
 refine aa (aG [0,0,2,0,0,16,0,0,71,511] [[],[],[6],[],[],[6],[9],[9],[3],[4]] [[],[],[],[],[],[],[],[],[11],[12]] [[],[],[],[],[],[],[],[],[3],[4]] [.k 87 (.map (some i7)),.k 88 (vp ly),.c 89 (vi ep),.k 90 (.map (some ij)),.k 91 (vp ly),.c 92 (vi ep),.c 93 (.agg #[vi ((pgF Sj ep ok77_67).1),vi ((pgF Sj ep ok77_67).2.1),.slice ik ((pgF Sj ep ok77_67).2.2.length) il]),.c 94 (.agg #[vi ((pgF Sj ep ok77_67).1),vi ((pgF Sj ep ok77_67).2.1),.slice ik ((pgF Sj ep ok77_67).2.2.length) il]),.n,.n] (fun ix t d X=>match ix with|0|1|2|3|4|5|6|7=>True|8=>X 11=eMx kcI pgX Tryz.prog 3 i7 ((mzP mW ep nW)) (cj mW ep (some ((pgF Sj ep ok77_67).1,(pgF Sj ep ok77_67).2.1,ik,(pgF Sj ep ok77_67).2.2.length,il)))|9=>X 12=eMx kcI pgX Tryz.prog 3 ij ((mzP mN ep nN)) (cj mN ep (some ((pgF Sj ep ok77_67).1,(pgF Sj ep ok77_67).2.1,ik,(pgF Sj ep ok77_67).2.2.length,il)))|_=>True) [0,1,2,5,6,7,8,9,10,11,12] [2,5,6,7,8,9] [(87,0,8,95)] CH ?_ ?_ ?_)
 exact fun ix _ _ _ _ _ _ hs hb hx h=>match ix,h with
 |8,h=>by dsimp only;rw[<-hx 11 rfl];exact h
 |9,h=>by dsimp only;rw[<-hx 12 rfl];exact h
 |0,_|1,_|2,_|3,_|4,_|5,_|6,_|7,_|_+10,_=>trivial
 refine⟨?_,?_,?_,?_,?_,?_,trivial⟩
 exact xs4 rfl id fun cx=>ae rfl (by kernel_rfl) (cx.an 1) ((cx.bi 6 rfl).cell 0)
 exact xs4 rfl id fun cx=>ae rfl (by kernel_rfl) (cx.an 4) ((cx.bi 6 rfl).cell 0)
 exact xs4 rfl id fun cx=>ce (n:=3) rfl (by kernel_rfl) (by kernel_rfl) (cx.ou 13) (cx.bi 9 rfl) (nle rfl) rfl
 exact xs4 rfl id fun cx=>ce (n:=3) rfl (by kernel_rfl) (by kernel_rfl) (cx.ou 13) (cx.bi 9 rfl) (nle rfl) rfl
 refine svA fun o d W X cx=>?_
 exact gC (e:=48) (v:=((pgF Sj ep ok77_67).1,(pgF Sj ep ok77_67).2.1,ik,(pgF Sj ep ok77_67).2.2.length,il)) (.inl rfl) (cx.an 0) (show o _=Kc.enc kcI ep from(cx.an 2)) (show o _=Ec.enc pgX ((pgF Sj ep ok77_67).1,(pgF Sj ep ok77_67).2.1,ik,(pgF Sj ep ok77_67).2.2.length,il) from(cx.an 6)) cx (cx.init 3 _ rfl) rfl (trivial) (by omega) (hkn) rfl rfl rfl (fun _ _ _ _ _=>id) (hk:=show Program.underlying _ _= _ from by kernel_rfl)
 refine svA fun o d W X cx=>?_
 exact gC (e:=48) (v:=((pgF Sj ep ok77_67).1,(pgF Sj ep ok77_67).2.1,ik,(pgF Sj ep ok77_67).2.2.length,il)) (.inl rfl) (cx.an 3) (show o _=Kc.enc kcI ep from(cx.an 5)) (show o _=Ec.enc pgX ((pgF Sj ep ok77_67).1,(pgF Sj ep ok77_67).2.1,ik,(pgF Sj ep ok77_67).2.2.length,il) from(cx.an 7)) cx (cx.init 4 _ rfl) rfl (trivial) (by omega) (hkn) rfl rfl rfl (fun _ _ _ _ _=>id) (hk:=show Program.underlying _ _= _ from by kernel_rfl)
 intro t d X T7 hD I8 fr aD
 simp only[exq 11 ((dTn (hD 8 lq))),exq 12 ((dTn (hD 9 lq)))] at I8
 clear hD;subst aD;clear t d X
 refine aa ?_
 obtain⟨fp79_,hg79_⟩:=St.rPf (r:=(⟨(pgF Sj ep ok77_67),ik,il⟩:PgR)) I8.u6
 have hnm:(ep,es,eb).1∉os:=fun hh=>by have h_:=hIj.mem.2 hh;have h2:=qP;simp[h_] at h2
 exact⟨cj mW ep (some ((pgF Sj ep ok77_67).1,(pgF Sj ep ok77_67).2.1,ik,(pgF Sj ep ok77_67).2.2.length,il)),(mzP mW ep nW),cj mN ep (some ((pgF Sj ep ok77_67).1,(pgF Sj ep ok77_67).2.1,ik,(pgF Sj ep ok77_67).2.2.length,il)),(mzP mN ep nN),(os++[ep]),m+1,qT,qU,(ka S1 (⟨(pgF Sj ep ok77_67),ik,il⟩:PgR)),fp79_,(kq hnm).symm,by rw[List.length_append,List.length_singleton];omega,(hevj.trans hev1.1 hok.fl).trans (Ev.rows' _ _) hok.fl,hok1.rows _,hrt1,(kq hnm) ▸ (hIj.mono hev1.1.rows).new (ep,es,eb) (by have h_:=qP;simpa using h_) hpc _ _,by have:=pS mW ep nW;omega,by have:=pS mN ep nN;omega,(by kernel_rfl),hg79_.pk [1,2,4,8,9,3,0]⟩
 refine wp_cond_true (show Act.eval _ _= .bool true from(congrArg Value.bool (by rw[nX];rfl))) (wq (sqr (sqp [.k 4 (vi 0),.k 5 (vi 24)] ?_)))
 refine aa (wp_ret (ai (ai (bb (ai (ai (bb (ai ?_))))))))
 refine bpr (.tuple #[vi 0,vi 24]) (aO Tryz.results17 rpt rpt) ?_
 exact fP.of (.pow hda hin (hevj.trans hev1.1 hok.fl) ((hev1.2.1 nX).elim id fun h=>absurd (by rw[hevj.len];exact hpr) h)) (hok1.mono (by omega)) (hy68_.pick [0] (by decide) rfl)
 rintro a53 OY ⟨mW2,nW2,mN2,nN2,os2,m2,OA2,oc2,S2,fp2,hos2,hm2,hev2,hok2,hrt2,hI2,hnW2,hnN2,hj_,kT⟩
 refine ovz hj_ fun Ss=>?_
 refine wq ?_
 have hme:ep∈os2:=by rw[hos2];exact Ep os (ep,es,eb)
 obtain⟨pg,hpm,hmN,hpi,_⟩:=hI2.n ep hme
 obtain⟨pp,hpp⟩:∃z,(bq (aF S) (r.eds.take j)) ep=z:=⟨_,rfl⟩
 rw[hpp] at hmN hpi
 have hri:bJ pp:=hpp ▸ jO (fun m=>iP hok m) herr ep
 refine sqr (sqp [.m 96 8,.k 97 (vp ly)] ?_)
 refine aq 2 kT ?_
 refine sql (.agg #[vi pp.1,vi pp.2.1,.slice pg.A pp.2.2.length pg.c]) kT (fun cx=>(cZ (e:=48) (C:=pgX) (K:=kcI) (x:=ep) rfl (cx.ou 96) (cx.ou 98) (CtxV.mx cx (cx.init 4 _ rfl) rfl) (h0:=by kernel_rfl) (hx:=hkn) (hk:=show Program.underlying _ _= _ from by kernel_rfl)).trans (by rw[hmN];rfl)) ?_
 refine bI 2 3 kT ?_
 refine iE (fun ey ez=> .tuple #[.agg #[vi ((doR pp (ep,es,eb) 1).1),vi ((doR pp (ep,es,eb) 1).2.1),.slice ey ((doR pp (ep,es,eb) 1).2.2.length) ez],vi ((doE pp (ep,es,eb) 1))]) (fun ey ez=>eO 9 1 (.slice ey ((doR pp (ep,es,eb) 1).2.2.length) ez) ((doR pp (ep,es,eb) 1).2.2.length) ((doR pp (ep,es,eb) 1).2.2.map Value.string)) kT (fun cx=>⟨_,(Eu (xK pp.1 pp.2.1 _ _ pp.2.2 ep es eb 1 _ (hpi ▸ GB (CtxV.holdF cx (cx.init 6 _ rfl) rfl) hpm) hri.1 (eh hri.1) hez)).mono (by rintro e W1 ⟨A4,c4,rfl,ho,hx⟩;exact⟨_,_,rfl,St.one hx (cu ho)⟩),(dL (cx.ou 99) (cx.ou 100) (cx.co _))⟩) fun ey ez OW pv=>?_
 refine sqp [.m 95 101,.k 102 (.agg #[vi ((doR pp (ep,es,eb) 1).1),vi ((doR pp (ep,es,eb) 1).2.1),.slice ey ((doR pp (ep,es,eb) 1).2.2.length) ez]),.k 103 (vi ((doE pp (ep,es,eb) 1)))] ?_
 refine b8 #[vi 0,vi 0,sn] pv fun Rm T8 Om=>?_
 refine aX (n:=3) 8 #[vi ((doR pp (ep,es,eb) 1).1),vi ((doR pp (ep,es,eb) 1).2.1),.slice ey ((doR pp (ep,es,eb) 1).2.2.length) ez] Om fun Mp l7=>?_
 refine sqp [.m 16 103] ?_
 refine aa (wq (wq (sqr (sqp [.m 104 16,.k 105 (.bool ((doE pp (ep,es,eb) 1) != 0))] ?_))))
 refine aa (wbs (fun kF=>?_) fun kF=>?_)
 have CT:=bne_iff_ne.1 kF
 refine wq (sqr (sqp [.m 106 16,.k 4 (vi 0),.m 5 106] ?_))
 refine aa (wp_ret (ai (bb (ai (ai (bb (ai ?_)))))))
 refine bpr (.tuple #[vi 0,vi ((doE pp (ep,es,eb) 1))]) (aO Tryz.results17 rpt rpt) ?_
 exact fP.of (by have h_:=DoQ.err (S:=S) (r:=r) hda hin hev2 (by rw[sr hek herr (by rw[hpp];simpa using kF)];rw[hpp];simpa using kF);rw[sr hek herr (by rw[hpp];simpa using kF),hpp] at h_;exact h_) (hok2.mono (by omega)) (l7.pick [6] (by decide) rfl)
 have CT:=bne_eq_false_iff_eq.1 kF
 refine wp_skip (aa ?_)
 have hd0:doE pp (ep,es,eb) 1=0:=by simpa using kF
 have hd1:doE ((bq (aF S) (r.eds.take j)) (ep,es,eb).1) (ep,es,eb) 1=0:=by rw[hpp];exact hd0
 obtain⟨fp100_,hg100_⟩:=St.rPf (r:=(⟨iC (eE S r) (doR pp (ep,es,eb) 1),ey,ez⟩:PgR)) l7.u6.u7
 refine sqr (sqp [.m 107 8,.k 108 (vp ly)] ?_)
 refine aq 3 hg100_ ?_
 refine bI 7 3 hg100_ ?_
 refine sqc (eMx kcI pgX Tryz.prog 3 ij ((mzP mN2 ep nN2)) (cj mN2 ep (some ((doR pp (ep,es,eb) 1).1,(doR pp (ep,es,eb) 1).2.1,ey,(doR pp (ep,es,eb) 1).2.2.length,ez)))) 5 hg100_ (by
   refine svA fun o d W X cx=>?_
   exact gC (e:=48) (v:=((doR pp (ep,es,eb) 1).1,(doR pp (ep,es,eb) 1).2.1,ey,(doR pp (ep,es,eb) 1).2.2.length,ez)) (.inl rfl) (cx.ou 107) (show o _=Kc.enc kcI ep from(cx.ou 109)) (show o _=Ec.enc pgX ((doR pp (ep,es,eb) 1).1,(doR pp (ep,es,eb) 1).2.1,ey,(doR pp (ep,es,eb) 1).2.2.length,ez) from(cx.ou 110)) cx (cx.init 5 _ rfl) rfl (trivial) (by omega) (hkn) rfl rfl rfl (fun _ _ _ _ _=>id) (hk:=show Program.underlying _ _= _ from by kernel_rfl)) fun Su MK=>?_
 refine av (aa (sqr (sqp [sI 111 ((j:Int)+1) (by omega),.m 60 111] ?_)))
 refine aa ?_
 have hev3:Ev S (ka S2 (⟨iC (eE S r) (doR pp (ep,es,eb) 1),ey,ez⟩:PgR)):=hev2.trans (Ev.rows' _ _) hok.fl
 have hok3:=hok2.rows (⟨iC (eE S r) (doR pp (ep,es,eb) 1),ey,ez⟩:PgR)
 have hI3:DoI (aF S) (bq (aF S) (r.eds.take (j+1))) (eE S r) os2 (mW2) (cj mN2 ep (some ((doR pp (ep,es,eb) 1).1,(doR pp (ep,es,eb) 1).2.1,ey,(doR pp (ep,es,eb) 1).2.2.length,ez))) (ka S2 (⟨iC (eE S r) (doR pp (ep,es,eb) 1),ey,ez⟩:PgR)).rows none:=by rw[ip hek,yU];exact hI2.edit hme (by rw[hpp];exact ro hd0) _ _
 refine⟨r.eds.length-((j+1)),by omega,?_⟩
 exact⟨(j+1),os2,m2,OA2,oc2,(ka S2 (⟨iC (eE S r) (doR pp (ep,es,eb) 1),ey,ez⟩:PgR)),fp100_,mW2,nW2,cj mN2 ep (some ((doR pp (ep,es,eb) 1).1,(doR pp (ep,es,eb) 1).2.1,ey,(doR pp (ep,es,eb) 1).2.2.length,ez)),(mzP mN2 ep nN2),by omega,by rw[ip hek,sF,<-hos];exact hos2,hm2,hev3,hok3.mono (by omega),hrt2,yd hek herr hd1,hI3,by omega,by have:=pS mN2 ep nN2;omega,rfl,(by kernel_rfl),MK.pk [1,2,4,5,6,0]⟩
 refine wp_exit (al (al (bf (aa (wq ?_)))))
 have hje:j=r.eds.length:=by omega
 have hI9:DoI (aF S) (bq (aF S) r.eds) (eE S r) os mW mN Sj.rows none:=by have h_:=hIj;rw[hje,List.take_length] at h_;exact h_
 have hosF:os=cH r.eds:=by rw[hos,hje,List.take_length]
 have her9:cU (aF S) r.eds=0:=by have h_:=herr;rw[hje,List.take_length] at h_;exact h_
 have hmo:m<=64:=by have h1:=mi r.eds;rw[hm,hosF];omega
 have aD:=eU hda.1
 have hlzj:Sj.D.log.size<=1048576:=hokj.lsz
 have hpro:∀n∈os,0<=n/\n<(S.D.pgs.length:Int):=fun n hn=>by rw[hosF] at hn;obtain⟨x,hx,rfl⟩:=ky.1 hn;exact lh hin hx
 refine sqr ?_
 refine bI 1 8 fq ?_
 refine sqk (.string (aC r)) fq (fun cx=>⟨_,j6 r.kind r.xid r.tbl _ _ r.eds r.note _ (mj (CtxV.holdF cx (cx.init 5 _ rfl) rfl) hrtj) (by omega) hz hns,(ax (cx.ou 112))⟩) fun PM zC=>?_
 refine sqp [.k 114 (vi (((aC r).size:Int))),.m 17 114] ?_
 refine aa (wq (sqr (sqp [.k 18 (sn)] ?_)))
 refine aa (wq (wq (sqr (sqp [.m 115 6,.k 116 (vi ((m:Int))),.k 117 (vi 0)] ?_))))
 refine aa (wp_block ?_)
 have hn116:=fi zC 27 8
 simp only[List.cons_append,List.nil_append] at hn116
 refine aN (fun t_ mz az W=>∃i:Nat,∃g:Nat,∃GA:Option Addr,∃gc:Nat,∃z:Int,∃fpi:List Nat,i<=m/\g=(eI S (os.take i)).length/\z=((aC r).size:Int)+(szF (fk S (os.take i)):Int)/\(0<=z/\z<=200000*((i:Int)+1))/\mz=m-i/\az=⟨(ovr (jv az) [(17,17,0,[vi z,.slice GA g gc]),(1,20,4,[]),(93,117,0,[vi ((i:Int))]),(0,118,30,[])] t_).toArray,[]⟩/\St w fp [eB br 31 #[vp sb],eB ck 27 #[vi r.kind,vi r.xid,vi r.tbl,sn,sn,.slice cG r.eds.length cL,sn,.string r.note],eMx kcI pgX Tryz.prog 3 i7 nW (mW),eMx kcI pgX Tryz.prog 3 ij nN (mN),eO 3 1 (.slice OA m oc) m (os.map (Value.int .i64)),eO 27 8 (.slice GA g gc) g ((eI S (os.take i)).flatMap (icC S)),eSt sb db Sj fpi] W) (m-0) ?_ ?_
 exact⟨0,0,none,0,((aC r).size:Int),fpj,Nat.zero_le _,rfl,by show _= _+((0:Nat):Int);omega,by omega,rfl,(by kernel_rfl),hn116.pk [0,1,2,3,4,6,5]⟩
 rintro Sv a117 Sw ⟨i,g,GA,gc,z,fpi,hi,hg,hz1,hz2,rfl,hj_,qV⟩
 refine ovz hj_ fun RT=>?_
 refine wq (sqr (sqp [.k 118 (.bool (decide ((i:Int)<(m:Int))))] ?_))
 refine aa (wq (wds (fun uV zI=>?_) fun uV zI=>?_))
 refine wp_skip (aa (wq (wp_block (wq ?_))))
 obtain⟨nn,hnn⟩:∃n,os[i]? =some n:=⟨_,List.getElem?_eq_getElem (by omega)⟩
 have hno:nn∈os:=List.mem_of_getElem? hnn
 have hpn:=hpro nn hno
 have hkn:kcI.ok nn:=by constructor<;>omega
 have htk:os.take (i+1)=os.take i++[nn]:=by rw[List.take_add_one,hnn];rfl
 refine sqr ?_
 refine sql (.pointer (some ((ad OA).add i))) qV (fun cx=>bS (e:=3) (m:=i) rfl (by kernel_rfl) (by kernel_rfl) (cx.ou 115) (cx.ou 117) (by omega) (by omega) (At.of_own (cx.ri 4 rfl)) (by rw[List.length_map];omega)) ?_
 refine sql (vi nn) qV (fun cx=>ae rfl (by kernel_rfl) (cx.ou 119) (At.cellAd (At.of_own (cx.ri 4 rfl)) ((List.getElem?_map ..).trans (by rw[hnn];rfl)))) ?_
 refine sqp [.m 20 120] ?_
 refine aa (wq ?_)
 obtain⟨⟨hrw1,hrr1⟩,mb1,RA1,rc1,EA1,ec1,ib1,tb1,fpd1,hv123_⟩:=qV.u6.unf
 refine sqr (aq 10 hv123_ ?_)
 refine sqp [.k 122 (vp sb),.k 123 (po sb 6)] ?_
 refine aq 0 hv123_ ?_
 refine sqp [.m 125 20] ?_
 refine sql (.bool (((Sj.im nn).getD false))) hv123_ (fun cx=>cZ (e:=4) (C:=ecB) (K:=kcI) (x:=nn) rfl (cx.ou 124) (cx.ou 125) (CtxV.mx cx (cx.init 7 _ rfl) rfl) (h0:=(by rfl)) (hx:=hkn) (hk:=show Program.underlying _ _= _ from by kernel_rfl)) ?_
 refine sqp [.k 127 (.bool (!(((Sj.im nn).getD false))))] ?_
 refine aa ?_
 rcases Bool.eq_false_or_eq_true (((Sj.im nn).getD false)) with uW|uW
 refine wp_cond_false (show Act.eval _ _= .bool false from(congrArg Value.bool (by rw[uW];rfl))) (wp_skip (av (aa (sqr (sqp [sI 147 ((i:Int)+1) (by omega),.m 117 147] ?_)))))
 refine aa ?_
 obtain⟨fp134_,hk134_⟩:=St.stf (S:=Sj) (hv123_) (hrw1) (hrr1)
 have him:(S.im nn).getD false=true:=by rw[<-hevj.im];simpa using uW
 have hnd1:eI S (os.take (i+1))=eI S (os.take i):=by rw[htk];exact D3 S _ _ him
 rw[<-hnd1] at hk134_
 refine⟨m-((i+1)),by omega,?_⟩
 exact⟨(i+1),g,GA,gc,z,fp134_,by omega,by rw[hnd1];exact hg,by rw[fk,hnd1];exact hz1,by omega,rfl,(by kernel_rfl),hk134_.pk [1,2,3,4,5,6,0]⟩
 refine wp_cond_true (show Act.eval _ _= .bool true from(congrArg Value.bool (by rw[uW];rfl))) (wq ?_)
 have him:(S.im nn).getD false=false:=by rw[<-hevj.im];simpa using uW
 have hnd1:eI S (os.take (i+1))=eI S (os.take i)++[nn]:=by rw[htk];exact Gx S _ _ him
 obtain⟨pg,hpm,hmW,hpi⟩:=hI9.w nn hno
 have hri:=iP hok nn
 have hbz:=dD hri
 have hgi:g<=i:=by rw[hg];have h1:=o8 S (os.take i);rw[List.length_take] at h1;omega
 have hfi:=eU (ng hok hpn)
 refine sqr (sqp [.m 129 7,.m 130 20] ?_)
 refine sql (.agg #[vi ((aF S nn).1),vi ((aF S nn).2.1),.slice pg.A ((aF S nn).2.2.length) pg.c]) hv123_ (fun cx=>(cZ (e:=48) (C:=pgX) (K:=kcI) (x:=nn) rfl (cx.ou 129) (cx.ou 130) (CtxV.mx cx (cx.init 12 _ rfl) rfl) (h0:=by kernel_rfl) (hx:=hkn) (hk:=show Program.underlying _ _= _ from by kernel_rfl)).trans (by rw[hmW];rfl)) ?_
 refine sqk (.tuple #[.string (aH (aF S nn)),vi 0]) hv123_ (fun cx=>⟨_,nb (mt hri) _ _ _ (hpi ▸ jd (CtxV.holdF cx (cx.init 3 _ rfl) rfl) hpm) (eh hri.1),(ax (cx.ou 131))⟩) fun Sy ML=>?_
 refine sqp [.m 128 132,.k 133 (.string (aH (aF S nn))),.k 134 (vi 0),.m 21 133,.m 22 134] ?_
 refine aa (wq (sqr (sqp [.m 135 20,.m 136 21,.k 137 (.agg #[vi 8,vi 0,vi nn,sn,sn,sn,sn,.string (aH (aF S nn))])] ?_)))
 refine b8 #[vi 0,vi 0,vi 0,sn,sn,sn,sn,.string ByteArray.empty] ML fun Qf Sz MM=>?_
 refine aX (n:=8) 16 #[vi 8,vi 0,vi nn,sn,sn,sn,sn,.string (aH (aF S nn))] MM fun SB Fy=>?_
 refine aa (wq (sqr (sqp [.m 138 18] ?_)))
 refine bI 16 8 Fy ?_
 refine mK 27 8 1 [vi 8,vi 0,vi nn,sn,sn,sn,sn,.string (aH (aF S nn))] Fy (@fun o d W X cx=>by have On:o (.tmp 139)= .agg #[vi 8,vi 0,vi nn,sn,sn,sn,sn,.string (aH (aF S nn))]:=(cx.ou 139);simp[go_sem,On]) fun PS PT m6=>?_
 refine vw (g+1) ((eI S (os.take (i+1))).flatMap (icC S)) 15 m6 Tryz.infoRecJ (fun cx=>(At.of_ownN (cx.ri 17 rfl))) (jP:=(by rw[hnd1];exact Jj _ _ _)) fun Il Im PO uT=>?_
 refine sqp [.m 18 141] ?_
 refine aa (sqr (sqp [.m 142 17] ?_))
 refine bI 16 8 uT ?_
 refine sqk (.string (aC (gg S nn))) uT (fun cx=>⟨_,j6 8 0 nn none 0 [] (aH (aF S nn)) _ (fun j u h=>by cases j<;>cases h) (by decide) (fun e he=>by cases he) (by omega),(ax (cx.ou 143))⟩) fun SC MN=>?_
 refine sqp [.k 145 (vi (((aC (gg S nn)).size:Int))),sI 146 (z+((aC (gg S nn)).size:Int)) (by omega),.m 17 146] ?_
 refine av (aa (sqr (sqp [sI 147 ((i:Int)+1) (by omega),.m 117 147] ?_)))
 refine aa ?_
 obtain⟨fp162_,hk162_⟩:=St.stf (S:=Sj) (MN) (hrw1) (hrr1)
 refine⟨m-((i+1)),by omega,?_⟩
 exact⟨(i+1),(g+1),Il,Im,(z+((aC (gg S nn)).size:Int)),fp162_,by omega,by rw[hnd1,List.length_append,hg];rfl,by rw[htk,De S _ _ him];omega,by omega,rfl,(by kernel_rfl),hk162_.pk [1,2,3,4,5,6,0]⟩
 refine wp_exit (al (al (bf (aa (wq (wq ?_))))))
 have hie:i=m:=by omega
 have hto:os.take i=os:=List.take_of_length_le (by omega)
 rw[hto] at hg hz1 qV
 have hgm:g<=64:=by have h1:=o8 S os;omega
 have hnz:jV S r=Sj.D.log.size+z.toNat:=by rw[jV,<-hosF,hevj.log,hz1];omega
 obtain⟨⟨hrw1,hrr1⟩,mb1,RA1,rc1,EA1,ec1,ib1,tb1,fpd1,hv163_⟩:=qV.u6.unf
 refine sqr (aq 10 hv163_ ?_)
 refine sqp [.k 149 (vp sb),.k 150 (vp sb)] ?_
 refine aq 0 hv163_ ?_
 refine sqk (.string Sj.D.log) hv163_ (fun cx=>⟨_,kA db Sj.D _ (fc (CtxV.holdF cx (cx.init 9 _ rfl) rfl)),(ax (cx.ou 151))⟩) fun PU uX=>?_
 refine sqp [.k 153 (vi ((Sj.D.log.size:Int))),.m 154 17,sI 155 ((Sj.D.log.size:Int)+z) (by omega),.k 156 (.bool (decide (1048576<(Sj.D.log.size:Int)+z)))] ?_
 refine aa (wds (fun CU MO=>?_) fun CU MO=>?_)
 refine wq (sqr (sqp [.k 4 (vi 0),.k 5 (vi 31)] ?_))
 refine aa (wp_ret (ai ?_))
 refine bpr (.tuple #[vi 0,vi 31]) (aO Tryz.results17 rpt rpt) ?_
 obtain⟨fp176_,hk176_⟩:=St.stf (S:=Sj) (uX) (hrw1) (hrr1)
 exact fP.of (.full hda hin hevj her9 (by have h_:=CU;simp at h_;omega)) (hokj.mono (by omega)) (hk176_.pick [0] (by decide) rfl)
 refine wp_skip (aa (wq (wq ?_)))
 have hfit:jV S r<=1048576:=by have h_:=CU;simp at h_;omega
 obtain⟨fp177_,hk177_⟩:=St.stf (S:=Sj) (uX) (hrw1) (hrr1)
 refine sqr (sqp [.m 157 18,.k 158 (vi ((g:Int))),.k 159 (vi 0)] ?_)
 refine aa (wp_block ?_)
 refine aN (fun t_ mz az W=>∃k:Nat,∃Sk:StM,∃fpk:List Nat,k<=g/\(∀S9 er,ApI Sk ((fk S os).drop k) S9 er->ApI Sj (fk S os) S9 er)/\SOk Sk (c+200+k)/\(⟨r,cG,cL⟩:RcT)∈Sk.rr/\Sk.rows=Sj.rows/\Sk.recs.length=S.recs.length+k/\Sk.D.pgs.length=S.D.pgs.length/\mz=g-k/\az=⟨(ovr (jv az) [(4,4,2,[]),(19,25,2,[]),(132,159,0,[vi ((k:Int))]),(0,160,16,[])] t_).toArray,[]⟩/\St w fp [eB br 31 #[vp sb],eB ck 27 #[vi r.kind,vi r.xid,vi r.tbl,sn,sn,.slice cG r.eds.length cL,sn,.string r.note],eMx kcI pgX Tryz.prog 3 i7 nW (mW),eMx kcI pgX Tryz.prog 3 ij nN (mN),eO 3 1 (.slice OA m oc) m (os.map (Value.int .i64)),eO 27 8 (.slice GA g gc) g ((eI S os).flatMap (icC S)),eSt sb db Sk fpk] W) (g-0) ?_ ?_
 exact⟨0,Sj,fp177_,Nat.zero_le _,fun S9 er h=>h,hokj.mono (by omega),hrtj,rfl,by rw[hevj.recs];rfl,hevj.len,rfl,(by kernel_rfl),hk177_.pk [1,2,3,4,5,6,0]⟩
 rintro SD a181 SF ⟨k,Sk,fpk,hk,hcont,hokk,hrtk,hrowk,hreck,hpk,rfl,hj_,oC⟩
 refine ovz hj_ fun RU=>?_
 refine wq (sqr (sqp [.k 160 (.bool (decide ((k:Int)<(g:Int))))] ?_))
 refine aa (wq (wds (fun Oo MP=>?_) fun Oo MP=>?_))
 refine wp_skip (aa (wq (wp_block (wq ?_))))
 obtain⟨nn,hnn⟩:∃n,(eI S os)[k]? =some n:=⟨_,List.getElem?_eq_getElem (by omega)⟩
 have hno:nn∈os:=sH (List.mem_of_getElem? hnn)
 have hpn:=hpro nn hno
 have hkn:kcI.ok nn:=by constructor<;>omega
 have hdr:(fk S os).drop k=gg S nn::(fk S os).drop (k+1):=by rw[List.drop_eq_getElem_cons (by rw[fk,List.length_map];omega)];congr 1;exact(List.getElem?_eq_some_iff.1 ((List.getElem?_map ..).trans (by rw[hnn];rfl))).2
 have hir:=ng hok hpn
 refine sqr ?_
 refine sql (.pointer (some ((ad GA).add (k*8)))) oC (fun cx=>aB (e:=27) (m:=k) (sz:=8) rfl (by kernel_rfl) (by kernel_rfl) (cx.ou 157) (cx.ou 159) (by omega) (by omega) (At.of_ownN (cx.ri 5 rfl)) (bj (sz:=8) (AO S) (by decide) (by omega))) ?_
 refine sql (.agg #[vi 8,vi 0,vi nn,sn,sn,sn,sn,.string ((aH (aF S nn)))]) oC (fun cx=>bF (f:=(icC S)) (m:=k) (sz:=8) (off:=0) (n:=8) rfl (by kernel_rfl) (by kernel_rfl) (cx.ou 161) rfl (AO S) (At.of_ownN (cx.ri 5 rfl)) hnn (fun k hk=>match k,hk with|0,_=>rfl|1,_=>rfl|2,_=>rfl|3,_=>rfl|4,_=>rfl|5,_=>rfl|6,_=>rfl|7,_=>rfl|k+8,hk=>absurd hk (by omega))) ?_
 refine b8 #[vi 0,vi 0,vi 0,sn,sn,sn,sn,.string ByteArray.empty] oC fun KR SG MQ=>?_
 refine aX (n:=8) 7 #[vi 8,vi 0,vi nn,sn,sn,sn,sn,.string ((aH (aF S nn)))] MQ fun SH MR=>?_
 refine aa (wq (wq ?_))
 have hn188:=fi MR 84 3
 simp only[List.cons_append,List.nil_append] at hn188
 obtain⟨Sq,fp189_,hSq,hg189_⟩:=St.rRn (r:=(rcI (gg S nn))) hn188.u6.u8
 have hokq:SOk Sq (c+200+k):=hSq ▸ hokk.rr _
 have hrtq:rcI (gg S nn)∈Sq.rr:=by rw[<-hSq];exact List.mem_append_right _ (List.mem_singleton.2 rfl)
 refine sqr (aq 1 hg189_ ?_)
 refine bI 7 8 hg189_ ?_
 refine bM (fun X_=>X_.fp) (vi ((bz Sq (rcI (gg S nn))).2)) (fun Fz=>eSt sb db ((bz Sq (rcI (gg S nn))).1) Fz) 0 hg189_ (by
   refine svA fun o d W X cx=>?_
   refine am.call (au (args:=#[vp sb,.agg #[vi 8,vi 0,vi nn,sn,sn,sn,sn,.string ((aH (aF S nn)))]]) rfl cx.sees rfl (by kernel_rfl) (aM (cx.ou 163) (cx.ou 164))) ?_
   refine(nD sb db Sq (rcI (gg S nn)) (c+200+k) _ _ (CtxV.holdF cx (cx.init 0 _ rfl) rfl) (CtxV.ltF cx (cx.init 0 _ rfl) rfl) hokq hir hrtq).mono ?_
   rintro e W1 ⟨rfl,fp4,aT⟩
   refine⟨_,rfl,aK (E:=eSt sb db Sq fp189_) [eSt sb db (bz Sq (rcI (gg S nn))).1 fp4] (cx.init 0 _ rfl) rfl rfl aT (fun t y X' hs hb hv hN=>?_)⟩
   have aJ:=(hv 165 rfl).1;have aV:=(hv 165 rfl).2
   exact⟨aJ.trans rfl,gX ((List.cons.inj hN).1)⟩) fun Fz PV oD=>?_
 refine sqp [.m 26 165] ?_
 refine aa (wq (sqr (sqp [.m 166 26,.k 167 (.bool (((bz Sq (rcI (gg S nn))).2) != 0))] ?_)))
 refine aa (wbs (fun rH=>?_) fun rH=>?_)
 have MS:=bne_iff_ne.1 rH
 refine wq (sqr (sqp [.m 168 26,.k 4 (vi 0),.m 5 168] ?_))
 refine aa (wp_ret (ai (bb (ai (ai (bb (ai ?_)))))))
 refine bpr (.tuple #[vi 0,vi ((bz Sq (rcI (gg S nn))).2)]) (aO Tryz.results17 rpt rpt) ?_
 exact fP.of (.img hda hin hevj ⟨_,hokj⟩ her9 hfit (by rw[<-hosF];refine hcont _ _ ?_;rw[hdr];have h_:=ApI.bad (S:=Sk) (l:=(fk S os).drop (k+1)) (Sk.rr++[rcI (gg S nn)]) (by rw[hSq];simpa using rH);rw[hSq] at h_;exact h_) (by simpa using rH)) ((hokq.append hir).mono (by omega)) (oD.pick [0] (by decide) rfl)
 have MS:=bne_eq_false_iff_eq.1 rH
 refine wp_skip (aa ?_)
 have he0:(bz Sq (rcI (gg S nn))).2=0:=by simpa using rH
 obtain⟨S3,hS3⟩:∃z,(bz Sq (rcI (gg S nn))).1=z:=⟨_,rfl⟩
 rw[hS3] at oD
 have hok3:SOk S3 (c+200+k):=hS3 ▸ hokq.append hir
 have hni3:=hok3.ni
 obtain⟨⟨hrw3,hrr3⟩,mb3,RA3,rc3,EA3,ec3,ib3,tb3,fpd3,hv200_⟩:=oD.unf
 refine aG [0,1,3,7,0,16,63] [[10],[],[],[0],[],[16],[7]] [[],[],[],[],[],[],[17]] [[],[],[],[],[],[],[7]] [.c 169 (vp sb),.k 170 (vp sb),.k 171 (po sb 6),.c 172 (.map (some ib3)),.k 173 (po KR 2),.c 174 (vi nn),.n] (fun ix t d X=>match ix with|0|1|2|3|4|5=>True|6=>X 17=eMx kcI ecB Tryz.prog 3 ib3 ((mzP S3.im nn S3.ni)) (cj S3.im nn (some true))|_=>True) [0,1,2,3,4,5,6,8,9,10,11,12,13,14,15,16,17] [0,3,5,6] [(169,0,6,175)] hv200_ ?_ ?_ ?_
 exact fun ix _ _ _ _ _ _ hs hb hx h=>match ix,h with
 |6,h=>by dsimp only;rw[<-hx 17 rfl];exact h
 |0,_|1,_|2,_|3,_|4,_|5,_|_+7,_=>trivial
 refine⟨?_,?_,?_,?_,trivial⟩
 exact xs4 rfl id fun cx=>ae rfl (by kernel_rfl) (cx.ou 2) ((cx.bi 10 rfl).cell 0)
 exact xs4 rfl id fun cx=>ae rfl (by kernel_rfl) (cx.an 2) ((cx.bi 0 rfl).cell 6)
 exact xs4 rfl id fun cx=>ae rfl (by kernel_rfl) (cx.an 4) ((cx.bi 16 rfl).cell 2)
 refine svA fun o d W X cx=>?_
 exact gC (e:=4) (v:=true) (.inl rfl) (cx.an 3) (show o _=Kc.enc kcI nn from(cx.an 5)) (show o _=Ec.enc ecB true from(cx.co _)) cx (cx.init 7 _ rfl) rfl (trivial) (by omega) (hkn) rfl rfl rfl (fun _ _ _ _ _=>id) (hk:=show Program.underlying _ _= _ from by kernel_rfl)
 intro t d X SI hD FA fr aD
 simp only[exq 17 ((dTn (hD 6 lq)))] at FA
 clear hD;subst aD;clear t d X
 refine av (aa (sqr (sqp [sI 175 ((k:Int)+1) (by omega),.m 159 175] ?_)))
 refine aa ?_
 obtain⟨fp204_,hk204_⟩:=St.stf (S:=(imS S3 nn)) (FA.u16.u7.u7.u7.u7.u7.u7.u7) (hrw3) (hrr3)
 refine⟨g-((k+1)),by omega,?_⟩
 exact⟨(k+1),(imS S3 nn),fp204_,by omega,fun S9 er h=>hcont S9 er (by rw[hdr];exact ApI.cons (Sk.rr++[rcI (gg S nn)]) (by rw[hSq];exact he0) (by rw[hSq,hS3];exact h)),(hok3.im nn).mono (by omega),by show _∈S3.rr;rw[<-hS3,(jL _ _).2.1,<-hSq];exact List.mem_append_left _ hrtk,by show S3.rows= _;rw[<-hS3,(jL _ _).1,<-hSq];exact hrowk,by show S3.recs.length= _;rw[<-hS3,wJ he0,List.length_append,<-hSq];show Sk.recs.length+1= _;omega,by show S3.D.pgs.length= _;rw[<-hS3,(jL _ _).2.2.2.2.2.1,<-hSq];exact hpk,rfl,(by kernel_rfl),hk204_.pk [1,2,3,4,5,6,0]⟩
 refine wp_exit (al (al (bf (aa (wq (wq ?_))))))
 have hai:ApI Sj (fk S os) Sk 0:=hcont _ _ (by rw[List.drop_of_length_le (by rw[fk,List.length_map];omega)];exact ApI.nil _)
 refine sqr (aq 0 oC ?_)
 refine bI 1 8 oC ?_
 refine bM (fun X_=>X_.fp) (vi ((bz Sk (⟨r,cG,cL⟩:RcT)).2)) (fun zJ=>eSt sb db ((bz Sk (⟨r,cG,cL⟩:RcT)).1) zJ) 6 oC (by
   refine svA fun o d W X cx=>?_
   refine am.call (au (args:=#[vp sb,.agg #[vi r.kind,vi r.xid,vi r.tbl,sn,sn,.slice cG r.eds.length cL,sn,.string r.note]]) rfl cx.sees rfl (by kernel_rfl) (aM (cx.ou 176) (cx.ou 177))) ?_
   refine(nD sb db Sk (⟨r,cG,cL⟩:RcT) (c+200+k) _ _ (CtxV.holdF cx (cx.init 6 _ rfl) rfl) (CtxV.ltF cx (cx.init 6 _ rfl) rfl) hokk hda.1 hrtk).mono ?_
   rintro e W1 ⟨rfl,fp4,aT⟩
   refine⟨_,rfl,aK (E:=eSt sb db Sk fpk) [eSt sb db (bz Sk (⟨r,cG,cL⟩:RcT)).1 fp4] (cx.init 6 _ rfl) rfl rfl aT (fun t y X' hs hb hv hN=>?_)⟩
   have aJ:=(hv 178 rfl).1;have aV:=(hv 178 rfl).2
   exact⟨aJ.trans rfl,gX ((List.cons.inj hN).1)⟩) fun zJ SJ zK=>?_
 refine sqp [.m 27 178] ?_
 refine aa (wq (sqr (sqp [.m 179 27,.k 180 (.bool (((bz Sk (⟨r,cG,cL⟩:RcT)).2) != 0))] ?_)))
 refine aa (wbs (fun uY=>?_) fun uY=>?_)
 have MT:=bne_iff_ne.1 uY
 refine wq (sqr (sqp [.m 181 27,.k 4 (vi 0),.m 5 181] ?_))
 refine aa (wp_ret (ai ?_))
 refine bpr (.tuple #[vi 0,vi ((bz Sk (⟨r,cG,cL⟩:RcT)).2)]) (aO Tryz.results17 rpt rpt) ?_
 exact fP.of (.app (rt:=(⟨r,cG,cL⟩:RcT)) hda hin hevj ⟨_,hokj⟩ her9 hfit (by rw[<-hosF];exact hai) rfl (by simpa using uY)) ((hokk.append hda.1).mono (by omega)) (zK.pick [6] (by decide) rfl)
 have MT:=bne_eq_false_iff_eq.1 uY
 refine wp_skip (aa (wq (wq ?_)))
 have he5:(bz Sk (⟨r,cG,cL⟩:RcT)).2=0:=by simpa using uY
 obtain⟨S5,hS5⟩:∃z,(bz Sk (⟨r,cG,cL⟩:RcT)).1=z:=⟨_,rfl⟩
 rw[hS5] at zK
 have hok5:SOk S5 (c+300):=hS5 ▸ ((hokk.append hda.1).mono (by omega))
 have hlsn:(S5.recs.length:Int)=(eE S r):=by rw[<-hS5,wJ he5,List.length_append,hreck,eE,<-hosF];simp only[List.length_singleton];omega
 have hrow5:S5.rows=Sj.rows:=by rw[<-hS5,(jL _ _).1];exact hrowk
 refine sqr (sqp [.m 182 6,.k 183 (vi ((m:Int))),.k 184 (vi 0)] ?_)
 refine aa (wp_block ?_)
 refine aN (fun t_ mz az W=>∃ii:Nat,∃Sl:StM,∃fpl:List Nat,ii<=m/\(∀S9 er,PuA (aF S) (bq (aF S) r.eds) (eE S r) Sl (os.drop ii) S9 er->PuA (aF S) (bq (aF S) r.eds) (eE S r) S5 os S9 er)/\SOk Sl (c+300+4*ii)/\Sl.recs=S5.recs/\(∀p∈Sj.rows,p∈Sl.rows)/\mz=m-ii/\az=⟨(ovr (jv az) [(4,4,2,[]),(23,29,3,[]),(152,184,0,[vi ((ii:Int))]),(0,185,35,[])] t_).toArray,[]⟩/\St w fp [eB br 31 #[vp sb],eMx kcI pgX Tryz.prog 3 i7 nW (mW),eMx kcI pgX Tryz.prog 3 ij nN (mN),eO 3 1 (.slice OA m oc) m (os.map (Value.int .i64)),eSt sb db Sl fpl] W) (m-0) ?_ ?_
 exact⟨0,S5,zJ,Nat.zero_le _,fun S9 er h=>h,hok5.mono (by omega),rfl,fun p hp=>by rw[hrow5];exact hp,rfl,(by kernel_rfl),zK.pk [0,2,3,4,6]⟩
 rintro SK a218 SL ⟨ii,Sl,fpl,hii,hcon4,hokl,hrecl,hrowl,rfl,hj_,qW⟩
 refine ovz hj_ fun RV=>?_
 refine wq (sqr (sqp [.k 185 (.bool (decide ((ii:Int)<(m:Int))))] ?_))
 refine aa (wq (wds (fun Oq MU=>?_) fun Oq MU=>?_))
 ·refine wp_skip (aa (wq (wp_block (wq ?_))))
  obtain⟨nn,hnn⟩:∃n,os[ii]? =some n:=⟨_,List.getElem?_eq_getElem (by omega)⟩
  have hno:nn∈os:=List.mem_of_getElem? hnn
  have hpn:=hpro nn hno
  have hkn:kcI.ok nn:=by constructor<;>omega
  have htk:os.take (ii+1)=os.take ii++[nn]:=by rw[List.take_add_one,hnn];rfl
  obtain⟨pg,hpm,hmN,hpi,hps⟩:=hI9.n nn hno
  obtain⟨pgw,hpmw,hmW,hpiw⟩:=hI9.w nn hno
  have hdr:os.drop ii=nn::os.drop (ii+1):=by rw[List.drop_eq_getElem_cons (by omega)];congr 1;exact(List.getElem?_eq_some_iff.1 hnn).2
  have hlsl:(Sl.recs.length:Int)=(eE S r):=by rw[hrecl];exact hlsn
  have hgl:(⟨(((bq (aF S) r.eds) nn).1,(Sl.recs.length:Int),((bq (aF S) r.eds) nn).2.2),pg.A,pg.c⟩:PgR)∈Sj.rows:=by rw[hlsl];have h_:=hps (by simp);obtain⟨p1,p2,p3⟩:=pg;dsimp only at h_;subst h_;exact hpm
  refine sqr ?_
  refine sql (.pointer (some ((ad OA).add ii))) qW (fun cx=>bS (e:=3) (m:=ii) rfl (by kernel_rfl) (by kernel_rfl) (cx.ou 182) (cx.ou 184) (by omega) (by omega) (At.of_own (cx.ri 3 rfl)) (by rw[List.length_map];omega)) ?_
  refine sql (vi nn) qW (fun cx=>ae rfl (by kernel_rfl) (cx.ou 186) (At.cellAd (At.of_own (cx.ri 3 rfl)) ((List.getElem?_map ..).trans (by rw[hnn];rfl)))) ?_
  refine sqp [.m 29 187] ?_
  refine aa (wq (sqr (sqp [.m 188 8,.m 189 29] ?_)))
  refine sql (.agg #[vi (((bq (aF S) r.eds) nn).1),vi (((bq (aF S) r.eds) nn).2.1),.slice pg.A (((bq (aF S) r.eds) nn).2.2.length) pg.c]) qW (fun cx=>(cZ (e:=48) (C:=pgX) (K:=kcI) (x:=nn) rfl (cx.ou 188) (cx.ou 189) (CtxV.mx cx (cx.init 2 _ rfl) rfl) (h0:=by kernel_rfl) (hx:=hkn) (hk:=show Program.underlying _ _= _ from by kernel_rfl)).trans (by rw[hmN];rfl)) ?_
  refine b8 #[vi 0,vi 0,sn] qW fun Bt SM MV=>?_
  refine aX (n:=3) 5 #[vi (((bq (aF S) r.eds) nn).1),vi (((bq (aF S) r.eds) nn).2.1),.slice pg.A (((bq (aF S) r.eds) nn).2.2.length) pg.c] MV fun SN MW=>?_
  refine aa (wq ?_)
  obtain⟨⟨hrw4,hrr4⟩,mb4,RA4,rc4,EA4,ec4,ib4,tb4,fpd4,hv229_⟩:=MW.u4.unf
  have hntl:=hokl.nt
  refine sqr (aq 10 hv229_ ?_)
  refine sqp [.k 192 (vp sb),.k 193 (po sb 4)] ?_
  refine aq 0 hv229_ ?_
  refine sqp [.k 195 (vi ((Sl.recs.length:Int))),.k 196 (po Bt 1)] ?_
  refine aX (n:=1) 14 #[vi (((bq (aF S) r.eds) nn).1),vi ((Sl.recs.length:Int)),.slice pg.A (((bq (aF S) r.eds) nn).2.2.length) pg.c] hv229_ fun SO m7=>?_
  refine aa (wq (wq (sqr (sqp [.m 197 7,.m 198 29] ?_))))
  refine sql (.agg #[vi ((aF S nn).1),vi ((aF S nn).2.1),.slice pgw.A ((aF S nn).2.2.length) pgw.c]) m7 (fun cx=>(cZ (e:=48) (C:=pgX) (K:=kcI) (x:=nn) rfl (cx.ou 197) (cx.ou 198) (CtxV.mx cx (cx.init 11 _ rfl) rfl) (h0:=by kernel_rfl) (hx:=hkn) (hk:=show Program.underlying _ _= _ from by kernel_rfl)).trans (by rw[hmW];rfl)) ?_
  refine sql (vi ((aF S nn).1)) m7 (fun cx=>lR rfl (cx.ou 199) (fun _=>by kernel_rfl)) ?_
  refine sqp [.k 201 (.bool (((aF S nn).1) != 0)),.m 202 201] ?_
  refine d3 202 [203,204,205] ?_ rfl (fun hq=>?_) ?_
  rotate_left
  refine sqp [.k 203 (vp Bt)] ?_
  refine aq 14 m7 ?_
  refine sqp [.k 205 (.bool ((((bq (aF S) r.eds) nn).1)==0))] ?_
  exact sqe
  refine c5 ?_
  refine sqp [sPa 206 (((aF S nn).1) != 0) ((((bq (aF S) r.eds) nn).1)==0)] ?_
  refine aa (wbs (fun uZ=>?_) fun uZ=>?_)
  have va:=uZ
  simp only[zB] at va
  obtain⟨Qg,Qh⟩:=va
  refine sqr (aq 10 m7 ?_)
  refine sqp [.k 208 (vp sb),.k 209 (po sb 7)] ?_
  refine aq 0 m7 ?_
  refine sqp [.m 211 29] ?_
  refine sqc (eMx kcI ecB Tryz.prog 3 tb4 ((mzP Sl.told nn Sl.nt)) (cj Sl.told nn (some false))) 8 m7 (by
    refine svA fun o d W X cx=>?_
    exact gC (e:=4) (v:=false) (.inl rfl) (cx.ou 210) (show o _=Kc.enc kcI nn from(cx.ou 211)) (show o _=Ec.enc ecB false from(cx.co _)) cx (cx.init 8 _ rfl) rfl (trivial) (by omega) (hkn) rfl rfl rfl (fun _ _ _ _ _=>id) (hk:=show Program.underlying _ _= _ from by kernel_rfl)) fun SP MX=>?_
  refine aa (wq ?_)
  obtain⟨fp254_,hk254_⟩:=St.stf (S:=(eH Sl nn false)) (MX) (hrw4) (hrr4)
  obtain⟨Sx,hSx⟩:∃z,(eH Sl nn false)=z:=⟨_,rfl⟩
  have hxi:(if (aF S nn).1≠0/\((bq (aF S) r.eds) nn).1=0 then eH Sl nn false else Sl)=Sx:=by rw[<-hSx];exact if_pos (by have h_:=uZ;simpa using h_)
  have hokx:SOk Sx (c+300+4*ii+1):=hSx ▸ hokl.told nn false
  have hxrec:Sx.recs=Sl.recs:=by cases hSx;rfl
  have hxrow:∀p∈Sl.rows,p∈Sx.rows:=fun p hp=>by rw[<-hSx];exact hp
  rw[show eSt sb db (eH Sl nn false)=eSt sb db Sx by rw[hSx]] at hk254_
  refine sqr (aq 1 hk254_ ?_)
  refine sqp [.m 213 29] ?_
  refine bI 5 3 hk254_ ?_
  refine oU (fun x_=>tZ x_) (fun X_=>X_.fp) (fun er215_258=>vi er215_258) (fun er215_258 zL=>eSx sb db (fun S2=>ei Sx nn (⟨(((bq (aF S) r.eds) nn).1,(Sl.recs.length:Int),((bq (aF S) r.eds) nn).2.2),pg.A,pg.c⟩:PgR) S2 er215_258) zL) 0 hk254_ (by
    refine svA fun o d W X cx=>?_
    refine am.call (au (args:=#[vp sb,vi nn,.agg #[vi (((bq (aF S) r.eds) nn).1),vi ((Sl.recs.length:Int)),.slice pg.A (((bq (aF S) r.eds) nn).2.2.length) pg.c]]) rfl cx.sees rfl (by kernel_rfl) (dL (cx.ou 212) (cx.ou 213) (cx.ou 214))) ?_
    refine(sU sb db Sx nn (⟨(((bq (aF S) r.eds) nn).1,(Sl.recs.length:Int),((bq (aF S) r.eds) nn).2.2),pg.A,pg.c⟩:PgR) (c+300+4*ii+1) _ _ (CtxV.holdF cx (cx.init 0 _ rfl) rfl) (CtxV.ltF cx (cx.init 0 _ rfl) rfl) hokx (by omega) hkn (hxrow _ (hrowl _ hgl))).mono ?_
    rintro e W1 ⟨er4,rfl,fp4,aT⟩
    refine⟨_,rfl,aK (E:=eSt sb db Sx fp254_) [eSx sb db (fun S2=>ei Sx nn (⟨(((bq (aF S) r.eds) nn).1,(Sl.recs.length:Int),((bq (aF S) r.eds) nn).2.2),pg.A,pg.c⟩:PgR) S2 er4) fp4] (cx.init 0 _ rfl) rfl rfl aT (fun t y X' hs hb hv hN=>?_)⟩
    have aJ:=(hv 215 rfl).1;have aV:=(hv 215 rfl).2
    exact⟨aJ.trans (by rw[aV];exact rfl),(by rw[aV];exact fS ((List.cons.inj hN).1))⟩) fun er215_258 zL SQ MY=>?_
  refine sqp [.m 31 215] ?_
  refine aa (wq ?_)
  obtain⟨S7,hP7,hy260_⟩:=MY.unx
  have hpl:(⟨(((bq (aF S) r.eds) nn).1,(Sl.recs.length:Int),((bq (aF S) r.eds) nn).2.2),pg.A,pg.c⟩:PgR).p=iC (eE S r) ((bq (aF S) r.eds) nn):=by show (_,_,_)=(_,_,_);rw[hlsl]
  have hri:=jO (fun n=>iP hok n) her9 nn
  have hok7:SOk S7 (c+300+4*(ii+1)):=(hokx.put (by rw[hpl];exact l0 hri (by have h1:=hokl.recs_len;omega)) hP7).mono (by omega)
  refine sqr (sqp [.m 216 31,.k 217 (.bool (er215_258 != 0))] ?_)
  refine aa (wbs (fun rI=>?_) fun rI=>?_)
  have MZ:=bne_iff_ne.1 rI
  refine wq (sqr (sqp [.m 218 31,.k 4 (vi 0),.m 5 218] ?_))
  refine aa (wp_ret (bb (ai (ai (bb (ai ?_))))))
  refine bpr (.tuple #[vi 0,vi er215_258]) (aO Tryz.results17 rpt rpt) ?_
  exact fP.of (by have h_:=DoQ.put (rt:=(⟨r,cG,cL⟩:RcT)) hda hin hevj ⟨_,hokj⟩ her9 hfit (by rw[<-hosF];exact hai) rfl he5 (by rw[hS5,<-hosF];exact hcon4 _ _ (by rw[hdr];exact PuA.bad hpl (by rw[hxi];exact hP7) (by simpa using rI)));rw[if_neg (by simpa using rI)] at h_;exact h_) (hok7.mono (by omega)) (hy260_.pick [0] (by decide) rfl)
  have MZ:=bne_eq_false_iff_eq.1 rI
  refine wp_skip (av (aa ?_))
  have hpu0:ei (if (aF S nn).1≠0/\((bq (aF S) r.eds) nn).1=0 then eH Sl nn false else Sl) nn (⟨(((bq (aF S) r.eds) nn).1,(Sl.recs.length:Int),((bq (aF S) r.eds) nn).2.2),pg.A,pg.c⟩:PgR) S7 0:=by rw[hxi];exact xE hP7 (by simpa using rI)
  refine sqr (sqp [sI 219 ((ii:Int)+1) (by omega),.m 184 219] ?_)
  refine aa ?_
  refine⟨m-((ii+1)),by omega,?_⟩
  exact⟨(ii+1),S7,zL,by omega,fun S9 er h=>hcon4 S9 er (by rw[hdr];exact PuA.cons hpl hpu0 h),hok7,by rw[hP7.rr.2.1,hxrec];exact hrecl,fun p hp=>hP7.rows p (hxrow p (hrowl p hp)),rfl,(by kernel_rfl),hy260_.pk [1,2,3,4,0]⟩
  have va:=uZ
  simp only[zB] at va
  refine wp_skip (aa (wq ?_))
  obtain⟨fp269_,hk269_⟩:=St.stf (S:=Sl) (m7) (hrw4) (hrr4)
  obtain⟨Sx,hSx⟩:∃z,Sl=z:=⟨_,rfl⟩
  have hxi:(if (aF S nn).1≠0/\((bq (aF S) r.eds) nn).1=0 then eH Sl nn false else Sl)=Sx:=by rw[<-hSx];exact if_neg (by have h_:=uZ;simpa using h_)
  have hokx:SOk Sx (c+300+4*ii+1):=hSx ▸ hokl.mono (by omega)
  have hxrec:Sx.recs=Sl.recs:=by cases hSx;rfl
  have hxrow:∀p∈Sl.rows,p∈Sx.rows:=fun p hp=>by rw[<-hSx];exact hp
  rw[show eSt sb db Sl=eSt sb db Sx by rw[hSx]] at hk269_
  refine sqr (aq 1 hk269_ ?_)
  refine sqp [.m 213 29] ?_
  refine bI 5 3 hk269_ ?_
  refine oU (fun x_=>tZ x_) (fun X_=>X_.fp) (fun er215_273=>vi er215_273) (fun er215_273 zM=>eSx sb db (fun S2=>ei Sx nn (⟨(((bq (aF S) r.eds) nn).1,(Sl.recs.length:Int),((bq (aF S) r.eds) nn).2.2),pg.A,pg.c⟩:PgR) S2 er215_273) zM) 0 hk269_ (by
    refine svA fun o d W X cx=>?_
    refine am.call (au (args:=#[vp sb,vi nn,.agg #[vi (((bq (aF S) r.eds) nn).1),vi ((Sl.recs.length:Int)),.slice pg.A (((bq (aF S) r.eds) nn).2.2.length) pg.c]]) rfl cx.sees rfl (by kernel_rfl) (dL (cx.ou 212) (cx.ou 213) (cx.ou 214))) ?_
    refine(sU sb db Sx nn (⟨(((bq (aF S) r.eds) nn).1,(Sl.recs.length:Int),((bq (aF S) r.eds) nn).2.2),pg.A,pg.c⟩:PgR) (c+300+4*ii+1) _ _ (CtxV.holdF cx (cx.init 0 _ rfl) rfl) (CtxV.ltF cx (cx.init 0 _ rfl) rfl) hokx (by omega) hkn (hxrow _ (hrowl _ hgl))).mono ?_
    rintro e W1 ⟨er4,rfl,fp4,aT⟩
    refine⟨_,rfl,aK (E:=eSt sb db Sx fp269_) [eSx sb db (fun S2=>ei Sx nn (⟨(((bq (aF S) r.eds) nn).1,(Sl.recs.length:Int),((bq (aF S) r.eds) nn).2.2),pg.A,pg.c⟩:PgR) S2 er4) fp4] (cx.init 0 _ rfl) rfl rfl aT (fun t y X' hs hb hv hN=>?_)⟩
    have aJ:=(hv 215 rfl).1;have aV:=(hv 215 rfl).2
    exact⟨aJ.trans (by rw[aV];exact rfl),(by rw[aV];exact fS ((List.cons.inj hN).1))⟩) fun er215_273 zM SR M0=>?_
  refine sqp [.m 31 215] ?_
  refine aa (wq ?_)
  obtain⟨S7,hP7,hy275_⟩:=M0.unx
  have hpl:(⟨(((bq (aF S) r.eds) nn).1,(Sl.recs.length:Int),((bq (aF S) r.eds) nn).2.2),pg.A,pg.c⟩:PgR).p=iC (eE S r) ((bq (aF S) r.eds) nn):=by show (_,_,_)=(_,_,_);rw[hlsl]
  have hri:=jO (fun n=>iP hok n) her9 nn
  have hok7:SOk S7 (c+300+4*(ii+1)):=(hokx.put (by rw[hpl];exact l0 hri (by have h1:=hokl.recs_len;omega)) hP7).mono (by omega)
  refine sqr (sqp [.m 216 31,.k 217 (.bool (er215_273 != 0))] ?_)
  refine aa (wbs (fun rJ=>?_) fun rJ=>?_)
  have M1:=bne_iff_ne.1 rJ
  refine wq (sqr (sqp [.m 218 31,.k 4 (vi 0),.m 5 218] ?_))
  refine aa (wp_ret (bb (ai (ai (bb (ai ?_))))))
  refine bpr (.tuple #[vi 0,vi er215_273]) (aO Tryz.results17 rpt rpt) ?_
  exact fP.of (by have h_:=DoQ.put (rt:=(⟨r,cG,cL⟩:RcT)) hda hin hevj ⟨_,hokj⟩ her9 hfit (by rw[<-hosF];exact hai) rfl he5 (by rw[hS5,<-hosF];exact hcon4 _ _ (by rw[hdr];exact PuA.bad hpl (by rw[hxi];exact hP7) (by simpa using rJ)));rw[if_neg (by simpa using rJ)] at h_;exact h_) (hok7.mono (by omega)) (hy275_.pick [0] (by decide) rfl)
  have M1:=bne_eq_false_iff_eq.1 rJ
  refine wp_skip (av (aa ?_))
  have hpu0:ei (if (aF S nn).1≠0/\((bq (aF S) r.eds) nn).1=0 then eH Sl nn false else Sl) nn (⟨(((bq (aF S) r.eds) nn).1,(Sl.recs.length:Int),((bq (aF S) r.eds) nn).2.2),pg.A,pg.c⟩:PgR) S7 0:=by rw[hxi];exact xE hP7 (by simpa using rJ)
  refine sqr (sqp [sI 219 ((ii:Int)+1) (by omega),.m 184 219] ?_)
  refine aa ?_
  refine⟨m-((ii+1)),by omega,?_⟩
  exact⟨(ii+1),S7,zM,by omega,fun S9 er h=>hcon4 S9 er (by rw[hdr];exact PuA.cons hpl hpu0 h),hok7,by rw[hP7.rr.2.1,hxrec];exact hrecl,fun p hp=>hP7.rows p (hxrow p (hrowl p hp)),rfl,(by kernel_rfl),hy275_.pk [1,2,3,4,0]⟩
 refine wp_exit (al (al (bf (aa (wq ?_)))))
 obtain⟨⟨hrw5,hrr5⟩,mb5,RA5,rc5,EA5,ec5,ib5,tb5,fpd5,hv284_⟩:=qW.u4.unf
 refine sqr (aq 10 hv284_ ?_)
 refine sqp [.k 221 (vp sb),.k 222 (po sb 4)] ?_
 refine aq 0 hv284_ ?_
 refine sqp [.k 224 (vi ((Sl.recs.length:Int))),.m 4 224,.k 5 (vi 0)] ?_
 refine aa (wp_ret ?_)
 refine bpr (.tuple #[vi ((Sl.recs.length:Int)),vi 0]) (aO Tryz.results17 rpt rpt) ?_
 obtain⟨fp292_,hk292_⟩:=St.stf (S:=Sl) (hv284_) (hrw5) (hrr5)
 exact fP.of (by have h_:=DoQ.put (rt:=(⟨r,cG,cL⟩:RcT)) hda hin hevj ⟨_,hokj⟩ her9 hfit (by rw[<-hosF];exact hai) rfl he5 (by rw[hS5,<-hosF];exact hcon4 _ _ (by rw[List.drop_of_length_le (by omega)];exact PuA.nil _));rw[if_pos rfl,<-hlsn,<-hrecl] at h_;exact h_) (hokl.mono (by omega)) (hk292_.pick [0] (by decide) rfl)
end
section
open Go.RowKit Go.Maps Go.ChangeMaps
def kz(x:Int×Nat):Ent:=eB x.2 3 #[.int .i64 x.1]
theorem LJ(h:(eA (l.map kz)).holds W)(hx:x∈l):Blk W x.2 3 #[.int .i64 x.1]:=(h.1 (kz x) (List.mem_map.2 ⟨x,hx,rfl⟩)).1
theorem St.addN{L:List Ent}(h:St w0 bor (L++[eA (l.map kz),kz x]) W):St w0 bor (L++[eA ((x::l).map kz)]) W:=by
 rw[List.map_cons]
 exact St.inA (A:=[]) h
theorem St.anf{L:List Ent}(h:St w0 bor (eA (List.map kz l)::kz x::L) W):St w0 bor (eA (List.map kz (x::l))::L) W:=St.fr (R:=[_,_]) h St.addN
def clV(q:Nat)(x:Int×Nat):Value:= .func (.func 71) #[] #[.pointer (some ⟨q,0,none⟩),.pointer (some ⟨x.2,0,none⟩)]
inductive ClA:StM->List Int->StM->Int->Prop where
 |nil (S:StM):ClA S [] S 0
 |bad {S:StM}{t:BfT}{l:List Int}(ht:t∈S.pool) (he:(aL S t).2≠0):ClA S (t.n::l) (aL S t).1 (aL S t).2
 |cons {S S2:StM}{t:BfT}{l:List Int}{er:Int}(ht:t∈S.pool) (he:(aL S t).2=0) (hr:ClA (aL S t).1 l S2 er):ClA S (t.n::l) S2 er
def dX(S:StM)(D:DkM):StM:={S with D:=D}
def ckE(S:StM):StM:={S with frm:=(S.recs.length:Int),ni:=0,im:=fun _=>none}
inductive CkQ (S:StM) (note:ByteArray):StM->Int->Prop where
 |arg (h:60000<note.size):CkQ S note S 1
 |full {q:List RcT}(h:note.size<=60000) (hf:1048576<S.D.log.size+(aC (aI note)).size):CkQ S note {S with rr:=q} 31
 |cl {q:List RcT}{ns:List Int}{S1:StM}{er:Int}(h:note.size<=60000) (hf:S.D.log.size+(aC (aI note)).size<=1048576) (hns:∀n,n∈ns<->∃t∈S.pool,t.n=n) (hc:ClA {S with rr:=q} ns S1 er) (he:er≠0):CkQ S note S1 er
 |sync {q:List RcT}{ns:List Int}{S1:StM}(h:note.size<=60000) (hf:S.D.log.size+(aC (aI note)).size<=1048576) (hns:∀n,n∈ns<->∃t∈S.pool,t.n=n) (hc:ClA {S with rr:=q} ns S1 0) (he:(opD S1.D 0 syD).2≠0):CkQ S note (dX S1 (opD S1.D 0 syD).1) (opD S1.D 0 syD).2
 |app {q:List RcT}{ns:List Int}{S1:StM}(h:note.size<=60000) (hf:S.D.log.size+(aC (aI note)).size<=1048576) (hns:∀n,n∈ns<->∃t∈S.pool,t.n=n) (hc:ClA {S with rr:=q} ns S1 0) (h1:(opD S1.D 0 syD).2=0)
   (he:(bz (dX S1 (opD S1.D 0 syD).1) (rcI (aI note))).2≠0):CkQ S note (bz (dX S1 (opD S1.D 0 syD).1) (rcI (aI note))).1 (bz (dX S1 (opD S1.D 0 syD).1) (rcI (aI note))).2
 |flush {q:List RcT}{ns:List Int}{S1 S2:StM}(h:note.size<=60000) (hf:S.D.log.size+(aC (aI note)).size<=1048576) (hns:∀n,n∈ns<->∃t∈S.pool,t.n=n) (hc:ClA {S with rr:=q} ns S1 0) (h1:(opD S1.D 0 syD).2=0)
   (h2:bz (dX S1 (opD S1.D 0 syD).1) (rcI (aI note))=(S2,0)) (he:(opD S2.D 0 flD).2≠0):CkQ S note (dX S2 (opD S2.D 0 flD).1) (opD S2.D 0 flD).2
 |ok {q:List RcT}{ns:List Int}{S1 S2:StM}(h:note.size<=60000) (hf:S.D.log.size+(aC (aI note)).size<=1048576) (hns:∀n,n∈ns<->∃t∈S.pool,t.n=n) (hc:ClA {S with rr:=q} ns S1 0) (h1:(opD S1.D 0 syD).2=0)
   (h2:bz (dX S1 (opD S1.D 0 syD).1) (rcI (aI note))=(S2,0)) (he:(opD S2.D 0 flD).2=0):CkQ S note (ckE (dX S2 (opD S2.D 0 flD).1)) 0
theorem Ai(q2 q5 sb db:Nat)(S:StM)(rt:RcT)(c:Nat)(fp:List Nat)(w:World)(hB:(eSt sb db S fp).holds w)(hlt:∀k∈fp,k<w.heap.size)(h2:Blk w q2 31 #[po sb 0])(n2:q2∉fp)(n5:q5∉fp)(h5:Blk w q5 27 #[.int .i64 rt.r.kind,.int .i64 rt.r.xid,.int .i64 rt.r.tbl,sn,sn,.slice rt.A rt.r.eds.length rt.c,sn,.string rt.r.note])(hok:SOk S c)(hr:bC rt.r=true)(hrt:rt∈S.rr):
  Calls Tryz.prog 70 #[po q2 0,po q5 0] w (d5 sb db (bz S rt) fp w):=by
 have st1:St w fp [eSt sb db S fp] w:=St.lend hB (dv _ _ _ _) hlt
 go_enter Tryz.func70,Tryz.ntmps70
 have aj:=st1
 refine wq (sqr (sqp [.k 2 (vi 0)] ?_))
 refine aa (wq (sqr ?_))
 refine sql (vp sb) aj (fun cx=>ae rfl (by kernel_rfl) (cx.ou 0) (Blk.cell (h2.upd cx.upd n2) 0)) ?_
 refine sql (.agg #[vi rt.r.kind,vi rt.r.xid,vi rt.r.tbl,sn,sn,.slice rt.A rt.r.eds.length rt.c,sn,.string rt.r.note]) aj (fun cx=>ce (n:=8) rfl (by kernel_rfl) (by kernel_rfl) (cx.ou 1) (h5.upd cx.upd n5) (nle rfl) rfl) ?_
 refine bM (fun X_=>X_.fp) (vi ((bz S rt).2)) (fun zN=>eSt sb db ((bz S rt).1) zN) 0 aj (by
   refine svA fun h d W X cx=>?_
   refine am.call (au (args:=#[vp sb,.agg #[vi rt.r.kind,vi rt.r.xid,vi rt.r.tbl,sn,sn,.slice rt.A rt.r.eds.length rt.c,sn,.string rt.r.note]]) rfl cx.sees rfl (by kernel_rfl) (aM (cx.ou 3) (cx.ou 4))) ?_
   refine(nD sb db S rt c _ _ (CtxV.holdF cx (cx.init 0 _ rfl) rfl) (CtxV.ltF cx (cx.init 0 _ rfl) rfl) hok hr hrt).mono ?_
   rintro e W1 ⟨rfl,fp4,aT⟩
   refine⟨_,rfl,aK (E:=eSt sb db S fp) [eSt sb db (bz S rt).1 fp4] (cx.init 0 _ rfl) rfl rfl aT (fun f g X' hs hb hv hN=>?_)⟩
   have aJ:=(hv 5 rfl).1;have aV:=(hv 5 rfl).2
   exact⟨aJ.trans rfl,gX ((List.cons.inj hN).1)⟩) fun zN W4 bc=>?_
 refine sqp [.m 2 5] ?_
 refine aa (wp_ret ?_)
 refine bpr (vi ((bz S rt).2)) (ag Tryz.results70 rpt) ?_
 exact d5.of (R':=(bz S rt)) rfl (bc.pick [0] (by decide) rfl)
theorem Au(q2 q7 sb db:Nat)(S:StM)(A B:List BfT)(t:BfT)(c:Nat)(fp:List Nat)(w:World)(hB:(eSt sb db S fp).holds w)(hlt:∀k∈fp,k<w.heap.size)(h2:Blk w q2 31 #[po sb 0])(n2:q2∉fp)(n7:q7∉fp)(h7:Blk w q7 3 #[.int .i64 t.n])(hok:SOk S c)(hc:c<=900000000)(hAB:S.pool=A++t::B):
  Calls Tryz.prog 71 #[po q2 0,po q7 0] w (d5 sb db (aL S t) fp w):=by
 have st1:St w fp [eSt sb db S fp] w:=St.lend hB (dv _ _ _ _) hlt
 go_enter Tryz.func71,Tryz.ntmps71
 have aj:=st1
 refine wq (sqr (sqp [.k 2 (vi 0)] ?_))
 refine aa (wq (sqr ?_))
 refine sql (vp sb) aj (fun cx=>ae rfl (by kernel_rfl) (cx.ou 0) (Blk.cell (h2.upd cx.upd n2) 0)) ?_
 refine sql (vi t.n) aj (fun cx=>ae rfl (by kernel_rfl) (cx.ou 1) (Blk.cell (h7.upd cx.upd n7) 0)) ?_
 refine bM (fun X_=>X_.fp) (vi ((aL S t).2)) (fun zN=>eSt sb db ((aL S t).1) zN) 0 aj (by
   refine svA fun h d W X cx=>?_
   refine am.call (au (args:=#[vp sb,vi t.n]) rfl cx.sees rfl (by kernel_rfl) (aM (cx.ou 3) (cx.ou 4))) ?_
   refine(tL sb db S A B t c _ _ (CtxV.holdF cx (cx.init 0 _ rfl) rfl) (CtxV.ltF cx (cx.init 0 _ rfl) rfl) hok hc hAB).mono ?_
   rintro e W1 ⟨rfl,fp4,aT⟩
   refine⟨_,rfl,aK (E:=eSt sb db S fp) [eSt sb db (aL S t).1 fp4] (cx.init 0 _ rfl) rfl rfl aT (fun f g X' hs hb hv hN=>?_)⟩
   have aJ:=(hv 5 rfl).1;have aV:=(hv 5 rfl).2
   exact⟨aJ.trans rfl,gX ((List.cons.inj hN).1)⟩) fun zN W4 bc=>?_
 refine sqp [.m 2 5] ?_
 refine aa (wp_ret ?_)
 refine bpr (vi ((aL S t).2)) (ag Tryz.results71 rpt) ?_
 exact d5.of (R':=(aL S t)) rfl (bc.pick [0] (by decide) rfl)
end
section
open Go.RowKit Go.Maps Go.ChangeMaps
theorem CtxV.apF{ops:Array Oper}{L:List Nat}{a0:Act}{X0:List Ent}{us:List (List Nat)}{D:Nat->(Tmp->Value)->(Tmp->Value)->(Nat->Ent)->Prop}{f:Operand->Value}{d:Tmp->Value}{X:Nat->Ent}{q q':Nat}{E F:Ent}(cx:CtxV ops L a0 w0 bor X0 us D i f d W X)(hX:X q=E)(hX':X q'=F)(hk:k∈E.fp)(hu:(atV us i).contains q=true)(hu':(atV us i).contains q'=true)(hne:q≠q'):k∉F.fp:=by
 subst hX hX'
 exact cx.ap q q' hu hu' hne k hk
theorem xg(b:Nat)(t:TypeId)(c:Array Value):b∈(eB b t c).fp:=List.mem_singleton.2 rfl
theorem NC(h:x∈l):x.2∈(eA (l.map kz)).fp:=List.mem_flatMap.2 ⟨kz x,List.mem_map.2 ⟨x,h,rfl⟩,xg _ _ _⟩
def ckT(q2 q5 db:Nat):List Value:=[.func (.func 69) #[.pointer (some ⟨db,0,none⟩)] #[],.func (.func 70) #[] #[.pointer (some ⟨q2,0,none⟩),.pointer (some ⟨q5,0,none⟩)],.func (.func 63) #[.pointer (some ⟨db,0,none⟩)] #[]]
def lF(q2 q5 db:Nat)(bs:List (Int×Nat)):List Value:=bs.map (clV q2)++ckT q2 q5 db
theorem od(q2 q5 db:Nat)(bs:List (Int×Nat)):(lF q2 q5 db bs).length=bs.length+3:=by simp[lF,ckT]
theorem KB(q2 q5 db:Nat)(bs:List (Int×Nat)):∀u∈lF q2 q5 db bs,u.oneCell'=true:=fun u hu=>by
 rcases List.mem_append.1 hu with h|h
 obtain⟨x,_,rfl⟩:=List.mem_map.1 h;rfl
 simp only[ckT,List.mem_cons,List.not_mem_nil,or_false] at h
 rcases h with rfl|rfl|rfl<;>rfl
theorem K5{q2 q5:Nat}(h:bs[i]? =some x):(lF q2 q5 db bs)[i]? =some (clV q2 x):=by
 obtain⟨hi,rfl⟩:=List.getElem?_eq_some_iff.1 h
 rw[lF,List.getElem?_append_left (by simpa using hi),List.getElem?_map,List.getElem?_eq_getElem hi];rfl
theorem Cv{q2 q5:Nat}(h:i=bs.length+j):(lF q2 q5 db bs)[i]? =(ckT q2 q5 db)[j]? :=by
 subst h
 rw[lF,List.getElem?_append_right (by simp)];simp
theorem KG{l A B:List BfT}{t:BfT}{n:Int}(hd:(l.map BfT.n).Nodup)(h:l=A++t::B)(hn:t.n=n):atM l n=some (some t.blk):=by
 subst h hn;exact lk hd
theorem Kk{l:List BfT}{n:Nat}(h:∀x,x∈bs.map Prod.fst<->(∃t∈l,t.n=x)/\x<(n:Int)){t:BfT}(ht:t∈l)(hn:t.n=(n:Int))(b:Nat):∀x,x∈(((n:Int),b)::bs).map Prod.fst<->(∃t∈l,t.n=x)/\x<((n+1:Nat):Int):=fun x=>by
 rw[List.map_cons,List.mem_cons,h x]
 constructor
 rintro(rfl|⟨h1,h2⟩)
 exact⟨⟨t,ht,hn⟩,by omega⟩
 exact⟨h1,by omega⟩
 rintro⟨h1,h2⟩
 by_cases e:x=(n:Int)
 exact .inl e
 exact .inr ⟨h1,by omega⟩
theorem KF{l:List BfT}{n:Nat}(h:∀x,x∈bs.map Prod.fst<->(∃t∈l,t.n=x)/\x<(n:Int))(hno:∀t∈l,t.n≠(n:Int)):∀x,x∈bs.map Prod.fst<->(∃t∈l,t.n=x)/\x<((n+1:Nat):Int):=fun x=>by
 rw[h x]
 constructor
 rintro⟨h1,h2⟩;exact⟨h1,by omega⟩
 rintro⟨⟨t,h1,h3⟩,h2⟩
 refine⟨⟨t,h1,h3⟩,?_⟩
 have:=hno t h1
 omega
def CkI(S0:StM)(ns:List Int)(note:ByteArray)(i:Nat)(Si:StM):Prop:=
 (i<=ns.length/\∀S2 er,ClA Si (ns.drop i) S2 er->ClA S0 ns S2 er)\/
 (i=ns.length+1/\∃S1,ClA S0 ns S1 0/\(opD S1.D 0 syD).2=0/\Si=dX S1 (opD S1.D 0 syD).1)\/
 (i=ns.length+2/\∃S1,ClA S0 ns S1 0/\(opD S1.D 0 syD).2=0/\bz (dX S1 (opD S1.D 0 syD).1) (rcI (aI note))=(Si,0))\/
 (i=ns.length+3/\∃S1 S2,ClA S0 ns S1 0/\(opD S1.D 0 syD).2=0/\bz (dX S1 (opD S1.D 0 syD).1) (rcI (aI note))=(S2,0)/\(opD S2.D 0 flD).2=0/\Si=dX S2 (opD S2.D 0 flD).1)
theorem CkI.ways{S0 Si:StM}{ns:List Int}(h:CkI S0 ns note i Si):
  (i<ns.length/\∀S2 er,ClA Si (ns.drop i) S2 er->ClA S0 ns S2 er)\/(i=ns.length+0/\ClA S0 ns Si 0)\/
  (i=ns.length+1/\∃S1,ClA S0 ns S1 0/\(opD S1.D 0 syD).2=0/\Si=dX S1 (opD S1.D 0 syD).1)\/
  (i=ns.length+2/\∃S1,ClA S0 ns S1 0/\(opD S1.D 0 syD).2=0/\bz (dX S1 (opD S1.D 0 syD).1) (rcI (aI note))=(Si,0))\/
  (i=ns.length+3/\∃S1 S2,ClA S0 ns S1 0/\(opD S1.D 0 syD).2=0/\bz (dX S1 (opD S1.D 0 syD).1) (rcI (aI note))=(S2,0)/\(opD S2.D 0 flD).2=0/\Si=dX S2 (opD S2.D 0 flD).1):=by
 rcases h with ⟨h1,h2⟩|h|h|h
 rcases Nat.lt_or_ge i ns.length with h3|h3
 exact .inl ⟨h3,h2⟩
 exact .inr (.inl ⟨by omega,h2 _ _ (by rw[List.drop_of_length_le h3];exact .nil _)⟩)
 exact .inr (.inr (.inl h))
 exact .inr (.inr (.inr (.inl h)))
 exact .inr (.inr (.inr (.inr h)))
theorem tr(S:StM)(t:BfT):(aL S t).1.pool.map BfT.n=S.pool.map BfT.n/\(aL S t).1.rr=S.rr/\(aL S t).1.recs=S.recs:=by
 have hs:∀(l:List BfT) (n:Int),(da l n clB).map BfT.n=l.map BfT.n:=fun l n=>by
  rw[da,List.map_map]
  refine List.map_congr_left fun u _=>?_
  show (if u.n=n then clB u else u).n=u.n
  split<;>rfl
 unfold aL
 split
 unfold bN
 split
 exact⟨rfl,rfl,rfl⟩
 refine⟨?_,rfl,rfl⟩
 show (if _ then da S.pool t.n clB else S.pool).map BfT.n= _
 split
 exact hs _ _
 rfl
 exact⟨rfl,rfl,rfl⟩
theorem SOk.sync(h:SOk S c):SOk (dX S (opD S.D 0 syD).1) (c+0):=by
 have hsh:∀n,shP (opD S.D 0 syD).1 n=shP S.D n:=fun n=>cY (P:=fun D'=>shP D' n=shP S.D n) rfl rfl fun _=>by
  show rdP (rdT ((S.D.pgs.map syS).getD n.toNat gL)).1= _
  have e:(S.D.pgs.map syS).getD n.toNat gL=syS (S.D.pgs.getD n.toNat gL):=by
   rw[List.getD,List.getD,List.getElem?_map]
   cases S.D.pgs[n.toNat]? <;>rfl
  rw[e];rfl
 have hws:∀x∈(opD S.D 0 syD).1.pgs,x.ws.length<=c:=cY (P:=fun D'=>∀x∈D'.pgs,x.ws.length<=c) h.ws h.ws fun _ x hx=>by
  obtain⟨y,_,rfl⟩:=List.mem_map.1 hx
  exact Nat.zero_le _
 have hl:(opD S.D 0 syD).1.pgs.length=S.D.pgs.length:=cY (P:=fun D'=>D'.pgs.length=S.D.pgs.length) rfl rfl fun _=>List.length_map ..
 have hlog:(opD S.D 0 syD).1.log=S.D.log:=cY (P:=fun D'=>D'.log=S.D.log) rfl rfl fun _=>rfl
 have hfl:(opD S.D 0 syD).1.fl=S.D.fl:=cY (P:=fun D'=>D'.fl=S.D.fl) rfl rfl fun _=>rfl
 exact⟨h.bufs,by show (opD S.D 0 syD).1.pgs.length<=400;rw[hl];exact h.pgs,hws,h.time,h.ni,h.nt,h.right,h.nodup,h.len,fun t ht=>by show 0<=t.n/\t.n<((opD S.D 0 syD).1.pgs.length:Int);rw[hl];exact h.keys t ht,h.recs,by show (opD S.D 0 syD).1.log= _;rw[hlog];exact h.log,by show (opD S.D 0 syD).1.log.size<= _;rw[hlog];exact h.lsz,by show (opD S.D 0 syD).1.fl<=(opD S.D 0 syD).1.log.size;rw[hlog,hfl];exact h.fl,fun t ht hd=>by show _=shP (opD S.D 0 syD).1 t.n;rw[hsh];exact h.cl t ht hd⟩
theorem SOk.ckE(h:SOk S c):SOk (ckE S) c:=⟨h.bufs,h.pgs,h.ws,h.time,Nat.zero_le _,h.nt,h.right,h.nodup,h.len,h.keys,h.recs,h.log,h.lsz,h.fl,h.cl⟩
theorem SOk.flush(h:SOk S c):SOk (dX S (opD S.D 0 flD).1) c:=by
 have hp:(opD S.D 0 flD).1.pgs=S.D.pgs:=cY (P:=fun D'=>D'.pgs=S.D.pgs) rfl rfl fun _=>rfl
 have hlog:(opD S.D 0 flD).1.log=S.D.log:=cY (P:=fun D'=>D'.log=S.D.log) rfl rfl fun _=>rfl
 have hfl:(opD S.D 0 flD).1.fl<=S.D.log.size:=cY (P:=fun D'=>D'.fl<=S.D.log.size) h.fl h.fl fun _=>Nat.le_refl _
 exact⟨h.bufs,by show (opD S.D 0 flD).1.pgs.length<=400;rw[hp];exact h.pgs,by show ∀x∈(opD S.D 0 flD).1.pgs,_;rw[hp];exact h.ws,h.time,h.ni,h.nt,h.right,h.nodup,h.len,fun t ht=>by show 0<=t.n/\t.n<((opD S.D 0 flD).1.pgs.length:Int);rw[hp];exact h.keys t ht,h.recs,by show (opD S.D 0 flD).1.log= _;rw[hlog];exact h.log,by show (opD S.D 0 flD).1.log.size<= _;rw[hlog];exact h.lsz,by show (opD S.D 0 flD).1.fl<=(opD S.D 0 flD).1.log.size;rw[hlog];exact hfl,fun t ht hd=>by show _=shP (opD S.D 0 flD).1 t.n;rw[hH hp];exact h.cl t ht hd⟩
theorem G6{l l':List BfT}(h:l.map BfT.n=l'.map BfT.n){n:Int}(hn:∃t∈l',t.n=n):∃t∈l,t.n=n:=by
 obtain⟨t,ht,e⟩:=hn
 have h1:n∈l.map BfT.n:=by rw[h];exact List.mem_map.2 ⟨t,ht,e⟩
 exact List.mem_map.1 h1
theorem EK{rt:RcT}(h:(bz S rt).2=0)(h2:(bz S rt).1=S2):bz S rt=(S2,0):=Prod.ext h2 h
def js(sb db:Nat)(S:StM)(note:ByteArray)(c:Nat)(fp:List Nat)(w:World)(e:Ending)(w':World):Prop:=∃er,e= .returned (.int .i64 er)/\∃fp',St w fp [eSx sb db (fun S2=>CkQ S note S2 er/\SOk S2 (c+500)) fp'] w'
theorem js.of{w:World}(h:CkQ S note S2 er)(ho:SOk S2 (c+500))(hs:St w fp ([]++[eSt sb db S2 fp']) w'):js sb db S note c fp w (.returned (.int .i64 er)) w':=⟨er,rfl,fp',St.sx (L:=[]) hs ⟨h,ho⟩⟩
end
section
open Go.RowKit Go.Maps Go.ChangeMaps
theorem Tryz.infoFnJ:(Tryz.prog.info? 52).map (fun i=>(i.zero,i.size,i.bytes))=some (some Value.nilFunc,1,8):=by kernel_rfl
theorem BJ(sb db:Nat)(S:StM)(note:ByteArray)(c:Nat)(fp:List Nat)(w:World)(hB:(eSt sb db S fp).holds w)(hlt:∀k∈fp,k<w.heap.size)(hok:SOk S c)(hc:c<=800000)(hns:note.size<=9000000):
  Calls Tryz.prog 28 #[po sb 0,.string note] w (js sb db S note c fp w):=by
 have st1:St w fp [eSt sb db S fp] w:=St.lend hB (dv _ _ _ _) hlt
 have hpg:=hok.pgs
 go_enter Tryz.func28,Tryz.ntmps28
 have aj:=st1
 refine wq (sqr ?_)
 refine b9 #[vp sb] aj fun br W1 ay=>?_
 refine sqp [.k 4 (vi 0)] ?_
 refine aa (wq (wq (sqr (aq 1 ay ?_))))
 refine sqv (.bool false) ay (by
   exact sv0 rfl rfl rfl rfl rfl (fun _ _ _ h=>h) fun g o W X cx=>by
    have Ic:g (.tmp 11)=vp sb:=(cx.ou 11)
    simp[go_sem,cx.sees.const,Ic]) fun W4 bc=>?_
 refine sqp [.k 13 (.bool false)] ?_
 refine c7 13 [14,15,16] rfl rfl ?_
 refine sqp [.m 14 1,.k 15 (vi ((note.size:Int))),.k 16 (.bool (decide (60000<(note.size:Int))))] ?_
 refine sqp [.k 17 (.bool (decide (60000<(note.size:Int))))] ?_
 refine aa (wds (fun kE pC=>?_) fun kE pC=>?_)
 refine wq (sqr (sqp [.k 4 (vi 1)] ?_))
 refine aa (wp_ret (ai ?_))
 refine bpr (vi 1) (ag Tryz.results28 rpt) ?_
 exact js.of (.arg (by have h_:=kE;simp at h_;omega)) (hok.mono (by omega)) (bc.pick [0] (by decide) rfl)
 refine wp_skip (aa (wq ?_))
 have hn6:note.size<=60000:=by have h_:=kE;simp at h_;omega
 have hfs:=eU (dA hn6)
 have hn12:=fi bc 84 3
 simp only[List.cons_append,List.nil_append] at hn12
 obtain⟨S0,fp13_,hS0,hg13_⟩:=St.rRn (r:=(rcI (aI note))) hn12.u2
 have hok0:SOk S0 c:=hS0 ▸ hok.rr _
 have hrt0:(rcI (aI note))∈S0.rr:=by rw[<-hS0];exact List.mem_append_right _ (List.mem_singleton.2 rfl)
 have hD0:S0.D=S.D:=by rw[<-hS0]
 have hP0:S0.pool=S.pool:=by rw[<-hS0]
 have hlz:=hok0.lsz
 have hpg0:=hok0.pgs
 refine sqr (sqp [.m 18 1,.k 19 (.agg #[vi 9,vi 0,vi 0,sn,sn,sn,sn,.string note])] ?_)
 refine b8 #[vi 0,vi 0,vi 0,sn,sn,sn,sn,.string ByteArray.empty] hg13_ fun hG qH dw=>?_
 refine aX (n:=8) 2 #[vi 9,vi 0,vi 0,sn,sn,sn,sn,.string note] dw fun ux dQ=>?_
 refine aa (wq (wq ?_))
 obtain⟨⟨hrw1,hrr1⟩,mb1,RA1,rc1,EA1,ec1,ib1,tb1,fpd1,hv18_⟩:=dQ.unf
 refine bP [0,1,3,7,15,31,0,95,223,511,1023] [[10],[],[],[0],[9],[],[11]] [.c 20 (vp sb),.k 21 (vp sb),.k 22 (vp sb),.c 23 (vp db),.c 24 (.string S0.D.log),.k 25 (vi ((S0.D.log.size:Int))),.c 26 (.agg #[vi 9,vi 0,vi 0,sn,sn,sn,sn,.string note]),.c 27 (.string (aC (aI note))),.k 28 (vi (((aC (aI note)).size:Int))),tI 29 ((S0.D.log.size:Int)+((aC (aI note)).size:Int)) (by omega),.k 30 (.bool (decide (1048576<(S0.D.log.size:Int)+((aC (aI note)).size:Int))))] [0,1,2,3,4,5,6,7,8,9,10,11] [0,3,4,6,7] [(20,0,11,31)] hv18_ ?_ fun r9 dd=>?_
 refine⟨?_,?_,?_,?_,?_,trivial⟩
 exact xs4 rfl id fun cx=>ae rfl (by kernel_rfl) (cx.ou 2) ((cx.bi 10 rfl).cell 0)
 exact xs4 rfl id fun cx=>ae rfl (by kernel_rfl) (cx.an 2) ((cx.bi 0 rfl).cell 0)
 exact xsc rfl id rfl rfl fun cx=>⟨_,kA db S0.D _ (fc (CtxV.holdF cx (cx.init 9 _ rfl) rfl)),(ax (cx.an 3))⟩
 exact xs4 rfl id fun cx=>ce (n:=8) rfl (by kernel_rfl) (by kernel_rfl) (cx.ou 5) (cx.bi 11 rfl) (nle rfl) rfl
 exact xsc rfl id rfl rfl fun cx=>⟨_,j6 9 0 0 none 0 [] note _ (fun j u h=>by cases j<;>cases h) (by decide) (fun e he=>by cases he) (by omega),(ax (cx.an 6))⟩
 refine aa (wds (fun In Ot=>?_) fun In Ot=>?_)
 refine wq (sqr (sqp [.k 4 (vi 31)] ?_))
 refine aa (wp_ret (ai ?_))
 refine bpr (vi 31) (ag Tryz.results28 rpt) ?_
 obtain⟨fp22_,hk22_⟩:=St.stf (S:=S0) (dd) (hrw1) (hrr1)
 exact js.of (by have h_:=CkQ.full (S:=S) (note:=note) (q:=S.rr++[(rcI (aI note))]) hn6 (by rw[<-hD0];have h_:=In;simp at h_;omega);rw[hS0] at h_;exact h_) (hok0.mono (by omega)) (hk22_.pick [0] (by decide) rfl)
 refine wp_skip (aa (wq ?_))
 have hfit:S.D.log.size+(aC (aI note)).size<=1048576:=by rw[<-hD0];have h_:=In;simp at h_;omega
 refine aG [0,1,3,7,15,0,0,64,192,448,960,2047,4095] [[10],[],[],[0],[],[],[10],[],[],[0]] [[],[],[],[],[],[],[],[],[],[],[],[12]] [] [.c 31 (vp sb),.k 32 (vp sb),.k 33 (vp sb),.c 34 (vp db),.c 35 (.func (.func 69) #[vp db] #[]),.c 36 (.func (.func 70) #[] #[vp br,vp hG]),.c 37 (vp sb),.k 38 (vp sb),.k 39 (vp sb),.c 40 (vp db),.c 41 (.func (.func 63) #[vp db] #[]),.a 42,.a 6] (fun ix v o X=>match ix with|0|1|2|3|4|5|6|7|8|9|10=>True|11=>v 42= .slice (sA (o 42)) 3 3/\X 12=eO 52 1 (.slice (sA (o 42)) 3 3) 3 ([.func (.func 69) #[vp db] #[],.func (.func 70) #[] #[vp br,vp hG],.func (.func 63) #[vp db] #[]])|12=>v 6= .slice (sA (o 42)) 3 3|_=>True) [0,1,2,3,4,5,6,7,8,9,10,11,12] [0,3,4,5,6,9,10,11,12] [(6,12,1,7),(24,0,12,36)] dd ?_ ?_ ?_
 exact fun ix _ _ _ _ _ _ hs hb hx h=>match ix,h with
 |11,h=>by dsimp only;rw[<-hs 42 rfl,<-hb 42 rfl,<-hx 12 rfl];exact h
 |12,h=>by dsimp only;rw[<-hs 6 rfl,<-hb 42 rfl];exact h
 |0,_|1,_|2,_|3,_|4,_|5,_|6,_|7,_|8,_|9,_|10,_|_+13,_=>trivial
 refine⟨?_,?_,?_,?_,?_,?_,?_,?_,?_,trivial⟩
 exact xs4 rfl id fun cx=>ae rfl (by kernel_rfl) (cx.ou 2) ((cx.bi 10 rfl).cell 0)
 exact xs4 rfl id fun cx=>ae rfl (by kernel_rfl) (cx.an 2) ((cx.bi 0 rfl).cell 0)
 exact sv0 rfl rfl rfl rfl rfl (fun _ _ _ h=>h) fun g o W X cx=>by
  have PW:g (.tmp 34)=vp db:=(cx.an 3)
  simp[go_sem,Instr.makeFunc,PW]
 exact sv0 rfl rfl rfl rfl rfl (fun _ _ _ h=>h) fun g o W X cx=>by
  have m4:g (.tmp 2)=vp br:=(cx.ou 2)
  have qK:g (.tmp 5)=vp hG:=(cx.ou 5)
  simp[go_sem,Instr.makeFunc,m4,qK]
 exact xs4 rfl id fun cx=>ae rfl (by kernel_rfl) (cx.ou 2) ((cx.bi 10 rfl).cell 0)
 exact xs4 rfl id fun cx=>ae rfl (by kernel_rfl) (cx.an 8) ((cx.bi 0 rfl).cell 0)
 exact sv0 rfl rfl rfl rfl rfl (fun _ _ _ h=>h) fun g o W X cx=>by
  have PX:g (.tmp 40)=vp db:=(cx.an 9)
  simp[go_sem,Instr.makeFunc,PX]
 refine svA fun g o W X cx=>?_
 have Ip:g (.tmp 35)= .func (.func 69) #[vp db] #[]:=(cx.an 4)
 have PY:g (.tmp 36)= .func (.func 70) #[] #[vp br,vp hG]:=(cx.an 5)
 have zj:g (.tmp 41)= .func (.func 63) #[vp db] #[]:=(cx.an 10)
 exact dy (e:=52) (xs:=[.func (.func 69) #[vp db] #[],.func (.func 70) #[] #[vp br,vp hG],.func (.func 63) #[vp db] #[]]) rfl (by simp[go_sem,Ip,PY,zj]) rfl (by decide) rfl rfl (fun _ _ _ _ _=> .intro)
 exact sv rfl rfl rfl rfl rfl _ (fun _ _ _ h=>h) (fun o y h=>by rw[h 42 (by decide)]) fun g o W X cx=>di rfl (dTn (cx.an 11)).1
 intro v o X uA hD cF fr aD
 simp only[exq 12 ((dTn (hD 11 lq)).2)] at cF
 simp only[ed 42 ((dTn (hD 11 lq)).1),ed 6 ((dTn (hD 12 lq)))] at aD
 generalize sA (o 42)=M2 at cF aD
 clear hD;subst aD;clear v o X
 refine aa (wq (wq ?_))
 obtain⟨fp24_,hk24_⟩:=St.stf (S:=S0) (cF) (hrw1) (hrr1)
 refine sqr (aq 1 hk24_ ?_)
 refine sqk (vi ((S0.D.pgs.length:Int))) hk24_ (fun cx=>⟨_,pi sb db S0 _ (pR (CtxV.holdF cx (cx.init 0 _ rfl) rfl)),(ax (cx.ou 43))⟩) fun w3 fF=>?_
 refine sqp [.k 45 (vi 0)] ?_
 refine aa (wp_block ?_)
 obtain⟨⟨hrw2,hrr2⟩,mb2,RA2,rc2,EA2,ec2,ib2,tb2,fpd2,hv28_⟩:=fF.unf
 have hA29_:=hv28_.nA kz
 refine aN (fun t_ mz az W=>∃k:Nat,∃bs:List (Int×Nat),∃m:Nat,∃SA:Option Addr,∃sc:Nat,k<=S0.D.pgs.length/\(∀x,x∈bs.map Prod.fst<->(∃t∈S0.pool,t.n=x)/\x<(k:Int))/\m=bs.length+3/\bs.length<=k/\mz=S0.D.pgs.length-k/\az=⟨(ovr (jv az) [(6,6,0,[.slice SA m sc]),(0,7,1,[]),(37,45,0,[vi ((k:Int))]),(0,46,14,[])] t_).toArray,[]⟩/\St w fp [eB br 31 #[vp sb],eB hG 27 #[vi 9,vi 0,vi 0,sn,sn,sn,sn,.string note],eB sb 109 #[vp db,vi S0.bufs,.map (some mb2),vi S0.time,.slice RA2 S0.recs.length rc2,.slice EA2 S0.recs.length ec2,.map (some ib2),.map (some tb2),vi S0.frm],eMx kcI ptX Tryz.prog 3 mb2 S0.pool.length (atM S0.pool),eA (List.map fv S0.pool),eM (List.map dK S0.rows),eO 27 8 (.slice RA2 S0.recs.length rc2) S0.recs.length (S0.recs.flatMap rcC),eO 3 1 (.slice EA2 S0.recs.length ec2) S0.recs.length ((cM S0.L S0.recs.length).map (Value.int .i64)),eRc S0.rr,eMx kcI ecB Tryz.prog 3 ib2 S0.ni (S0.im),eMx kcI ecB Tryz.prog 3 tb2 S0.nt (S0.told),eDk db S0.D fpd2,eO 52 1 (.slice SA m sc) m ((lF br hG db bs)),eA (bs.map kz)] W) (S0.D.pgs.length-0) ?_ ?_
 exact⟨0,[],3,M2,3,Nat.zero_le _,fun x=>⟨fun h=>(by cases h),fun h=>by obtain⟨⟨t,ht,rfl⟩,h2⟩:=h;have:=hok0.keys t ht;omega⟩,rfl,Nat.le_refl _,rfl,(by kernel_rfl),hA29_.pk [11,12,1,2,3,4,5,6,7,8,9,10,13,0]⟩
 rintro T9 a30 Fg ⟨k,bs,m,SA,sc,hk,hbs,hm,hbk,rfl,hj_,jB⟩
 refine ovz hj_ fun SS=>?_
 refine wq (sqr (sqp [.k 46 (.bool (decide ((k:Int)<(S0.D.pgs.length:Int))))] ?_))
 refine aa (wq (wds (fun fw jA=>?_) fun fw jA=>?_))
 refine wp_skip (aa (wq (wp_block (wq (sqr (sqp [.m 47 45] ?_))))))
 refine b8 #[vi 0] jB fun jn wW eo=>?_
 refine aX (n:=1) 14 #[vi ((k:Int))] eo fun wX dY=>?_
 refine aa (wq ?_)
 have hkn:kcI.ok (k:Int):=by have:=hok0.pgs;constructor<;>omega
 rcases Bc S0.pool (k:Int) with hno|⟨A,t,B,hAB,hnt⟩
 refine bP [0,1,3,7,0,31,63] [[0],[],[],[2],[14],[3]] [.c 48 (vp sb),.k 49 (vp sb),.k 50 (po sb 2),.c 51 (.map (some mb2)),.c 52 (vi ((k:Int))),.c 53 (.pointer none),.c 54 (.bool false)] [0,1,2,3,4,5,6,7,8,9,10,11,12,13,14] [0,3,4,5,6] [(48,0,7,55)] dY ?_ fun zb eK=>?_
 refine⟨?_,?_,?_,?_,?_,trivial⟩
 exact xs4 rfl id fun cx=>ae rfl (by kernel_rfl) (cx.ou 2) ((cx.bi 0 rfl).cell 0)
 exact xs4 rfl id fun cx=>ae rfl (by kernel_rfl) (cx.an 2) ((cx.bi 2 rfl).cell 2)
 exact xs4 rfl id fun cx=>ae rfl (by kernel_rfl) (cx.ou 7) ((cx.bi 14 rfl).cell 0)
 exact xs4 rfl id fun cx=>(cZ (e:=115) (C:=ptX) (K:=kcI) (x:=(k:Int)) rfl (cx.an 3) (cx.an 4) (CtxV.mx cx (cx.init 3 _ rfl) rfl) (h0:=by rfl) (hx:=hkn) (hk:=show Program.underlying _ _= _ from by kernel_rfl)).trans (by rw[ku hno];rfl)
 exact sv0 rfl rfl rfl rfl rfl (fun _ _ _ h=>h) fun g o W X cx=>by
  have Iq:g (.tmp 53)= .pointer none:=(cx.an 5)
  simp[go_sem,cx.sees.const,Iq]
 refine aa (wcf rfl (wp_skip (av (aa (sqr (sqp [sI 59 ((k:Int)+1) (by omega),.m 45 59] ?_))))))
 refine aa ?_
 refine⟨S0.D.pgs.length-((k+1)),by omega,?_⟩
 exact⟨(k+1),bs,m,SA,sc,by omega,KF hbs hno,hm,by omega,rfl,(by kernel_rfl),eK.pk [0,1,2,3,4,5,6,7,8,9,10,11,12,13]⟩
 refine bP [0,1,3,7,0,31,63] [[0],[],[],[2],[14],[3]] [.c 48 (vp sb),.k 49 (vp sb),.k 50 (po sb 2),.c 51 (.map (some mb2)),.c 52 (vi ((k:Int))),.c 53 (po t.blk 0),.c 54 (.bool true)] [0,1,2,3,4,5,6,7,8,9,10,11,12,13,14] [0,3,4,5,6] [(48,0,7,55)] dY ?_ fun qD dq=>?_
 refine⟨?_,?_,?_,?_,?_,trivial⟩
 exact xs4 rfl id fun cx=>ae rfl (by kernel_rfl) (cx.ou 2) ((cx.bi 0 rfl).cell 0)
 exact xs4 rfl id fun cx=>ae rfl (by kernel_rfl) (cx.an 2) ((cx.bi 2 rfl).cell 2)
 exact xs4 rfl id fun cx=>ae rfl (by kernel_rfl) (cx.ou 7) ((cx.bi 14 rfl).cell 0)
 exact xs4 rfl id fun cx=>(cZ (e:=115) (C:=ptX) (K:=kcI) (x:=(k:Int)) rfl (cx.an 3) (cx.an 4) (CtxV.mx cx (cx.init 3 _ rfl) rfl) (h0:=by rfl) (hx:=hkn) (hk:=show Program.underlying _ _= _ from by kernel_rfl)).trans (by rw[KG hok0.nodup hAB hnt];rfl)
 exact sv0 rfl rfl rfl rfl rfl (fun _ _ _ h=>h) fun g o W X cx=>by
  have Iq:g (.tmp 53)=po t.blk 0:=(cx.an 5)
  simp[go_sem,cx.sees.const,Iq]
 refine aa (wct rfl (sqr ?_))
 refine sqv (.func (.func 71) #[] #[vp br,vp jn]) dq (by
   exact sv0 rfl rfl rfl rfl rfl (fun _ _ _ h=>h) fun g o W X cx=>by
    have m4:g (.tmp 2)=vp br:=(cx.ou 2)
    have Fu:g (.tmp 7)=vp jn:=(cx.ou 7)
    simp[go_sem,Instr.makeFunc,m4,Fu]) fun uz dR=>?_
 refine ea (fun x_=>sA x_) (fun vb=> .slice vb 1 1) (fun vb=>eO 52 1 (.slice vb 1 1) 1 ([.func (.func 71) #[] #[vp br,vp jn]])) dR (by
   refine svA fun g o W X cx=>?_
   have Ib:g (.tmp 55)= .func (.func 71) #[] #[vp br,vp jn]:=(cx.ou 55)
   exact dy (e:=52) (xs:=[.func (.func 71) #[] #[vp br,vp jn]]) rfl (by simp[go_sem,Ib]) rfl (by decide) rfl rfl (fun _ _ _ _ _=> .intro)) fun vb Fe gZ=>?_
 refine sqp [.m 57 6] ?_
 refine sk (fun x_=>sA x_) (fun x_=>sC x_) (fun qX qY=> .slice qX (1+m) qY) (fun qX qY=>eO 52 1 (.slice qX (1+m) qY) (1+m) ((lF br hG db (((k:Int),jn)::bs)))) 15 gZ (by
   refine svA fun g o W X cx=>?_
   obtain⟨i0,hi0,hz0,hz1,hz2⟩:=info_parts Tryz.infoFnJ
   refine fe (n:=1) (m:=m) (nm:=1+m) (xs:=[.func (.func 71) #[] #[vp br,vp jn]]) (news:=(lF br hG db bs)) (xs':=(lF br hG db (((k:Int),jn)::bs))) rfl (ty:=123) rfl (by kernel_rfl) hi0 hz0 hz1 hz2 rfl (cx.ou 56) cx (cx.init 15 _ rfl) rfl (cx.ou 57) ((od _ _ _ _).trans (by omega)) (At.of_own (cx.ri 12 rfl)) (KB _ _ _ _) (by simp only[maxLen];omega) (by omega) rfl rfl rfl (by omega) (rfl) (fun v y X' hs hb hv hx=>?_)
   exact⟨hv,hx⟩) fun qX qY IN kh=>?_
 refine sqp [.m 6 58] ?_
 refine av (aa (sqr (sqp [sI 59 ((k:Int)+1) (by omega),.m 45 59] ?_)))
 refine aa ?_
 have hN47_:=St.anf (x:=((k:Int),jn)) kh.u14.u14
 refine⟨S0.D.pgs.length-((k+1)),by omega,?_⟩
 exact⟨(k+1),(((k:Int),jn)::bs),1+m,qX,qY,by omega,Kk hbs (by rw[hAB];simp) hnt _,by rw[hm];simp only[List.length_cons];omega,by simp only[List.length_cons];omega,rfl,(by kernel_rfl),hN47_.pk [1,2,3,4,5,6,7,8,9,10,11,12,14,0]⟩
 refine wp_exit (al (al (bf (aa (wq (wq ?_))))))
 have hnsS0:∀x,x∈bs.map Prod.fst<->∃t∈S0.pool,t.n=x:=fun x=>⟨fun h=>((hbs x).1 h).1,fun⟨t,ht,hx⟩=>(hbs x).2 ⟨⟨t,ht,hx⟩,by have:=(hok0.keys t ht).2;omega⟩⟩
 have hnsS:∀x,x∈bs.map Prod.fst<->∃t∈S.pool,t.n=x:=by rw[<-hP0];exact hnsS0
 have hbl:(bs.map Prod.fst).length=bs.length:=List.length_map ..
 have hbk4:bs.length<=400:=by have:=hok0.pgs;omega
 obtain⟨fp48_,hk48_⟩:=St.stf (S:=S0) (jB.u11.u11.u11.u11.u11.u11.u11.u11.u11.u11) (hrw2) (hrr2)
 refine sqr (sqp [.m 60 6,.k 61 (vi ((m:Int))),.k 62 (vi 0)] ?_)
 refine aa (wp_block ?_)
 refine aN (fun t_ mz az W=>∃i:Nat,∃Si:StM,∃fpi:List Nat,i<=m/\CkI S0 (bs.map Prod.fst) note i Si/\SOk Si (c+i)/\(rcI (aI note))∈Si.rr/\Si.pool.map BfT.n=S0.pool.map BfT.n/\mz=m-i/\az=⟨(ovr (jv az) [(4,4,1,[]),(4,9,2,[]),(51,62,0,[vi ((i:Int))]),(0,63,9,[])] t_).toArray,[]⟩/\St w fp [eB br 31 #[vp sb],eB hG 27 #[vi 9,vi 0,vi 0,sn,sn,sn,sn,.string note],eO 52 1 (.slice SA m sc) m ((lF br hG db bs)),eA (bs.map kz),eSt sb db Si fpi] W) (m-0) ?_ ?_
 exact⟨0,S0,fp48_,Nat.zero_le _,.inl ⟨Nat.zero_le _,fun S2 er h=>h⟩,hok0,hrt0,rfl,rfl,(by kernel_rfl),hk48_.pk [1,2,3,4,0]⟩
 rintro Rc a52 Br ⟨i,Si,fpi,hi,hCk,hokI,hrtI,hplI,rfl,hj_,cK⟩
 refine ovz hj_ fun PJ=>?_
 rcases hCk.ways with ⟨hlt_,hcn⟩|⟨hie,hcl⟩|⟨hie,S1,hcl,fK,hSi⟩|⟨hie,S1,hcl,fK,hap⟩|⟨hie,S1,S2,hcl,fK,hap,hf0,hSi⟩
 obtain⟨x,hx⟩:∃x,bs[i]? =some x:=⟨_,List.getElem?_eq_getElem (by omega)⟩
 have hxm:x∈bs:=List.mem_of_getElem? hx
 obtain⟨t,hti,htx⟩:∃t∈Si.pool,t.n=x.1:=G6 hplI ((hnsS0 x.1).1 (List.mem_map.2 ⟨x,hxm,rfl⟩))
 obtain⟨A,B,hAB⟩:=List.append_of_mem hti
 have hdr:(bs.map Prod.fst).drop i=t.n::(bs.map Prod.fst).drop (i+1):=by rw[List.drop_eq_getElem_cons (by omega)];congr 1;rw[htx];exact(List.getElem?_eq_some_iff.1 ((List.getElem?_map ..).trans (by rw[hx];rfl))).2
 refine wq (sqr ?_)
 have hd54:(decide ((i:Int)<(m:Int)))=true:=decide_eq_true (by omega)
 refine sqp [.e 63 (.bool (decide ((i:Int)<(m:Int)))) (.bool true) (congrArg Value.bool hd54)] ?_
 refine aa (wq (wct rfl (wp_skip (aa (wq (wp_block (wq (sqr ?_))))))))
 refine sql (.pointer (some ((ad SA).add i))) cK (fun cx=>bS (e:=52) (m:=i) rfl (by kernel_rfl) (by kernel_rfl) (cx.ou 60) (cx.ou 62) (by omega) (by omega) (At.of_own (cx.ri 2 rfl)) (by rw[od];omega)) ?_
 refine sql (.func (.func 71) #[] #[vp br,po x.2 0]) cK (fun cx=>ae rfl (by kernel_rfl) (cx.ou 64) (At.cellAd (At.of_own (cx.ri 2 rfl)) (K5 hx))) ?_
 refine sqp [.m 9 65] ?_
 refine aa (wq (sqr (sqp [.m 66 9] ?_)))
 refine bM (fun X_=>X_.fp) (vi ((aL Si t).2)) (fun CV=>eSt sb db ((aL Si t).1) CV) 4 cK (by
   refine svA fun g o W X cx=>?_
   refine am.call (cN (f:=71) (args:=#[]) (args':=#[vp br,po x.2 0]) rfl rfl (cx.ou 66) (by kernel_rfl) jo rfl) ?_
   refine(Au br x.2 sb db Si A B t (c+i) _ _ (CtxV.holdF cx (cx.init 4 _ rfl) rfl) (CtxV.ltF cx (cx.init 4 _ rfl) rfl) (cx.bi 0 rfl) (CtxV.apF cx (cx.init 0 _ rfl) (cx.init 4 _ rfl) (xg _ _ _) rfl rfl (by decide)) (CtxV.apF cx (cx.init 3 _ rfl) (cx.init 4 _ rfl) (NC hxm) rfl rfl (by decide)) (by rw[htx];exact LJ (CtxV.holdF cx (cx.init 3 _ rfl) rfl) hxm) hokI (by omega) hAB).mono ?_
   rintro e W1 ⟨rfl,fp4,aT⟩
   refine⟨_,rfl,aK (E:=eSt sb db Si fpi) [eSt sb db (aL Si t).1 fp4] (cx.init 4 _ rfl) rfl rfl aT (fun v y X' hs hb hv hN=>?_)⟩
   have aJ:=(hv 67 rfl).1;have aV:=(hv 67 rfl).2
   exact⟨aJ.trans rfl,gX ((List.cons.inj hN).1)⟩) fun CV Fi f9=>?_
 refine sqp [.m 10 67] ?_
 refine aa (wq (sqr (sqp [.m 68 10,.k 69 (.bool (((aL Si t).2) != 0))] ?_)))
 refine aa (wbs (fun vT=>?_) fun vT=>?_)
 have Ou:=bne_iff_ne.1 vT
 refine wq (sqr (sqp [.m 70 10,.m 4 70] ?_))
 refine aa (wp_ret (bb (ai (ai (bb (ai ?_))))))
 refine bpr (vi ((aL Si t).2)) (ag Tryz.results28 rpt) ?_
 exact js.of (CkQ.cl (q:=S.rr++[(rcI (aI note))]) (ns:=bs.map Prod.fst) hn6 hfit hnsS (by rw[hS0];exact hcn _ _ (by rw[hdr];exact ClA.bad hti (by simpa using vT))) (by simpa using vT)) ((hokI.clean t hti).mono (by omega)) (f9.pick [4] (by decide) rfl)
 have Ou:=bne_eq_false_iff_eq.1 vT
 refine wp_skip (av (aa (sqr (sqp [sI 71 ((i:Int)+1) (by omega),.m 62 71] ?_))))
 refine aa ?_
 refine⟨m-((i+1)),by omega,?_⟩
 exact⟨(i+1),(aL Si t).1,CV,by omega,.inl ⟨by omega,fun S9 er h=>hcn S9 er (by rw[hdr];exact ClA.cons hti (by simpa using vT) h)⟩,(hokI.clean t hti).mono (by omega),by rw[(tr _ _).2.1];exact hrtI,(tr _ _).1.trans hplI,rfl,(by kernel_rfl),f9.pk [0,1,2,3,4]⟩
 refine wq (sqr ?_)
 have hd69:(decide ((i:Int)<(m:Int)))=true:=decide_eq_true (by omega)
 refine sqp [.e 63 (.bool (decide ((i:Int)<(m:Int)))) (.bool true) (congrArg Value.bool hd69)] ?_
 refine aa (wq (wct rfl (wp_skip (aa (wq (wp_block (wq (sqr ?_))))))))
 refine sql (.pointer (some ((ad SA).add i))) cK (fun cx=>bS (e:=52) (m:=i) rfl (by kernel_rfl) (by kernel_rfl) (cx.ou 60) (cx.ou 62) (by omega) (by omega) (At.of_own (cx.ri 2 rfl)) (by rw[od];omega)) ?_
 refine sql (.func (.func 69) #[vp db] #[]) cK (fun cx=>ae rfl (by kernel_rfl) (cx.ou 64) (At.cellAd (At.of_own (cx.ri 2 rfl)) (Cv (j:=0) (by omega)))) ?_
 refine sqp [.m 9 65] ?_
 refine aa (wq ?_)
 obtain⟨⟨hrw1,hrr1⟩,mb1,RA1,rc1,EA1,ec1,ib1,tb1,fpd1,hv73_⟩:=cK.u4.unf
 have hlzi:=hokI.lsz
 have hpgi:=hokI.pgs
 refine sqr (sqp [.m 66 9] ?_)
 refine bM (fun X_=>X_.fp) (vi ((opD Si.D 0 syD).2)) (fun FB=>eDk db ((opD Si.D 0 syD).1) FB) 9 hv73_ (by
   refine svA fun g o W X cx=>?_
   refine am.call (cN (f:=69) (args:=#[]) (args':=#[vp db]) rfl rfl (cx.ou 66) (by kernel_rfl) jo rfl) ?_
   refine(EE db Si.D _ _ (CtxV.holdF cx (cx.init 9 _ rfl) rfl) (CtxV.ltF cx (cx.init 9 _ rfl) rfl) (fun x hx=>Nat.le_trans (hokI.ws x hx) (by omega)) hpgi).mono ?_
   rintro e W1 ⟨rfl,fp4,aT⟩
   refine⟨_,rfl,aK (E:=eDk db Si.D fpd1) [eDk db (opD Si.D 0 syD).1 fp4] (cx.init 9 _ rfl) rfl rfl aT (fun v y X' hs hb hv hN=>?_)⟩
   have aJ:=(hv 67 rfl).1;have aV:=(hv 67 rfl).2
   exact⟨aJ.trans rfl,cJ ((List.cons.inj hN).1)⟩) fun FB Me kR=>?_
 refine sqp [.m 10 67] ?_
 refine aa (wq (sqr (sqp [.m 68 10,.k 69 (.bool (((opD Si.D 0 syD).2) != 0))] ?_)))
 refine aa (wbs (fun zO=>?_) fun zO=>?_)
 have Ov:=bne_iff_ne.1 zO
 refine wq (sqr (sqp [.m 70 10,.m 4 70] ?_))
 refine aa (wp_ret (bb (ai (ai (bb (ai ?_))))))
 refine bpr (vi ((opD Si.D 0 syD).2)) (ag Tryz.results28 rpt) ?_
 obtain⟨fp82_,hk82_⟩:=St.stf (S:=(dX Si (opD Si.D 0 syD).1)) (kR) (hrw1) (hrr1)
 exact js.of (CkQ.sync (q:=S.rr++[(rcI (aI note))]) (ns:=bs.map Prod.fst) hn6 hfit hnsS (by rw[hS0];exact hcl) (by simpa using zO)) (hokI.sync.mono (by omega)) (hk82_.pick [0] (by decide) rfl)
 have Ov:=bne_eq_false_iff_eq.1 zO
 refine wp_skip (av (aa (sqr (sqp [sI 71 ((i:Int)+1) (by omega),.m 62 71] ?_))))
 refine aa ?_
 obtain⟨fp85_,hk85_⟩:=St.stf (S:=(dX Si (opD Si.D 0 syD).1)) (kR) (hrw1) (hrr1)
 refine⟨m-((i+1)),by omega,?_⟩
 exact⟨(i+1),(dX Si (opD Si.D 0 syD).1),fp85_,by omega,.inr (.inl ⟨by omega,Si,hcl,by simpa using zO,rfl⟩),hokI.sync.mono (by omega),hrtI,hplI,rfl,(by kernel_rfl),hk85_.pk [1,2,3,4,0]⟩
 refine wq (sqr ?_)
 have hd87:(decide ((i:Int)<(m:Int)))=true:=decide_eq_true (by omega)
 refine sqp [.e 63 (.bool (decide ((i:Int)<(m:Int)))) (.bool true) (congrArg Value.bool hd87)] ?_
 refine aa (wq (wct rfl (wp_skip (aa (wq (wp_block (wq (sqr ?_))))))))
 refine sql (.pointer (some ((ad SA).add i))) cK (fun cx=>bS (e:=52) (m:=i) rfl (by kernel_rfl) (by kernel_rfl) (cx.ou 60) (cx.ou 62) (by omega) (by omega) (At.of_own (cx.ri 2 rfl)) (by rw[od];omega)) ?_
 refine sql (.func (.func 70) #[] #[vp br,vp hG]) cK (fun cx=>ae rfl (by kernel_rfl) (cx.ou 64) (At.cellAd (At.of_own (cx.ri 2 rfl)) (Cv (j:=1) (by omega)))) ?_
 refine sqp [.m 9 65] ?_
 refine aa (wq (sqr (sqp [.m 66 9] ?_)))
 refine bM (fun X_=>X_.fp) (vi ((bz Si (rcI (aI note))).2)) (fun CW=>eSt sb db ((bz Si (rcI (aI note))).1) CW) 4 cK (by
   refine svA fun g o W X cx=>?_
   refine am.call (cN (f:=70) (args:=#[]) (args':=#[vp br,vp hG]) rfl rfl (cx.ou 66) (by kernel_rfl) jo rfl) ?_
   refine(Ai br hG sb db Si (rcI (aI note)) (c+i) _ _ (CtxV.holdF cx (cx.init 4 _ rfl) rfl) (CtxV.ltF cx (cx.init 4 _ rfl) rfl) (cx.bi 0 rfl) (CtxV.apF cx (cx.init 0 _ rfl) (cx.init 4 _ rfl) (xg _ _ _) rfl rfl (by decide)) (CtxV.apF cx (cx.init 1 _ rfl) (cx.init 4 _ rfl) (xg _ _ _) rfl rfl (by decide)) (cx.bi 1 rfl) hokI (dA hn6) hrtI).mono ?_
   rintro e W1 ⟨rfl,fp4,aT⟩
   refine⟨_,rfl,aK (E:=eSt sb db Si fpi) [eSt sb db (bz Si (rcI (aI note))).1 fp4] (cx.init 4 _ rfl) rfl rfl aT (fun v y X' hs hb hv hN=>?_)⟩
   have aJ:=(hv 67 rfl).1;have aV:=(hv 67 rfl).2
   exact⟨aJ.trans rfl,gX ((List.cons.inj hN).1)⟩) fun CW Mp l7=>?_
 refine sqp [.m 10 67] ?_
 refine aa (wq (sqr (sqp [.m 68 10,.k 69 (.bool (((bz Si (rcI (aI note))).2) != 0))] ?_)))
 refine aa (wbs (fun kF=>?_) fun kF=>?_)
 have CT:=bne_iff_ne.1 kF
 refine wq (sqr (sqp [.m 70 10,.m 4 70] ?_))
 refine aa (wp_ret (bb (ai (ai (bb (ai ?_))))))
 refine bpr (vi ((bz Si (rcI (aI note))).2)) (ag Tryz.results28 rpt) ?_
 exact js.of (by have h_:=CkQ.app (q:=S.rr++[(rcI (aI note))]) (ns:=bs.map Prod.fst) hn6 hfit hnsS (by rw[hS0];exact hcl) fK (by rw[<-hSi];simpa using kF);rw[<-hSi] at h_;exact h_) ((hokI.append (dA hn6)).mono (by omega)) (l7.pick [4] (by decide) rfl)
 have CT:=bne_eq_false_iff_eq.1 kF
 refine wp_skip (av (aa (sqr (sqp [sI 71 ((i:Int)+1) (by omega),.m 62 71] ?_))))
 refine aa ?_
 refine⟨m-((i+1)),by omega,?_⟩
 exact⟨(i+1),(bz Si (rcI (aI note))).1,CW,by omega,.inr (.inr (.inl ⟨by omega,S1,hcl,fK,by rw[<-hSi];exact EK (by simpa using kF) rfl⟩)),(hokI.append (dA hn6)).mono (by omega),by rw[(jL _ _).2.1];exact hrtI,by rw[(jL _ _).2.2.2.2.1];exact hplI,rfl,(by kernel_rfl),l7.pk [0,1,2,3,4]⟩
 refine wq (sqr ?_)
 have hd102:(decide ((i:Int)<(m:Int)))=true:=decide_eq_true (by omega)
 refine sqp [.e 63 (.bool (decide ((i:Int)<(m:Int)))) (.bool true) (congrArg Value.bool hd102)] ?_
 refine aa (wq (wct rfl (wp_skip (aa (wq (wp_block (wq (sqr ?_))))))))
 refine sql (.pointer (some ((ad SA).add i))) cK (fun cx=>bS (e:=52) (m:=i) rfl (by kernel_rfl) (by kernel_rfl) (cx.ou 60) (cx.ou 62) (by omega) (by omega) (At.of_own (cx.ri 2 rfl)) (by rw[od];omega)) ?_
 refine sql (.func (.func 63) #[vp db] #[]) cK (fun cx=>ae rfl (by kernel_rfl) (cx.ou 64) (At.cellAd (At.of_own (cx.ri 2 rfl)) (Cv (j:=2) (by omega)))) ?_
 refine sqp [.m 9 65] ?_
 refine aa (wq ?_)
 obtain⟨⟨hrw1,hrr1⟩,mb1,RA1,rc1,EA1,ec1,ib1,tb1,fpd1,hv106_⟩:=cK.u4.unf
 have hlzi:=hokI.lsz
 have hpgi:=hokI.pgs
 refine sqr (sqp [.m 66 9] ?_)
 refine bM (fun X_=>X_.fp) (vi ((opD Si.D 0 flD).2)) (fun Bu=>eDk db ((opD Si.D 0 flD).1) Bu) 9 hv106_ (by
   refine svA fun g o W X cx=>?_
   refine am.call (cN (f:=63) (args:=#[]) (args':=#[vp db]) rfl rfl (cx.ou 66) (by kernel_rfl) jo rfl) ?_
   refine(lS db Si.D _ _ (CtxV.holdF cx (cx.init 9 _ rfl) rfl) (CtxV.ltF cx (cx.init 9 _ rfl) rfl) (by omega)).mono ?_
   rintro e W1 ⟨rfl,fp4,aT⟩
   refine⟨_,rfl,aK (E:=eDk db Si.D fpd1) [eDk db (opD Si.D 0 flD).1 fp4] (cx.init 9 _ rfl) rfl rfl aT (fun v y X' hs hb hv hN=>?_)⟩
   have aJ:=(hv 67 rfl).1;have aV:=(hv 67 rfl).2
   exact⟨aJ.trans rfl,cJ ((List.cons.inj hN).1)⟩) fun Bu PD oz=>?_
 refine sqp [.m 10 67] ?_
 refine aa (wq (sqr (sqp [.m 68 10,.k 69 (.bool (((opD Si.D 0 flD).2) != 0))] ?_)))
 refine aa (wbs (fun vc=>?_) fun vc=>?_)
 have M3:=bne_iff_ne.1 vc
 refine wq (sqr (sqp [.m 70 10,.m 4 70] ?_))
 refine aa (wp_ret (bb (ai (ai (bb (ai ?_))))))
 refine bpr (vi ((opD Si.D 0 flD).2)) (ag Tryz.results28 rpt) ?_
 obtain⟨fp115_,hk115_⟩:=St.stf (S:=(dX Si (opD Si.D 0 flD).1)) (oz) (hrw1) (hrr1)
 exact js.of (CkQ.flush (q:=S.rr++[(rcI (aI note))]) (ns:=bs.map Prod.fst) hn6 hfit hnsS (by rw[hS0];exact hcl) fK hap (by simpa using vc)) (hokI.flush.mono (by omega)) (hk115_.pick [0] (by decide) rfl)
 have M3:=bne_eq_false_iff_eq.1 vc
 refine wp_skip (av (aa (sqr (sqp [sI 71 ((i:Int)+1) (by omega),.m 62 71] ?_))))
 refine aa ?_
 obtain⟨fp118_,hk118_⟩:=St.stf (S:=(dX Si (opD Si.D 0 flD).1)) (oz) (hrw1) (hrr1)
 refine⟨m-((i+1)),by omega,?_⟩
 exact⟨(i+1),(dX Si (opD Si.D 0 flD).1),fp118_,by omega,.inr (.inr (.inr ⟨by omega,S1,Si,hcl,fK,hap,by simpa using vc,rfl⟩)),hokI.flush.mono (by omega),hrtI,hplI,rfl,(by kernel_rfl),hk118_.pk [1,2,3,4,0]⟩
 refine wq (sqr ?_)
 have hd120:(decide ((i:Int)<(m:Int)))=false:=decide_eq_false (by omega)
 refine sqp [.e 63 (.bool (decide ((i:Int)<(m:Int)))) (.bool false) (congrArg Value.bool hd120)] ?_
 refine aa (wq (wcf rfl (wp_exit (al (al (bf (aa (wq ?_))))))))
 obtain⟨⟨hrw9,hrr9⟩,mb9,RA9,rc9,EA9,ec9,ib9,tb9,fpd9,hv121_⟩:=cK.u4.unf
 have hni9:=hokI.ni
 refine aG [0,0,2,6,14,30,63,127,255] [[10],[10],[],[],[0],[],[],[],[0]] [[],[],[],[],[],[],[],[],[14]] [[],[],[],[],[],[],[],[],[0]] [.c 72 (vp sb),.c 73 (vp sb),.k 74 (vp sb),.k 75 (po sb 4),.c 76 (.slice RA9 Si.recs.length rc9),.k 77 (vi ((Si.recs.length:Int))),.k 78 (vp sb),.k 79 (po sb 8),.n] (fun ix v o X=>match ix with|0|1|2|3|4|5|6|7=>True|8=>X 14=eB sb 109 #[vp db,vi Si.bufs,.map (some mb9),vi Si.time,.slice RA9 Si.recs.length rc9,.slice EA9 Si.recs.length ec9,.map (some ib9),.map (some tb9),vi ((Si.recs.length:Int))]|_=>True) [1,2,3,4,5,6,7,8,9,10,11,12,13,14] [0,1,4,8] [(72,0,8,80)] hv121_ ?_ ?_ ?_
 exact fun ix _ _ _ _ _ _ hs hb hx h=>match ix,h with
 |8,h=>by dsimp only;rw[<-hx 14 rfl];exact h
 |0,_|1,_|2,_|3,_|4,_|5,_|6,_|7,_|_+9,_=>trivial
 refine⟨?_,?_,?_,?_,trivial⟩
 exact xs4 rfl id fun cx=>ae rfl (by kernel_rfl) (cx.ou 2) ((cx.bi 10 rfl).cell 0)
 exact xs4 rfl id fun cx=>ae rfl (by kernel_rfl) (cx.ou 2) ((cx.bi 10 rfl).cell 0)
 exact xs4 rfl id fun cx=>ae rfl (by kernel_rfl) (cx.an 3) ((cx.bi 0 rfl).cell 4)
 refine svA fun g o W X cx=>?_
 exact bx (n:=1) rfl (cx.an 7) (cx.an 5) (by kernel_rfl) (by kernel_rfl) (by kernel_rfl) cx (cx.init 0 _ rfl) rfl (nle rfl) (by kernel_rfl) rfl rfl rfl (fun _ _ _ _ _=>id)
 intro v o X ST hD vd fr aD
 simp only[exq 14 ((dTn (hD 8 lq)))] at vd
 clear hD;subst aD;clear v o X
 refine aa (wq (sqr (aq 9 vd ?_)))
 refine sqp [.k 81 (vp sb),.k 82 (po sb 6)] ?_
 refine aq 13 vd ?_
 refine sqc (eMx kcI ecB Tryz.prog 3 ib9 0 (fun _=>none)) 6 vd (by
   refine svA fun g o W X cx=>?_
   exact Cd (e:=4) (d:=0) rfl (cx.ou 83) cx (cx.init 6 _ rfl) rfl rfl rfl (fun _ _ _ _ _=>id)) fun SU M4=>?_
 refine aa (wq (sqr (sqp [.k 4 (vi 0)] ?_)))
 refine aa (wp_ret ?_)
 refine bpr (vi 0) (ag Tryz.results28 rpt) ?_
 obtain⟨fp129_,hk129_⟩:=St.stf (S:=(ckE Si)) (M4.u9.c0.u9.c0.u9.c0.u9.c0.u9) (hrw9) (hrr9)
 exact js.of (by rw[hSi];exact CkQ.ok (q:=S.rr++[(rcI (aI note))]) (ns:=bs.map Prod.fst) hn6 hfit hnsS (by rw[hS0];exact hcl) fK hap hf0) (hokI.ckE.mono (by omega)) hk129_
end
section
open Go.RowKit
structure WI (S:StM) (told:Int->Bool):Prop where
 cur:∀n:Int,0<=n->n<(S.D.pgs.length:Int)->aF S n=ak S.L n
 im:∀n:Int,0<=n->n<(S.D.pgs.length:Int)->(S.im n).getD false=fC S.L n
 frm:S.frm=(bn S.L:Int)
 told:∀n:Int,0<=n->n<(S.D.pgs.length:Int)->(S.told n).getD false=told n
theorem Ev.L{S':StM}(h:Ev S S'):S'.L=S.L:=by show S'.recs.map RcT.r= _;rw[h.recs]
theorem Ev.wi{S':StM}{told:Int->Bool}(h:Ev S S')(hw:WI S told):WI S' told:=
 ⟨fun n h0 h1=>by rw[h.L,h.cur n h0];exact hw.cur n h0 (by rw[<-h.len];exact h1),fun n h0 h1=>by rw[h.L,h.im];exact hw.im n h0 (by rw[<-h.len];exact h1),by rw[h.L,h.frm];exact hw.frm,fun n h0 h1=>by rw[h.told];exact hw.told n h0 (by rw[<-h.len];exact h1)⟩
def ek(L:List RecM)(os:List Int):List RecM:=(os.filter fun n=>!fC L n).map fun n=>⟨8,0,n,[],aH (ak L n)⟩
def rfL(L:List RecM)(r:RecM):List RecM:=L++ek L (cH r.eds)++[r]
def rfE(pages:Nat)(L:List RecM)(r:RecM):Int:=
 if bC r=false\/r.kind=8\/r.kind=9 then 1 else if r.eds.any (d9 pages)=true then 22 else if cU (ak L) r.eds≠0 then cU (ak L) r.eds else if 1048576<szF L+((aC r).size+szF (ek L (cH r.eds))) then 31 else 0
def rfT(told:Int->Bool)(L:List RecM)(r:RecM):Int->Bool:=fun n=>if n∈cH r.eds/\(ak L n).1≠0/\(bq (ak L) r.eds n).1=0 then false else told n
def rfD(pages:Nat)(L:List RecM)(told:Int->Bool)(r:RecM):List RecM×Int×Int×(Int->Bool):=if rfE pages L r=0 then (rfL L r,((rfL L r).length:Int),0,rfT told L r) else (L,0,rfE pages L r,told)
theorem B3(l:List EdT):∀(N M:Int->PgS),(∀e∈l,N e.1=M e.1)->cU N l=cU M l:=by
 induction l with
 |nil=>intro N M _;rfl
 |cons e l ih=>
  intro N M h
  rw[cU,cU,h e (by simp)]
  split
  refine ih _ _ fun x hx=>?_
  rw[eR,eR]
  rw[h e (by simp),h x (by simp[hx])]
  rfl
theorem uh(l:List EdT)(n:Int):∀(N M:Int->PgS),(∀e∈l,N e.1=M e.1)->N n=M n->bq N l n=bq M l n:=by
 induction l with
 |nil=>intro N M _ h;exact h
 |cons e l ih=>
  intro N M h hn
  refine ih _ _ (fun x hx=>?_) ?_
  rw[eR,eR];rw[h e (by simp),h x (by simp[hx])]
  rw[eR,eR];rw[h e (by simp),hn]
theorem G8(hp:bJ p)(hq:bJ q)(h1:p.1=q.1)(h2:p.2.2=q.2.2)(ha:0<=a/\a<=2147483647)(hb:0<=b/\b<=2147483647):doE p e a=doE q e b:=by
 have e1:=hp.1
 have e2:=hq.1
 have n1:¬(a<0\/2147483647<a):=by omega
 have n2:¬(b<0\/2147483647<b):=by omega
 rw[h2] at e1
 simp only[doE,c8,h2,e1,e2,if_neg n1,if_neg n2,h2,Bool.true_eq_false,if_false]
theorem yk(h1:p.1=q.1)(h2:p.2.2=q.2.2):(doV p e a).1=(doV q e b).1/\(doV p e a).2.2=(doV q e b).2.2:=by
 unfold doV
 split
 exact⟨rfl,rfl⟩
 exact⟨h1,by rw[h2]⟩
theorem LM{n:Int}(hl:0<=lsn/\lsn<=2147483647):∀(l:List EdT) (N:Int->PgS) (p:PgS),(∀m,bJ (N m))->bJ p->p.1=(N n).1->p.2.2=(N n).2.2->cU N l=0->
  (bo n lsn p l).1=(bq N l n).1/\(bo n lsn p l).2.2=(bq N l n).2.2/\((∃e∈l,e.1=n)->(bo n lsn p l).2.1=lsn):=by
 intro l
 induction l with
 |nil=>intro N p _ _ h1 h2 _;exact⟨h1,h2,fun⟨e,he,_⟩=>by cases he⟩
 |cons e l ih=>
  intro N p hN hp h1 h2 h0
  rw[cU] at h0
  split at h0
  rename_i hd
  have hN2:∀m,bJ (eR N e m):=fun m=>by
   unfold eR
   split
   exact kr hd
   exact hN m
  by_cases he:e.1=n
  have hd2:doE p e lsn=0:=by rw[G8 hp (hN n) h1 h2 hl (b:=1) (by omega),<-he];exact hd
  have e1:edA n lsn p e=doV p e lsn:=if_pos ⟨he,hd2⟩
  have e2:eR N e n=doV (N n) e 1:=by rw[eR];rw[if_pos he.symm,he]
  obtain⟨a,b,c⟩:=ih (eR N e) (doV p e lsn) hN2 (kr hd2) (by rw[e2];exact(yk h1 h2).1) (by rw[e2];exact(yk h1 h2).2) h0
  show (bo n lsn (edA n lsn p e) l).1= _/\(bo n lsn (edA n lsn p e) l).2.2= _/\(_->(bo n lsn (edA n lsn p e) l).2.1= _)
  rw[e1]
  refine⟨a,b,fun _=>?_⟩
  by_cases hx:∃x∈l,x.1=n
  exact c hx
  rw[sw (fun x hx1 hx2=>hx ⟨x,hx1,hx2⟩),JQ]
  have e1:edA n lsn p e=p:=if_neg (fun h=>he h.1)
  have e2:eR N e n=N n:=by rw[eR];rw[if_neg (fun h=>he h.symm)]
  obtain⟨a,b,c⟩:=ih (eR N e) p hN2 hp (by rw[e2];exact h1) (by rw[e2];exact h2) h0
  show (bo n lsn (edA n lsn p e) l).1= _/\(bo n lsn (edA n lsn p e) l).2.2= _/\(_->(bo n lsn (edA n lsn p e) l).2.1= _)
  rw[e1]
  refine⟨a,b,fun⟨x,hx,hn⟩=>?_⟩
  rcases List.mem_cons.1 hx with rfl|hx
  exact absurd hn he
  exact c ⟨x,hx,hn⟩
  rename_i hd;exact absurd h0 hd
theorem Gh{L:List RecM}{n:Int}(hL:(L.length:Int)+1<=2147483647)(h0:cU (ak L) r.eds=0)(hn:n∈cH r.eds):ak (L++[r]) n=iC ((L.length:Int)+1) (bq (ak L) r.eds n):=by
 obtain⟨a,b,c⟩:=LM (n:=n) (lsn:=(L.length:Int)+1) (by omega) r.eds (ak L) (ak L n) (iB L) (iB L n) rfl rfl h0
 rw[jb]
 exact Prod.ext a (Prod.ext (c (ky.1 hn)) b)
theorem Em{L:List RecM}{n:Int}(hn:n∉cH r.eds):ak (L++[r]) n=ak L n:=by
 rw[jb,sw (fun e he h=>hn (ky.2 ⟨e,he,h⟩))]
theorem vF{L:List RecM}{os:List Int}:∀r∈ek L os,r.eds=[]/\r.kind=8/\∃n∈os,fC L n=false/\r=⟨8,0,n,[],aH (ak L n)⟩:=fun r hr=>by
 obtain⟨n,hn,rfl⟩:=List.mem_map.1 hr
 obtain⟨h1,h2⟩:=List.mem_filter.1 hn
 exact⟨rfl,rfl,n,h1,by simpa using h2,rfl⟩
theorem uf{L ims:List RecM}(h:∀r∈ims,r.eds=[])(n:Int):ak (L++ims) n=ak L n:=B8 fun r hr e he=>by rw[h r hr] at he;cases he
theorem DN{ims:List RecM}(n:Int):∀(L:List RecM),(∀r∈ims,r.kind=8)->fC (L++ims) n=(fC L n||decide (n∈ims.map RecM.tbl)):=by
 induction ims with
 |nil=>intro L _;simp
 |cons r ims ih=>
  intro L h
  have e:L++r::ims=(L++[r])++ims:=by simp
  have hk:=h r (by simp)
  rw[e,ih _ (fun x hx=>h x (by simp[hx])),nf,if_neg (by rw[hk];decide),hk,Bool.or_assoc]
  congr 1
  rw[List.map_cons]
  by_cases ht:r.tbl=n
  rw[decide_eq_true (p:=n∈r.tbl::ims.map RecM.tbl) (by rw[ht];exact List.mem_cons_self)];simp[ht]
  have:(n∈r.tbl::ims.map RecM.tbl)=(n∈ims.map RecM.tbl):=propext ⟨fun h=>(List.mem_cons.1 h).elim (fun h=>absurd h.symm ht) id,List.mem_cons_of_mem _⟩
  simp only[this]
  rw[show (r.tbl==n)=false by simpa using ht,Bool.and_false,Bool.false_or]
theorem Cl{ims:List RecM}:∀(L:List RecM),(∀r∈ims,r.kind≠9)->bn (L++ims)=bn L:=by
 induction ims with
 |nil=>intro L _;simp
 |cons r ims ih=>
  intro L h
  rw[show L++r::ims=(L++[r])++ims by simp,ih _ (fun x hx=>h x (by simp[hx])),go,if_neg (h r (by simp))]
end
end Go.Proofs.YtcdjaepgahbhfaaGreat
import Derived.Test.YtcdjaepgahbhfaaGreatZ2
import Derived.Recover
set_option linter.unusedVariables false
set_option linter.unusedSimpArgs false
set_option maxRecDepth 100000
set_option maxHeartbeats 16000000
open Go.Proofs.Tryz
open Go.Proofs.Tryz renaming prog->P_
namespace Go.Proofs.YtcdjaepgahbhfaaGreat
variable{D:Nat->(Tmp->Value)->(Tmp->Value)->(Nat->Ent)->Prop}{E:Ent}{GA PA:Option Addr}{L R X0:List Ent}{Pc b b2 base g gc i j k m n p q q' sz t2:Nat}{W W' w w0:World}{X:Nat->Ent}{a:ByteArray}{a0:Act}{bor fp:List Nat}{c2:Array Value}{e:EdT}{l:List EdT}{ops:Array Oper}{us:List (List Nat)}{v:Value}{x y:Operand}{xs:List Value}{β:Tmp->Value}{ρ:Operand->Value}
section
open Go.RowKit
structure RecM where
 kind:Int
 xid:Int
 tbl:Int
 eds:List EdT
 note:ByteArray
def inB(n a b:Int):Bool:=decide (a<=n)&&decide (n<=b)
def edR(e:EdT):Bool:=inB e.1 0 399&&(if e.2.1= -1 then !eX e.2.2 else (inB e.2.1 0 23&&decide ((e.2.2.size:Int)<=400)))
def bt(r:RecM):Bool:=inB r.kind 1 10&&(inB r.xid 0 127&&(inB r.tbl 0 65535&&(decide ((r.eds.length:Int)<=64)&&(r.eds.all edR&&decide ((r.note.size:Int)<=60000)))))
theorem Ct{s:ByteArray}{m:UInt8}(h:s=⟨#[m]⟩)(hm:m<=2):eX s=false:=by
 subst h
 simp only[eX,Bool.or_eq_false_iff,decide_eq_false_iff_not]
 refine⟨fun h=>h rfl,?_⟩
 show ¬(2:Int)<(m.toNat:Int)
 have:m.toNat<=2:=hm
 omega
theorem LV{s:ByteArray}(h:∀m:Nat,m<3->s≠⟨#[UInt8.ofNat m]⟩):eX s=true:=by
 rcases hk:eX s with _|_
 exfalso
 simp only[eX,Bool.or_eq_false_iff,decide_eq_false_iff_not] at hk
 obtain⟨h1,h2⟩:=hk
 have h1:s.size=1:=by omega
 obtain⟨⟨l⟩⟩:=s
 have hl:l.length=1:=h1
 match l,hl with
 | [c],_=>
   have h3:¬(2:Int)<(c.toNat:Int):=h2
   refine h c.toNat (by omega) ?_
   have:UInt8.ofNat c.toNat=c:=by simp
   rw[this]
 rfl
theorem Cg{b:ByteArray}(h:(a.toList==b.toList)=true):a=b:=x9 (by simpa using h)
theorem Cn{b:ByteArray}(h:(a.toList==b.toList)=false):a≠b:=fun e=>by rw[e] at h;simp at h
theorem wj{s:ByteArray}(h:∀m:Nat,m<p->s≠⟨#[UInt8.ofNat m]⟩)(h2:s≠⟨#[UInt8.ofNat p]⟩):∀m:Nat,m<p+1->s≠⟨#[UInt8.ofNat m]⟩:=fun m hm=>by
 by_cases e:m=p
 subst e;exact h2
 exact h m (by omega)
theorem lr{x sl:Int}{s:ByteArray}:edR (x,sl,s)=(inB x 0 399&&(if sl= -1 then !eX s else (inB sl 0 23&&decide ((s.size:Int)<=400)))):=rfl
theorem fF(n a b:Int)(w:World):
  Calls P_ 108 #[.int .i64 n,.int .i64 a,.int .i64 b] w (Ret (.bool (inB n a b)) w):=by
 go_enter func108,ntmps108
 have aj:=St.start w
 refine wsq [.k 6 (.bool false)] ?_
 refine aa (wsq [.m 7 0,.m 8 1,.k 9 (.bool (decide (a<=n))),.m 10 9] ?_)
 refine sqw 10 [11,12,13] rfl (fun _=>sqp [.m 11 0,.m 12 2,.k 13 (.bool (decide (n<=b)))] sqe) ?_
 refine sqp [sPa 14 (decide (a<=n)) (decide (n<=b)),.m 6 14] ?_
 exact aa (wp_ret (bpr (.bool ((decide (a<=n))&&(decide (n<=b)))) (ag results108 rpt) (Ret.of rfl aj.ext)))
theorem Fl(x sl:Int)(s:ByteArray)(w:World)(hs:s.size<=9223372036854775807):
  Calls P_ 110 #[.agg #[.int .i64 x,.int .i64 sl,.string s]] w (Ret (.bool (edR (x,sl,s))) w):=by
 go_enter func110,ntmps110
 have aj:=St.start w
 refine wq (sqr ?_)
 refine bX #[vi x,vi sl,.string s] aj fun ay W1 ax=>?_
 refine sqp [.k 2 (.bool false)] ?_
 refine aa (wq (wsq [.k 5 (po ay 1)] ?_))
 refine am 0 ax ?_
 refine sqp [.k 7 (.bool (sl==(-1)))] ?_
 refine aa (wbs (fun dC=>?_) fun dC=>?_)
 have tw:=beq_iff_eq.1 dC
 refine wq (wq (sqr ?_))
 refine d9 (fun x_=>pb x_) (fun qW=>vp qW) (fun qW=>eIs qW ((⟨#[0,1,2]⟩:ByteArray)) 0) ax (by
   refine svA fun ρ β W X cx=>?_
   exact Ff rfl (cx.co _) rfl rfl rfl (fun _ _ _ _ _=> .intro)) fun qW W7 aW=>?_
 refine aa (wp_block ?_)
 refine aQ (fun t_ mz az W=>∃p:Nat,p<=3/\(∀m:Nat,m<p->s≠⟨#[UInt8.ofNat m]⟩)/\mz=3-p/\az=⟨(ovr (jv az) [(2,2,1,[]),(1,4,1,[]),(4,9,11,[])] t_).toArray,[]⟩/\St w [] [eB ay 84 #[vi x,vi sl,.string s],eIs qW ((⟨#[0,1,2]⟩:ByteArray)) p] W) (3-0) ?_ ?_
 exact⟨0,by decide,fun m hm=>absurd hm (Nat.not_lt_zero m),rfl,(by kernel_rfl),aW.pk [0,1]⟩
 rintro n8 a8 W8 ⟨p,hp,hno,rfl,hj_,dI⟩
 refine ovz hj_ fun UB=>?_
 refine wq ?_
 rcases(by omega:p=0\/p=1\/p=2\/p=3) with rfl|rfl|rfl|rfl
 refine sqr ?_
 refine gL (.tuple #[.bool true,vi 0,.int .i32 0]) (eIs qW ((⟨#[0,1,2]⟩:ByteArray)) 1) 1 dI (by
   refine svA fun ρ β W X cx=>?_
   exact sR (c:=0) rfl (cx.ou 8) cx (cx.init 1 _ rfl) rfl (by decide) (by decide) (by decide) rfl rfl rfl (fun _ _ _ _ _=> .intro)) fun W9 cw=>?_
 refine sqp [.k 10 (.bool true)] ?_
 refine aa (wq (wct rfl (wp_skip (aa (wp_block (wsq [.k 11 (.int .i32 0),.m 4 11] ?_))))))
 refine aa (wsq [.k 12 (po ay 2)] ?_)
 refine am 0 cw ?_
 refine sqp [.m 14 4] ?_
 refine sql (.string ((⟨#[0]⟩:ByteArray))) cw (fun cx=>pA rfl (by kernel_rfl) (by kernel_rfl) (cx.ou 14) (by decide)) ?_
 refine sqp [.k 16 (.bool (s.toList==((⟨#[0]⟩:ByteArray)).toList))] ?_
 refine aa (wbs (fun m5=>?_) fun m5=>?_)
 refine wsq [.k 17 (vp ay)] ?_
 refine am 0 cw ?_
 refine sqk (.bool (inB x 0 399)) cw (fun cx=>⟨_,fF x 0 399 _,(dH (cx.ou 18) (cx.co _) (cx.co _))⟩) fun uT eN=>?_
 refine sqp [.m 2 19] ?_
 refine aa (wp_ret (aY (ai (aY (ai (ai ?_))))))
 exact bpr (.bool (inB x 0 399)) (ag results110 rpt) (Ret.bool (by rw[lr,if_pos (by simpa using dC),Ct (Cg m5) (by decide)];simp) eN.ext)
 refine wp_skip (aq (aa ?_))
 refine⟨3-1,by decide,?_⟩
 exact⟨1,by decide,wj hno (Cn m5),rfl,(by kernel_rfl),cw.pk [0,1]⟩
 refine sqr ?_
 refine gL (.tuple #[.bool true,vi 1,.int .i32 1]) (eIs qW ((⟨#[0,1,2]⟩:ByteArray)) 2) 1 dI (by
   refine svA fun ρ β W X cx=>?_
   exact sR (c:=1) rfl (cx.ou 8) cx (cx.init 1 _ rfl) rfl (by decide) (by decide) (by decide) rfl rfl rfl (fun _ _ _ _ _=> .intro)) fun sE cu=>?_
 refine sqp [.k 10 (.bool true)] ?_
 refine aa (wq (wct rfl (wp_skip (aa (wp_block (wsq [.k 11 (.int .i32 1),.m 4 11] ?_))))))
 refine aa (wsq [.k 12 (po ay 2)] ?_)
 refine am 0 cu ?_
 refine sqp [.m 14 4] ?_
 refine sql (.string ((⟨#[1]⟩:ByteArray))) cu (fun cx=>pA rfl (by kernel_rfl) (by kernel_rfl) (cx.ou 14) (by decide)) ?_
 refine sqp [.k 16 (.bool (s.toList==((⟨#[1]⟩:ByteArray)).toList))] ?_
 refine aa (wbs (fun gX=>?_) fun gX=>?_)
 refine wsq [.k 17 (vp ay)] ?_
 refine am 0 cu ?_
 refine sqk (.bool (inB x 0 399)) cu (fun cx=>⟨_,fF x 0 399 _,(dH (cx.ou 18) (cx.co _) (cx.co _))⟩) fun zH em=>?_
 refine sqp [.m 2 19] ?_
 refine aa (wp_ret (aY (ai (aY (ai (ai ?_))))))
 exact bpr (.bool (inB x 0 399)) (ag results110 rpt) (Ret.bool (by rw[lr,if_pos (by simpa using dC),Ct (Cg gX) (by decide)];simp) em.ext)
 refine wp_skip (aq (aa ?_))
 refine⟨3-2,by decide,?_⟩
 exact⟨2,by decide,wj hno (Cn gX),rfl,(by kernel_rfl),cu.pk [0,1]⟩
 refine sqr ?_
 refine gL (.tuple #[.bool true,vi 2,.int .i32 2]) (eIs qW ((⟨#[0,1,2]⟩:ByteArray)) 3) 1 dI (by
   refine svA fun ρ β W X cx=>?_
   exact sR (c:=2) rfl (cx.ou 8) cx (cx.init 1 _ rfl) rfl (by decide) (by decide) (by decide) rfl rfl rfl (fun _ _ _ _ _=> .intro)) fun Jn gY=>?_
 refine sqp [.k 10 (.bool true)] ?_
 refine aa (wq (wct rfl (wp_skip (aa (wp_block (wsq [.k 11 (.int .i32 2),.m 4 11] ?_))))))
 refine aa (wsq [.k 12 (po ay 2)] ?_)
 refine am 0 gY ?_
 refine sqp [.m 14 4] ?_
 refine sql (.string ((⟨#[2]⟩:ByteArray))) gY (fun cx=>pA rfl (by kernel_rfl) (by kernel_rfl) (cx.ou 14) (by decide)) ?_
 refine sqp [.k 16 (.bool (s.toList==((⟨#[2]⟩:ByteArray)).toList))] ?_
 refine aa (wbs (fun II=>?_) fun II=>?_)
 refine wsq [.k 17 (vp ay)] ?_
 refine am 0 gY ?_
 refine sqk (.bool (inB x 0 399)) gY (fun cx=>⟨_,fF x 0 399 _,(dH (cx.ou 18) (cx.co _) (cx.co _))⟩) fun MQ eo=>?_
 refine sqp [.m 2 19] ?_
 refine aa (wp_ret (aY (ai (aY (ai (ai ?_))))))
 exact bpr (.bool (inB x 0 399)) (ag results110 rpt) (Ret.bool (by rw[lr,if_pos (by simpa using dC),Ct (Cg II) (by decide)];simp) eo.ext)
 refine wp_skip (aq (aa ?_))
 refine⟨3-3,by decide,?_⟩
 exact⟨3,by decide,wj hno (Cn II),rfl,(by kernel_rfl),gY.pk [0,1]⟩
 refine sqr ?_
 refine sql (.tuple #[.bool false]) dI (fun cx=>Cb rfl (cx.ou 8) (CtxV.holdJ cx (cx.init 1 _ rfl) rfl) (by decide)) ?_
 refine sqp [.k 10 (.bool false)] ?_
 refine aa (wq (wcf rfl (wp_exit (al (al (bf (aa (wsq [.k 2 (.bool false)] ?_))))))))
 refine aa (wp_ret (ai ?_))
 exact bpr (.bool false) (ag results110 rpt) (Ret.bool (by rw[lr,if_pos (by simpa using dC),LV hno];simp) dI.ext)
 have tw:=beq_eq_false_iff_ne.1 dC
 refine wp_skip (aa (wsq [.k 20 (vp ay)] ?_))
 refine am 0 ax ?_
 refine sqk (.bool (inB x 0 399)) ax (fun cx=>⟨_,fF x 0 399 _,(dH (cx.ou 21) (cx.co _) (cx.co _))⟩) fun PR pE=>?_
 refine sqp [.m 23 22] ?_
 refine qO 23 [24,25,26] ?_ pE rfl (fun hq=>?_) fun BZ fw=>?_
 rotate_left
 refine sqp [.k 24 (po ay 1)] ?_
 refine am 0 pE ?_
 refine sqk (.bool (inB sl 0 23)) pE (fun cx=>⟨_,fF sl 0 23 _,(dH (cx.ou 25) (cx.co _) (cx.co _))⟩) fun UC OO=>?_
 exact sqE OO
 refine c7 ?_
 refine sqp [sPa 27 (inB x 0 399) (inB sl 0 23),.m 28 27] ?_
 refine d3 28 [29,30,31,32] ?_ rfl (fun hq=>?_) ?_
 rotate_left
 refine sqp [.k 29 (po ay 2)] ?_
 refine am 0 fw ?_
 refine sqp [.k 31 (vi ((s.size:Int))),.k 32 (.bool (decide ((s.size:Int)<=400)))] ?_
 exact sqe
 refine c7 ?_
 refine sqp [sPa 33 ((inB x 0 399)&&(inB sl 0 23)) (decide ((s.size:Int)<=400)),.m 2 33] ?_
 exact aa (wp_ret (bpr (.bool (((inB x 0 399)&&(inB sl 0 23))&&(decide ((s.size:Int)<=400)))) (ag results110 rpt) (Ret.bool (by rw[lr,if_neg (by simpa using dC),Bool.and_assoc]) fw.ext)))
end
section
open Go.RowKit
def edC(e:EdT):List Value:=[.int .i64 e.1,.int .i64 e.2.1,.string e.2.2]
theorem bE(e:EdT):(edC e).length=3:=rfl
theorem k9(h:k<l.length):∃ep es eb,l[k]? =some (ep,es,eb):=⟨_,_,_,List.getElem?_eq_getElem h⟩
def kQ(l:List EdT):Int:=if l.all edR=true then -1 else ((l.findIdx fun e=>!edR e:Nat):Int)
theorem JY:decide ((0:Int)<=kQ l)=!l.all edR:=by
 unfold kQ
 rcases h:l.all edR with _|_
 rw[if_neg (by decide)];exact decide_eq_true (Int.natCast_nonneg _)
 rw[if_pos rfl];rfl
theorem MG(he:l[j]? =some e)(h:edR e=false)(ha:∀i x,i<j->l[i]? =some x->edR x=true):kQ l=(j:Int):=by
 obtain⟨hj,rfl⟩:=List.getElem?_eq_some_iff.1 he
 have h1:l.all edR=false:=by
  rw[List.all_eq_false]
  exact⟨l[j],List.getElem_mem hj,by rw[h];decide⟩
 rw[kQ,h1,if_neg (by decide)]
 congr 1
 rw[List.findIdx_eq hj]
 exact⟨by rw[h];rfl,fun i hi=>by rw[ha i _ hi (List.getElem?_eq_getElem (by omega))];rfl⟩
theorem Hl(hj:¬((j:Int)<(l.length:Int)))(ha:∀i x,i<j->l[i]? =some x->edR x=true):kQ l= -1:=by
 have h1:l.all edR=true:=by
  rw[List.all_eq_true]
  intro x hx
  obtain⟨i,hi,rfl⟩:=List.mem_iff_getElem.1 hx
  exact ha i _ (by omega) (List.getElem?_eq_getElem hi)
 rw[kQ,if_pos h1]
theorem y9(ha:∀i x,i<j->l[i]? =some x->edR x=true)(he:l[j]? =some e)(h:edR e=true):∀i x,i<j+1->l[i]? =some x->edR x=true:=fun i x hi hx=>by
 by_cases e2:i=j
 subst e2
 rw[he] at hx
 injection hx with hx
 subst hx;exact h
 exact ha i x (by omega) hx
theorem AY(x sl:Int)(s:ByteArray)(w:World)(hs:s.size<=9223372036854775807):
  Calls P_ 109 #[.agg #[.int .i64 x,.int .i64 sl,.string s]] w (Ret (.bool (!edR (x,sl,s))) w):=by
 go_enter func109,ntmps109
 have aj:=St.start w
 refine wq (sqr ?_)
 refine bX #[vi x,vi sl,.string s] aj fun ay W1 ax=>?_
 refine sqp [.k 2 (.bool false)] ?_
 refine aa (wq (sqr ?_))
 refine bD 0 3 ax ?_
 refine sqk (.bool (edR (x,sl,s))) ax (fun cx=>⟨_,Fl x sl s _ (by omega),(av (cx.ou 3))⟩) fun W4 aZ=>?_
 refine sqp [.k 5 (.bool (!(edR (x,sl,s)))),.m 2 5] ?_
 exact aa (wp_ret (bpr (.bool (!(edR (x,sl,s)))) (ag results109 rpt) (Ret.of rfl aZ.ext)))
theorem Ix(A:Option Addr)(c:Nat)(l:List EdT)(w:World)(hA:At w A (l.flatMap edC))(hl:l.length<=1000000)(hz:∀e∈l,e.2.2.size<=9223372036854775807):
  Calls P_ 117 #[.slice A l.length c,.func (.func 109) #[] #[]] w (Ret (.int .i64 (kQ l)) w):=by
 go_enter func117,ntmps117
 have aj:=St.start w
 refine wsq [.k 4 (vi 0)] ?_
 refine aa (wq (wsq [.m 6 0,.k 7 (vi ((l.length:Int))),.k 8 (vi 0)] ?_))
 refine aa (wp_block ?_)
 refine aQ (fun t_ mz az W=>∃j:Nat,j<=l.length/\(∀i x,i<j->l[i]? =some x->edR x=true)/\mz=l.length-j/\az=⟨(ovr (jv az) [(4,4,2,[]),(2,8,0,[vi ((j:Int))]),(0,9,10,[])] t_).toArray,[]⟩/\St w [] [] W) (l.length-0) ?_ ?_
 exact⟨0,Nat.zero_le _,fun i x h=>absurd h (Nat.not_lt_zero i),rfl,(by kernel_rfl),aj.pk []⟩
 rintro n5 a5 W5 ⟨j,hj,ha,rfl,hj_,aK⟩
 refine ovz hj_ fun xE=>?_
 refine wsq [.k 9 (.bool (decide ((j:Int)<(l.length:Int))))] ?_
 refine aa (wq (wds (fun ea jB=>?_) fun ea jB=>?_))
 refine wp_skip (aa (wq (wp_block (wsq [.m 10 8,.m 5 10] ?_))))
 refine aa (wq ?_)
 obtain⟨ep,es,eb,hek⟩:=k9 (l:=l) (k:=j) (by omega)
 have hez:eb.size<=9223372036854775807:=hz _ (List.mem_of_getElem? hek)
 refine sqs [.m 11 1,.m 12 0,.m 13 5] ?_
 refine sql (.pointer (some ((ad A).add (j*3)))) aK (fun cx=>aD (e:=84) (m:=j) (sz:=3) rfl (by kernel_rfl) (by kernel_rfl) (cx.ou 12) (cx.ou 13) (by omega) (by omega) (hA.ext cx.upd.to_ext) (bm (sz:=3) bE (by decide) (by omega))) ?_
 refine sql (.agg #[vi ep,vi es,.string eb]) aK (fun cx=>bS (f:=edC) (m:=j) (sz:=3) (off:=0) (n:=3) rfl (by kernel_rfl) (by kernel_rfl) (cx.ou 14) rfl bE (hA.ext cx.upd.to_ext) hek (fun k hk=>match k,hk with|0,_=>rfl|1,_=>rfl|2,_=>rfl|k+3,hk=>absurd hk (by omega))) ?_
 refine sqv (.bool (!(edR (ep,es,eb)))) aK (ip rfl rfl rfl rfl rfl (fun _ _ _ h=>h) fun ρ β W X cx=>⟨_,_,cD (f:=109) (args:=#[.agg #[vi ep,vi es,.string eb]]) (args':=#[.agg #[vi ep,vi es,.string eb]]) rfl rfl (cx.ou 11) (by kernel_rfl) (av (cx.ou 15)) rfl,AY ep es eb _ hez⟩) fun B0 gv=>?_
 refine aa ?_
 rcases Bool.eq_false_or_eq_true (edR (ep,es,eb)) with dj|dj
 refine wp_cond_false (show Act.eval _ _= .bool false from(congrArg Value.bool (by rw[dj];rfl))) (wp_skip (aq (aa (sqs [sI 18 ((j:Int)+1) (by omega),.m 8 18] ?_))))
 refine aa ?_
 refine⟨l.length-((j+1)),by omega,?_⟩
 exact⟨(j+1),by omega,y9 ha hek (by simpa using dj),rfl,(by kernel_rfl),gv.pk []⟩
 refine wp_cond_true (show Act.eval _ _= .bool true from(congrArg Value.bool (by rw[dj];rfl))) (wsq [.m 17 5,.m 4 17] ?_)
 refine aa (wp_ret (aY (ai (ai (aY (ai ?_))))))
 exact bpr (vi ((j:Int))) (ag results117 rpt) (Ret.int (MG hek (by simpa using dj) ha).symm gv.ext)
 refine wp_exit (al (al (bf (aa (wsq [.k 4 (vi (-1))] ?_)))))
 exact aa (wp_ret (bpr (vi (-1)) (ag results117 rpt) (Ret.int (Hl (of_decide_eq_false ea) ha).symm aK.ext)))
theorem Lp(A:Option Addr)(c:Nat)(l:List EdT)(w:World)(hA:At w A (l.flatMap edC))(hl:l.length<=1000000)(hz:∀e∈l,e.2.2.size<=9223372036854775807):
  Calls P_ 53 #[.slice A l.length c,.func (.func 109) #[] #[]] w (Ret (.bool (!l.all edR)) w):=by
 go_enter func53,ntmps53
 have aj:=St.start w
 refine wsq [.k 4 (.bool false)] ?_
 refine aa (wsq [.m 5 0,.m 6 1] ?_)
 refine sqk (vi ((kQ l))) aj (fun cx=>⟨_,Ix _ _ l _ (hA.ext cx.upd.to_ext) hl hz,(aN (cx.ou 5) (cx.ou 6))⟩) fun W4 aZ=>?_
 refine sqp [.k 8 (.bool (decide (0<=(kQ l)))),.m 4 8] ?_
 exact aa (wp_ret (bpr (.bool (decide (0<=(kQ l)))) (ag results53 rpt) (Ret.bool JY aZ.ext)))
end
section
open Go.RowKit
def MA(r:RecM)(A:Option Addr)(c:Nat):Value:= .agg #[.int .i64 r.kind,.int .i64 r.xid,.int .i64 r.tbl,.slice none 0 0,.slice none 0 0,.slice A r.eds.length c,.slice none 0 0,.string r.note]
theorem OJ(w:World):
  Calls P_ 156 #[sn,.func (.func 112) #[] #[]] w (Ret (.int .i64 (-1)) w):=by
 go_enter func156,ntmps156
 have aj:=St.start w
 refine wsq [.k 4 (vi 0)] ?_
 refine aa (wq (wsq [.m 6 0,.k 7 (vi 0),.k 8 (vi 0)] ?_))
 refine aa (wp_block ?_)
 refine aQ (fun t_ mz az W=>∃j:Nat,j<=0/\mz=0-j/\az=⟨(ovr (jv az) [(4,4,2,[]),(2,8,0,[vi ((j:Int))]),(0,9,10,[])] t_).toArray,[]⟩/\St w [] [] W) (0-0) ?_ ?_
 exact⟨0,Nat.zero_le _,rfl,(by kernel_rfl),aj.pk []⟩
 rintro n5 a5 W5 ⟨j,hj,rfl,hj_,aK⟩
 refine ovz hj_ fun xE=>?_
 refine wq (sqr ?_)
 have hd7:(decide ((j:Int)<0))=false:=(decide_eq_false (by omega))
 refine sqp [.e 9 (.bool (decide ((j:Int)<0))) (.bool false) (congrArg Value.bool hd7)] ?_
 refine aa (wq (wcf rfl (wp_exit (al (al (bf (aa (wsq [.k 4 (vi (-1))] ?_))))))))
 exact aa (wp_ret (bpr (vi (-1)) (ag results156 rpt) (Ret.of rfl aK.ext)))
theorem Mk(w:World):
  Calls P_ 111 #[sn,.func (.func 112) #[] #[]] w (Ret (.bool false) w):=by
 go_enter func111,ntmps111
 have aj:=St.start w
 refine wsq [.k 4 (.bool false)] ?_
 refine aa (wsq [.m 5 0,.m 6 1] ?_)
 refine sqk (vi ((-1))) aj (fun cx=>⟨_,OJ _,(aN (cx.ou 5) (cx.ou 6))⟩) fun W4 aZ=>?_
 refine sqp [.k 8 (.bool (decide (0<=(-1)))),.m 4 8] ?_
 exact aa (wp_ret (bpr (.bool (decide (0<=(-1)))) (ag results111 rpt) (Ret.bool (by decide) aZ.ext)))
theorem Ou(w:World):
  Calls P_ 180 #[sn,.func (.func 158) #[] #[]] w (Ret (.int .i64 (-1)) w):=by
 go_enter func180,ntmps180
 have aj:=St.start w
 refine wsq [.k 4 (vi 0)] ?_
 refine aa (wq (wsq [.m 6 0,.k 7 (vi 0),.k 8 (vi 0)] ?_))
 refine aa (wp_block ?_)
 refine aQ (fun t_ mz az W=>∃j:Nat,j<=0/\mz=0-j/\az=⟨(ovr (jv az) [(4,4,2,[]),(2,8,0,[vi ((j:Int))]),(0,9,10,[])] t_).toArray,[]⟩/\St w [] [] W) (0-0) ?_ ?_
 exact⟨0,Nat.zero_le _,rfl,(by kernel_rfl),aj.pk []⟩
 rintro n5 a5 W5 ⟨j,hj,rfl,hj_,aK⟩
 refine ovz hj_ fun xE=>?_
 refine wq (sqr ?_)
 have hd7:(decide ((j:Int)<0))=false:=(decide_eq_false (by omega))
 refine sqp [.e 9 (.bool (decide ((j:Int)<0))) (.bool false) (congrArg Value.bool hd7)] ?_
 refine aa (wq (wcf rfl (wp_exit (al (al (bf (aa (wsq [.k 4 (vi (-1))] ?_))))))))
 exact aa (wp_ret (bpr (vi (-1)) (ag results180 rpt) (Ret.of rfl aK.ext)))
theorem MI(w:World):
  Calls P_ 157 #[sn,.func (.func 158) #[] #[]] w (Ret (.bool false) w):=by
 go_enter func157,ntmps157
 have aj:=St.start w
 refine wsq [.k 4 (.bool false)] ?_
 refine aa (wsq [.m 5 0,.m 6 1] ?_)
 refine sqk (vi ((-1))) aj (fun cx=>⟨_,Ou _,(aN (cx.ou 5) (cx.ou 6))⟩) fun W4 aZ=>?_
 refine sqp [.k 8 (.bool (decide (0<=(-1)))),.m 4 8] ?_
 exact aa (wp_ret (bpr (.bool (decide (0<=(-1)))) (ag results157 rpt) (Ret.bool (by decide) aZ.ext)))
theorem D5(w:World):
  Calls P_ 113 #[sn] w (Ret (.bool true) w):=by
 go_enter func113,ntmps113
 have aj:=St.start w
 refine wsq [.k 2 (.bool false)] ?_
 refine aa (wsq [.m 3 0,.k 4 (vi 0),.k 5 (.bool true),.k 6 (.bool true)] ?_)
 refine de 6 [7,8,9] rfl rfl ?_
 refine sqp [.m 7 0] ?_
 refine sqk (.bool false) aj (fun cx=>⟨_,MI _,(aN (cx.ou 7) (cx.sees.func _))⟩) fun W7 aW=>?_
 refine sqp [.k 9 (.bool true)] ?_
 refine sqp [.k 10 (.bool true),.k 2 (.bool true)] ?_
 exact aa (wp_ret (bpr (.bool true) (ag results113 rpt) (Ret.bool (by decide) aW.ext)))
theorem lX(k x t:Int)(A:Option Addr)(c:Nat)(l:List EdT)(note:ByteArray)(w:World)(hA:At w A (l.flatMap edC))(hl:l.length<=1000000)(hz:∀e∈l,e.2.2.size<=9223372036854775807)(hns:note.size<=9223372036854775807):
  Calls P_ 51 #[.agg #[.int .i64 k,.int .i64 x,.int .i64 t,sn,sn,.slice A l.length c,sn,.string note]] w (Ret (.bool (bt ⟨k,x,t,l,note⟩)) w):=by
 go_enter func51,ntmps51
 have aj:=St.start w
 refine wq (sqr ?_)
 refine bX #[vi k,vi x,vi t,sn,sn,.slice A l.length c,sn,.string note] aj fun ay W1 ax=>?_
 refine sqp [.k 2 (.bool false)] ?_
 refine aa (wsq [.k 6 (vp ay)] ?_)
 refine am 0 ax ?_
 refine sqk (.bool (inB k 1 10)) ax (fun cx=>⟨_,fF k 1 10 _,(dH (cx.ou 7) (cx.co _) (cx.co _))⟩) fun W5 aK=>?_
 refine sqp [.m 9 8] ?_
 refine qO 9 [10,11,12] ?_ aK rfl (fun hq=>?_) fun xw dL=>?_
 rotate_left
 refine sqp [.k 10 (po ay 1)] ?_
 refine am 0 aK ?_
 refine sqk (.bool (inB x 0 127)) aK (fun cx=>⟨_,fF x 0 127 _,(dH (cx.ou 11) (cx.co _) (cx.co _))⟩) fun W9 cw=>?_
 exact sqE cw
 refine c7 ?_
 refine sqp [sPa 13 (inB k 1 10) (inB x 0 127),.m 14 13] ?_
 refine qO 14 [15,16,17] ?_ dL rfl (fun hq=>?_) fun p5 dl=>?_
 rotate_left
 refine sqp [.k 15 (po ay 2)] ?_
 refine am 0 dL ?_
 refine sqk (.bool (inB t 0 65535)) dL (fun cx=>⟨_,fF t 0 65535 _,(dH (cx.ou 16) (cx.co _) (cx.co _))⟩) fun B0 gv=>?_
 exact sqE gv
 refine c7 ?_
 refine sqp [sPa 18 ((inB k 1 10)&&(inB x 0 127)) (inB t 0 65535),.m 3 18] ?_
 refine aa (wsq [.k 19 (po ay 5)] ?_)
 refine am 0 dl ?_
 refine sqp [.k 21 (vi ((l.length:Int))),.k 22 (.bool (decide ((l.length:Int)<=64))),.m 23 22] ?_
 refine qO 23 [24,25,26,27] ?_ dl rfl (fun hq=>?_) fun zN dN=>?_
 rotate_left
 refine sqp [.k 24 (po ay 5)] ?_
 refine am 0 dl ?_
 refine sqk (.bool (!(l.all edR))) dl (fun cx=>⟨_,Lp _ _ l _ (hA.ext cx.upd.to_ext) hl hz,(aN (cx.ou 25) (cx.sees.func _))⟩) fun xD fD=>?_
 refine sqp [.k 27 (.bool (!(!(l.all edR))))] ?_
 exact sqE fD
 refine c7 ?_
 refine sqp [sPa 28 (decide ((l.length:Int)<=64)) (!(!(l.all edR))),.m 4 28] ?_
 refine aa (wsq [.k 29 (po ay 6)] ?_)
 refine am 0 dN ?_
 refine sqp [.k 31 (vi 0),.k 32 (.bool true),.k 33 (.bool true)] ?_
 refine de 33 [34,35,36,37] rfl rfl ?_
 refine sqp [.k 34 (po ay 6)] ?_
 refine am 0 dN ?_
 refine sqk (.bool false) dN (fun cx=>⟨_,Mk _,(aN (cx.ou 35) (cx.sees.func _))⟩) fun FP iC=>?_
 refine sqp [.k 37 (.bool true)] ?_
 refine sqp [.k 38 (.bool true),.k 5 (.bool true)] ?_
 refine aa (wsq [.m 39 3,.m 40 39] ?_)
 refine sqw 40 [41] rfl (fun _=>sqp [.m 41 4] sqe) ?_
 refine sqp [sPa 42 (((inB k 1 10)&&(inB x 0 127))&&(inB t 0 65535)) ((decide ((l.length:Int)<=64))&&(!(!(l.all edR)))),.m 43 42] ?_
 refine sqw 43 [44] rfl (fun _=>sqp [.k 44 (.bool true)] sqe) ?_
 refine sqp [sPa 45 ((((inB k 1 10)&&(inB x 0 127))&&(inB t 0 65535))&&((decide ((l.length:Int)<=64))&&(!(!(l.all edR))))) true,.m 46 45] ?_
 refine qO 46 [47,48,49] ?_ iC rfl (fun hq=>?_) fun PS kV=>?_
 rotate_left
 refine sqp [.k 47 (po ay 3)] ?_
 refine am 0 iC ?_
 refine sqk (.bool true) iC (fun cx=>⟨_,D5 _,(av (cx.ou 48))⟩) fun B1 cJ=>?_
 exact sqE cJ
 refine c7 ?_
 refine sqp [sPa 50 (((((inB k 1 10)&&(inB x 0 127))&&(inB t 0 65535))&&((decide ((l.length:Int)<=64))&&(!(!(l.all edR)))))&&true) true,.m 51 50] ?_
 refine qO 51 [52,53,54] ?_ kV rfl (fun hq=>?_) fun FO f6=>?_
 rotate_left
 refine sqp [.k 52 (po ay 4)] ?_
 refine am 0 kV ?_
 refine sqk (.bool true) kV (fun cx=>⟨_,D5 _,(av (cx.ou 53))⟩) fun Jp kf=>?_
 exact sqE kf
 refine c7 ?_
 refine sqp [sPa 55 ((((((inB k 1 10)&&(inB x 0 127))&&(inB t 0 65535))&&((decide ((l.length:Int)<=64))&&(!(!(l.all edR)))))&&true)&&true) true,.m 56 55] ?_
 refine d3 56 [57,58,59,60] ?_ rfl (fun hq=>?_) ?_
 rotate_left
 refine sqp [.k 57 (po ay 7)] ?_
 refine am 0 f6 ?_
 refine sqp [.k 59 (vi ((note.size:Int))),.k 60 (.bool (decide ((note.size:Int)<=60000)))] ?_
 exact sqe
 refine c7 ?_
 refine sqp [sPa 61 (((((((inB k 1 10)&&(inB x 0 127))&&(inB t 0 65535))&&((decide ((l.length:Int)<=64))&&(!(!(l.all edR)))))&&true)&&true)&&true) (decide ((note.size:Int)<=60000)),.m 2 61] ?_
 exact aa (wp_ret (bpr (.bool ((((((((inB k 1 10)&&(inB x 0 127))&&(inB t 0 65535))&&((decide ((l.length:Int)<=64))&&(!(!(l.all edR)))))&&true)&&true)&&true)&&(decide ((note.size:Int)<=60000)))) (ag results51 rpt) (Ret.bool (by simp[bt,Bool.and_assoc]) f6.ext)))
end
section
open Go.RowKit
theorem Ext.below_{x z:World}(k:Below x.heap.size x z):Ext x z:=⟨k.os,k.tape,k.output,k.size,fun i hi=>k.block i hi⟩
def b8(l:List ByteArray):ByteArray:=bC (l.flatMap fun s=>s.data.toList)
theorem fP:b8 []=⟨#[]⟩:=rfl
theorem bx(a:ByteArray)(l:List ByteArray):b8 (a::l)=a++b8 l:=by
 rw[b8,List.flatMap_cons,nP];congr 1
theorem gm(l:List ByteArray):(b8 l).size=(l.map (·.size)).sum:=by
 induction l with
 |nil=>rfl
 |cons a l ih=>rw[bx,ByteArray.size_append,ih,List.map_cons,List.sum_cons]
theorem Kt(g cap:Nat)(xs:List ByteArray)(w:World)(hA:At w (some ⟨g,0,none⟩) (xs.map Value.string))(hg:g<w.heap.size)(hc:xs.length<=cap)(hlen:(b8 xs).size<=2000000)(hN:xs.length<=100):
  Calls P_ 163 #[.slice (some ⟨g,0,none⟩) xs.length cap,.string ⟨#[]⟩] w (Ret (.string (b8 xs)) w):=by
 have hj:Lib.join (xs.map (·.data.toList)) []=xs.flatMap fun s=>s.data.toList:=by
  rw[Lib.join,List.intercalate]
  have:∀l:List (List UInt8),(List.intersperse [] l).flatten=l.flatten:=by
   intro l
   induction l with
   |nil=>rfl
   |cons a l ih=>
    cases l with
    |nil=>rfl
    |cons b l=>rw[List.intersperse_cons_cons,List.flatten_cons,List.flatten_cons,ih];simp
  rw[this,List.flatMap_def]
 refine(Tryz.strings_Join g 0 cap xs ⟨#[]⟩ w (fun j x hx=>?_) hg (by omega) hc ?_).mono ?_
 obtain⟨ad,h1,h2,h3⟩:=hA j (.string x) (by simp[hx])
 injection h1 with h1
 subst h1
 have e:(⟨g,0+j,none⟩:Addr)=(⟨g,0,none⟩:Addr).add j:=by simp[Addr.add]
 rw[e];exact h3
 show (Lib.join (xs.map (·.data.toList)) []).length<= _
 rw[hj]
 have:(xs.flatMap fun s=>s.data.toList).length=(b8 xs).size:=(la _).symm
 omega
 rintro e w' ⟨rfl,hb⟩
 refine⟨?_,Ext.below_ hb⟩
 show Ending.returned (.string ⟨(Lib.join (xs.map (·.data.toList)) []).toArray⟩)= _
 rw[hj]
 rfl
theorem G6(g cap:Nat)(xs:List ByteArray)(w:World)(hA:At w (some ⟨g,0,none⟩) (xs.map Value.string))(hg:g<w.heap.size)(hcp:xs.length<=cap)(hlen:(b8 xs).size<=2000000)(hN:xs.length<=100):
  Calls P_ 119 #[.slice ((some ⟨g,0,none⟩)) xs.length cap] w (Ret (.string (b8 xs)) w):=by
 go_enter func119,ntmps119
 have aj:=St.start w
 refine wsq [.k 2 (.string ⟨#[]⟩)] ?_
 refine aa (wsq [.m 3 0] ?_)
 refine sqk (.string ((b8 xs))) aj (fun cx=>⟨_,Kt g cap xs _ (hA.ext cx.upd.to_ext) (Nat.lt_of_lt_of_le hg cx.upd.size) hcp hlen hN,(aN (cx.ou 3) (cx.co _))⟩) fun W3 aU=>?_
 refine sqp [.m 2 4] ?_
 exact aa (wp_ret (bpr (.string ((b8 xs))) (ag results119 rpt) (Ret.of rfl aU.ext)))
theorem mE(v:Value)(xs:List ByteArray)(w:World)(hown:w.ownsRow 0 9 1 v xs.length (xs.map Value.string))(hne:0<xs.length)(hlen:(b8 xs).size<=2000000)(hN:xs.length<=100):Calls P_ 119 #[v] w (Ret (.string (b8 xs)) w):=by
 have hlt:=hown.lt
 rcases hown.2 with ⟨hv,h0⟩|⟨g,cap,cur,hv,hb,hg,hle,hmx,hcs,htk⟩
 omega
 subst hv
 exact G6 g cap xs w (At.of_own hown) (hlt g rfl).2 (by omega) hlen hN
theorem k0(n:Int)(w:World):
  Calls P_ 160 #[.int .i64 n] w (Ret (.string (ah n 1)) w):=by
 go_enter func160,ntmps160
 have aj:=St.start w
 refine wsq [.k 2 (.string ⟨#[]⟩)] ?_
 refine aa (wsq [.m 3 0] ?_)
 refine sqk (.string (ah n 1)) aj (fun cx=>⟨_,qy n _,(aN (cx.ou 3) (cx.co _))⟩) fun W3 aU=>?_
 refine sqp [.m 2 4] ?_
 exact aa (wp_ret (bpr (.string (ah n 1)) (ag results160 rpt) (Ret.of rfl aU.ext)))
theorem wJ(n:Int)(w:World):
  Calls P_ 161 #[.int .i64 n] w (Ret (.string (ah n 2)) w):=by
 go_enter func161,ntmps161
 have aj:=St.start w
 refine wsq [.k 2 (.string ⟨#[]⟩)] ?_
 refine aa (wsq [.m 3 0] ?_)
 refine sqk (.string (ah n 2)) aj (fun cx=>⟨_,xu n _,(aN (cx.ou 3) (cx.co _))⟩) fun W3 aU=>?_
 refine sqp [.m 2 4] ?_
 exact aa (wp_ret (bpr (.string (ah n 2)) (ag results161 rpt) (Ret.of rfl aU.ext)))
end
section
open Go.RowKit
def dd(l:List UInt8):ByteArray:=⟨l.toArray⟩
def iE:ByteArray:=aV ⟨#[0]⟩
def hdB(r:RecM):ByteArray:=b8 [ah r.kind 1,ah r.xid 1,ah r.tbl 2,iE,iE,ah (r.eds.length:Int) 1]
def edB(s:ByteArray)(e:EdT):ByteArray:=b8 [s,ah e.1 2,ah (e.2.1+1) 1,aV e.2.2]
def cW(s:ByteArray)(l:List EdT):ByteArray:=l.foldl edB s
def aw(r:RecM):ByteArray:=if bt r=true then b8 [b8 [cW (hdB r) r.eds,ah 0 1],aV r.note] else ⟨#[]⟩
def aA(r:RecM):ByteArray:=if bt r=true then b8 [ah ((aw r).size:Int) 4,ah (bc (aw r):Int) 4,aw r] else ⟨#[]⟩
theorem gA(s:ByteArray):(aV s).size=2+s.size:=by rw[aV,ByteArray.size_append,aE _ _ (by decide)]
theorem wM:iE.size=3:=gA _
theorem gU(r:RecM):(hdB r).size=11:=by
 rw[hdB,gm]
 simp only[List.map_cons,List.map_nil,List.sum_cons,List.sum_nil,wM,aE _ 1 (by decide),aE _ 2 (by decide)]
 rfl
theorem qw(a b:ByteArray):(b8 [a,b]).size=a.size+b.size:=by
 rw[gm];simp only[List.map_cons,List.map_nil,List.sum_cons,List.sum_nil];omega
theorem wW(a b c:ByteArray):(b8 [a,b,c]).size=a.size+b.size+c.size:=by
 rw[gm];simp only[List.map_cons,List.map_nil,List.sum_cons,List.sum_nil];omega
theorem sZ(s:ByteArray)(e:EdT):(edB s e).size=s.size+5+e.2.2.size:=by
 rw[edB,gm]
 simp only[List.map_cons,List.map_nil,List.sum_cons,List.sum_nil,gA,aE _ 1 (by decide),aE _ 2 (by decide)]
 omega
theorem w3{s:ByteArray}(he:l[j]? =some e):cW s (l.take (j+1))=edB (cW s (l.take j)) e:=by
 obtain⟨hj,rfl⟩:=List.getElem?_eq_some_iff.1 he
 rw[cW,List.take_succ_eq_append_getElem hj,List.foldl_append];rfl
theorem jG{l:List EdT}(h:∀e∈l,e.2.2.size<=400):∀s:ByteArray,(cW s l).size<=s.size+l.length*405:=by
 induction l with
 |nil=>intro s;exact Nat.le_refl _
 |cons e l ih=>
  intro s
  have h1:=ih (fun x hx=>h x (by simp[hx])) (edB s e)
  rw[sZ] at h1
  have h2:=h e (by simp)
  show (cW (edB s e) l).size<= _
  rw[List.length_cons,Nat.add_mul]
  omega
theorem dn(h:edR e=true):e.2.2.size<=400:=by
 simp only[edR,Bool.and_eq_true] at h
 have h2:=h.2
 split at h2
 simp only[eX,Bool.not_eq_true',Bool.or_eq_false_iff,decide_eq_false_iff_not] at h2
 omega
 simp only[Bool.and_eq_true,decide_eq_true_eq] at h2
 omega
theorem ll(h:edR e=true):(0<=e.1/\e.1<=399)/\  -1<=e.2.1/\e.2.1<=23:=by
 simp only[edR,inB,Bool.and_eq_true,decide_eq_true_eq] at h
 refine⟨h.1,?_⟩
 have h2:=h.2
 split at h2
 omega
 simp only[Bool.and_eq_true,decide_eq_true_eq] at h2
 omega
structure RecOk (r:RecM):Prop where
 kind:1<=r.kind/\r.kind<=10
 xid:0<=r.xid/\r.xid<=127
 tbl:0<=r.tbl/\r.tbl<=65535
 many:r.eds.length<=64
 eds:∀e∈r.eds,edR e=true
 note:r.note.size<=60000
theorem d4{r:RecM}(h:bt r=true):RecOk r:=by
 simp only[bt,inB,Bool.and_eq_true,decide_eq_true_eq,List.all_eq_true] at h
 exact⟨h.1,h.2.1,h.2.2.1,by omega,h.2.2.2.2.1,by omega⟩
theorem jk(r:RecM):(aw r).size<=100000:=by
 unfold aw
 split
 rename_i h
 have h1:=d4 h
 have h2:=jG (fun e he=>dn (h1.eds e he)) (hdB r)
 have h3:r.eds.length*405<=64*405:=Nat.mul_le_mul_right _ h1.many
 have h4:=h1.note
 rw[gU] at h2
 rw[gm]
 simp only[List.map_cons,List.map_nil,List.sum_cons,List.sum_nil,gA,gm,aE _ 1 (by decide)]
 omega
 exact Nat.zero_le _
theorem EY(w:World):
  Calls P_ 181 #[sn] w (Ret (.bool true) w):=by
 go_enter func181,ntmps181
 have aj:=St.start w
 refine wsq [.k 2 (.bool false)] ?_
 refine aa (wq (wsq [.m 5 0,.k 6 (vi 0),.k 7 (vi 0)] ?_))
 refine aa (wp_block ?_)
 refine aQ (fun t_ mz az W=>∃j:Nat,j<=0/\mz=0-j/\az=⟨(ovr (jv az) [(2,2,1,[]),(1,4,1,[]),(2,7,0,[vi ((j:Int))]),(0,8,7,[])] t_).toArray,[]⟩/\St w [] [] W) (0-0) ?_ ?_
 exact⟨0,Nat.zero_le _,rfl,(by kernel_rfl),aj.pk []⟩
 rintro n5 a5 W5 ⟨j,hj,rfl,hj_,aK⟩
 refine ovz hj_ fun xE=>?_
 refine wq (sqr ?_)
 have hd7:(decide ((j:Int)<0))=false:=(decide_eq_false (by omega))
 refine sqp [.e 8 (.bool (decide ((j:Int)<0))) (.bool false) (congrArg Value.bool hd7)] ?_
 refine aa (wq (wcf rfl (wp_exit (al (al (bf (aa (wsq [.m 15 0,.k 16 (vi 0),.k 17 (.bool true),.k 2 (.bool true)] ?_))))))))
 exact aa (wp_ret (bpr (.bool true) (ag results181 rpt) (Ret.bool (by decide) aK.ext)))
theorem wU(w:World):
  Calls P_ 162 #[sn] w (Ret (.string ⟨#[0]⟩) w):=by
 go_enter func162,ntmps162
 have aj:=St.start w
 refine wsq [.k 2 (.string ⟨#[]⟩)] ?_
 refine aa (wq (wsq [.m 6 0] ?_))
 refine sqk (.bool true) aj (fun cx=>⟨_,EY _,(av (cx.ou 6))⟩) fun W3 aU=>?_
 refine sqp [.k 8 (.bool false)] ?_
 refine aa (wcf rfl (wp_skip (aa (wq (sqr (bW #[.pointer none,sn] aU fun Dd W5 aK=>?_))))))
 refine aa (wsq [.m 9 0,.k 10 (vi 0),sW 11 .u8 0 0 (by decide)] ?_)
 refine bF (fun X_=>rO X_) (.nilIface) (fun IJ=>eBu Dd IJ [UInt8.ofNat (0:Int).toNat]) 0 aK (by
   refine svA fun ρ β W X cx=>?_
   refine ak.call (rCF (args:=#[vp Dd,.int .u8 0]) cx.sees (aN (cx.ou 3) (cx.ou 11))) ?_
   refine(Oy _ _ [] 0 _ (gI.fresh (cx.bi 0 rfl)) (by omega) (by decide)).mono ?_
   rintro e W1 ⟨rfl,hu⟩
   refine⟨_,rfl,oy (by rw[(cx.init 0 _ rfl)];rfl) rfl rfl hu (fun d f X' hs hb hv hx=>?_)⟩
   exact⟨(hv 12 rfl).1,hx⟩) fun IJ W9 cw=>?_
 refine aa (wq (wsq [.m 13 0,.k 14 (vi 0),.k 15 (vi 0)] ?_))
 refine aa (wp_block ?_)
 refine aQ (fun t_ mz az W=>∃j:Nat,j<=0/\mz=0-j/\az=⟨(ovr (jv az) [(5,5,1,[]),(9,15,0,[vi ((j:Int))]),(0,16,27,[])] t_).toArray,[]⟩/\St w [] [eBu Dd IJ [UInt8.ofNat (0:Int).toNat]] W) (0-0) ?_ ?_
 exact⟨0,Nat.zero_le _,rfl,(by kernel_rfl),cw.pk [0]⟩
 rintro UD a13 FL ⟨j,hj,rfl,hj_,fZ⟩
 refine ovz hj_ fun Te=>?_
 refine wq (sqr ?_)
 have hd15:(decide ((j:Int)<0))=false:=(decide_eq_false (by omega))
 refine sqp [.e 16 (.bool (decide ((j:Int)<0))) (.bool false) (congrArg Value.bool hd15)] ?_
 refine aa (wq (wcf rfl (wp_exit (al (al (bf (aa (wq (aB [0,1] [[0]] [] [[0]] [.a 43,.c 2 (.string (dd ([UInt8.ofNat (0:Int).toNat])))] (fun ix d β X=>match ix with|0=>d 43= .string (dd ([UInt8.ofNat (0:Int).toNat]))|_=>True) [] [0,1] [(2,1,1,3),(40,0,1,41)] fZ ?_ ?_ ?_)))))))))
 exact fun ix _ _ _ _ _ _ hs hb hx h=>match ix,h with
 |0,h=>(hs _ rfl).symm.trans h
 |_+1,_=>trivial
 refine⟨?_,?_,trivial⟩
 refine svA fun ρ β W X cx=>?_
 refine ak.call (rCF (args:=#[vp Dd]) cx.sees (av (cx.ou 3))) ?_
 refine(Kg _ _ ([UInt8.ofNat (0:Int).toNat]) _ (cx.sb (cx.init 0 _ rfl) rfl) (by simp) (by(try simp only[List.length_append,List.length_cons,List.length_nil]);omega)).mono ?_
 rintro e W1 ⟨rfl,hu⟩
 refine⟨_,rfl,wY (by rw[(cx.init 0 _ rfl)];rfl) rfl rfl hu (fun d f X' hs hb hv=>?_)⟩
 exact(hv 43 rfl).1
 exact xs4 rfl id fun cx=>cS rfl (dTn (cx.an 0))
 intro d β X p5 hD dl fr aC
 simp only[ed 43 ((dTn (hD 0 lq)))] at aC
 clear hD;subst aC;clear d β X
 exact aa (wp_ret (bpr (.string (dd ([UInt8.ofNat (0:Int).toNat]))) (ag results162 rpt) (Ret.of rfl dl.ext)))
theorem CL(k x t:Int)(A:Option Addr)(c:Nat)(l:List EdT)(note:ByteArray)(w:World)(hA:At w A (l.flatMap edC))(hl:l.length<=1000000)(hz:∀e∈l,e.2.2.size<=9223372036854775807)(hns:note.size<=9223372036854775807):
  Calls P_ 118 #[.agg #[.int .i64 k,.int .i64 x,.int .i64 t,sn,sn,.slice A l.length c,sn,.string note]] w (Ret (.string (aw ⟨k,x,t,l,note⟩)) w):=by
 go_enter func118,ntmps118
 have aj:=St.start w
 refine wq (sqr ?_)
 refine bX #[vi k,vi x,vi t,sn,sn,.slice A l.length c,sn,.string note] aj fun ay W1 ax=>?_
 refine sqp [.k 2 (.string ⟨#[]⟩)] ?_
 refine aa (wq (wq (sqr ?_)))
 refine bD 0 8 ax ?_
 refine sqk (.bool (bt ⟨k,x,t,l,note⟩)) ax (fun cx=>⟨_,lX k x t _ _ l note _ (hA.ext cx.upd.to_ext) hl hz hns,(av (cx.ou 8))⟩) fun W4 aZ=>?_
 refine sqp [.k 10 (.bool (!(bt ⟨k,x,t,l,note⟩)))] ?_
 refine aa ?_
 rcases Bool.eq_false_or_eq_true (bt ⟨k,x,t,l,note⟩) with dC|dC
 refine wp_cond_false (show Act.eval _ _= .bool false from(congrArg Value.bool (by rw[dC];rfl))) (wp_skip (aa (wq ?_)))
 have hrr:=dC
 have hro:=d4 hrr
 have hrm:l.length<=64:=hro.many
 have hrn:note.size<=60000:=hro.note
 refine aB [0,1,3,0,8,31,0,64,255,0,512,2047,4095,0,8192,32767,65535,0,131072,393216,1048575,2097151,4194303,8388607] [[],[0],[],[],[0],[],[],[0],[],[],[0],[],[],[],[0],[],[],[],[0],[],[],[],[1]] [[],[],[],[],[],[],[],[],[],[],[],[],[],[],[],[],[],[],[],[],[],[1]] [] [.k 11 (vp ay),.c 12 (vi k),.c 13 (.string (ah k 1)),.k 14 (po ay 1),.c 15 (vi x),.c 16 (.string (ah x 1)),.k 17 (po ay 2),.c 18 (vi t),.c 19 (.string (ah t 2)),.k 20 (po ay 3),.c 21 (sn),.c 22 (.string ((⟨#[0]⟩:ByteArray))),.c 23 (.string (aV (⟨#[0]⟩:ByteArray))),.k 24 (po ay 4),.c 25 (sn),.c 26 (.string ((⟨#[0]⟩:ByteArray))),.c 27 (.string (aV (⟨#[0]⟩:ByteArray))),.k 28 (po ay 5),.c 29 (.slice A l.length c),.k 30 (vi ((l.length:Int))),.c 31 (.string (ah (l.length:Int) 1)),.a 32,.c 33 (.string ((b8 [(ah k 1),(ah x 1),(ah t 2),(aV (⟨#[0]⟩:ByteArray)),(aV (⟨#[0]⟩:ByteArray)),(ah (l.length:Int) 1)]))),.k 3 (.string ((b8 [(ah k 1),(ah x 1),(ah t 2),(aV (⟨#[0]⟩:ByteArray)),(aV (⟨#[0]⟩:ByteArray)),(ah (l.length:Int) 1)])))] (fun ix d β X=>match ix with|0|1|2|3|4|5|6|7|8|9|10|11|12|13|14|15|16|17|18|19|20=>True|21=>d 32= .slice (sA (β 32)) 6 6/\X 1=eO 9 1 (.slice (sA (β 32)) 6 6) 6 ([.string (ah k 1),.string (ah x 1),.string (ah t 2),.string (aV (⟨#[0]⟩:ByteArray)),.string (aV (⟨#[0]⟩:ByteArray)),.string (ah (l.length:Int) 1)])|_=>True) [0,1] [1,2,4,5,7,8,10,11,12,14,15,16,18,20,21,22] [(3,23,1,4),(7,0,23,30)] aZ ?_ ?_ ?_
 exact fun ix _ _ _ _ _ _ hs hb hx h=>match ix,h with
 |21,h=>by dsimp only;rw[<-hs 32 rfl,<-hb 32 rfl,<-hx 1 rfl];exact h
 |0,_|1,_|2,_|3,_|4,_|5,_|6,_|7,_|8,_|9,_|10,_|11,_|12,_|13,_|14,_|15,_|16,_|17,_|18,_|19,_|20,_|_+22,_=>trivial
 refine⟨?_,?_,?_,?_,?_,?_,?_,?_,?_,?_,?_,?_,?_,?_,?_,?_,trivial⟩
 exact xs4 rfl id fun cx=>rL1 (cx.an 0) ((cx.bi 0 rfl).cell 0)
 exact xsc rfl id rfl rfl fun cx=>⟨_,k0 k _,(av (cx.an 1))⟩
 exact xs4 rfl id fun cx=>rL1 (cx.an 3) ((cx.bi 0 rfl).cell 1)
 exact xsc rfl id rfl rfl fun cx=>⟨_,k0 x _,(av (cx.an 4))⟩
 exact xs4 rfl id fun cx=>rL1 (cx.an 6) ((cx.bi 0 rfl).cell 2)
 exact xsc rfl id rfl rfl fun cx=>⟨_,wJ t _,(av (cx.an 7))⟩
 exact xs4 rfl id fun cx=>rL1 (cx.an 9) ((cx.bi 0 rfl).cell 3)
 exact xsc rfl id rfl rfl fun cx=>⟨_,wU _,(av (cx.an 10))⟩
 exact xsc rfl id rfl rfl fun cx=>⟨_,lj (⟨#[0]⟩:ByteArray) _ (by decide),(av (cx.an 11))⟩
 exact xs4 rfl id fun cx=>rL1 (cx.an 13) ((cx.bi 0 rfl).cell 4)
 exact xsc rfl id rfl rfl fun cx=>⟨_,wU _,(av (cx.an 14))⟩
 exact xsc rfl id rfl rfl fun cx=>⟨_,lj (⟨#[0]⟩:ByteArray) _ (by decide),(av (cx.an 15))⟩
 exact xs4 rfl id fun cx=>rL1 (cx.an 17) ((cx.bi 0 rfl).cell 5)
 exact xsc rfl id rfl rfl fun cx=>⟨_,k0 (l.length:Int) _,(av (cx.an 19))⟩
 refine svA fun ρ β W X cx=>?_
 have Qg:ρ (.tmp 13)= .string (ah k 1):=(cx.an 2)
 have IK:ρ (.tmp 16)= .string (ah x 1):=(cx.an 5)
 have Qh:ρ (.tmp 19)= .string (ah t 2):=(cx.an 8)
 have IL:ρ (.tmp 23)= .string (aV (⟨#[0]⟩:ByteArray)):=(cx.an 12)
 have Qi:ρ (.tmp 27)= .string (aV (⟨#[0]⟩:ByteArray)):=(cx.an 16)
 have Qj:ρ (.tmp 31)= .string (ah (l.length:Int) 1):=(cx.an 20)
 exact dA (e:=9) (xs:=[.string (ah k 1),.string (ah x 1),.string (ah t 2),.string (aV (⟨#[0]⟩:ByteArray)),.string (aV (⟨#[0]⟩:ByteArray)),.string (ah (l.length:Int) 1)]) rfl (by simp[go_sem,Qg,IK,Qh,IL,Qi,Qj]) rfl (by decide) rfl rfl (fun _ _ _ _ _=> .intro)
 exact xsc rfl id rfl rfl fun cx=>⟨_,mE _ [(ah k 1),(ah x 1),(ah t 2),(aV (⟨#[0]⟩:ByteArray)),(aV (⟨#[0]⟩:ByteArray)),(ah (l.length:Int) 1)] _ (cx.row (dTn (cx.an 21)).2 rfl) (by simp) (Nat.le_trans (Nat.le_of_eq (gU ⟨k,x,t,l,note⟩)) (by decide)) (by simp),(av (dTn (cx.an 21)).1)⟩
 intro d β X W7 hD aW fr aC
 simp only[exq 1 ((dTn (hD 21 lq)).2)] at aW
 simp only[ed 32 ((dTn (hD 21 lq)).1)] at aC
 generalize sA (β 32)=Jq at aW aC
 clear hD;subst aC;clear d β X
 refine aa (wq (wsq [.k 34 (po ay 5)] ?_))
 refine am 0 aW ?_
 refine sqp [.k 36 (vi ((l.length:Int))),.k 37 (vi 0)] ?_
 refine aa (wp_block ?_)
 refine aQ (fun t_ mz az W=>∃j:Nat,∃sj:ByteArray,j<=l.length/\sj=cW (hdB ⟨k,x,t,l,note⟩) (l.take j)/\mz=l.length-j/\az=⟨(ovr (jv az) [(3,3,0,[.string sj]),(1,5,1,[]),(31,37,0,[vi ((j:Int))]),(0,38,17,[])] t_).toArray,[]⟩/\St w [] [eB ay 27 #[vi k,vi x,vi t,sn,sn,.slice A l.length c,sn,.string note],eO 9 1 (.slice Jq 6 6) 6 ([.string (ah k 1),.string (ah x 1),.string (ah t 2),.string (aV (⟨#[0]⟩:ByteArray)),.string (aV (⟨#[0]⟩:ByteArray)),.string (ah (l.length:Int) 1)])] W) (l.length-0) ?_ ?_
 exact⟨0,(b8 [(ah k 1),(ah x 1),(ah t 2),(aV (⟨#[0]⟩:ByteArray)),(aV (⟨#[0]⟩:ByteArray)),(ah (l.length:Int) 1)]),Nat.zero_le _,rfl,rfl,(by kernel_rfl),aW.pk [0,1]⟩
 rintro PT a12 sF ⟨j,sj,hj,hsj,rfl,hj_,cP⟩
 refine ovz hj_ fun MX=>?_
 refine wsq [.k 38 (.bool (decide ((j:Int)<(l.length:Int))))] ?_
 refine aa (wq (wds (fun gO pF=>?_) fun gO pF=>?_))
 refine wp_skip (aa (wq (wp_block (wq ?_))))
 obtain⟨ep,es,eb,hek⟩:=k9 (l:=l) (k:=j) (by omega)
 have her:edR (ep,es,eb)=true:=hro.eds _ (List.mem_of_getElem? hek)
 have hez:eb.size<=400:=dn her
 obtain⟨hep_,hes_⟩:=ll her
 have hes_: -1<=es/\es<=23:=hes_
 have hsz:=jG (l:=l.take j) (fun e he=>dn (hro.eds e (List.mem_of_mem_take he))) (hdB ⟨k,x,t,l,note⟩)
 rw[<-hsj,gU,List.length_take] at hsz
 have hszb:(edB sj (ep,es,eb)).size<=2000000:=by rw[sZ];show sj.size+5+eb.size<= _;omega
 refine sqr ?_
 refine sql (.pointer (some ((ad A).add (j*3)))) cP (fun cx=>aD (e:=84) (m:=j) (sz:=3) rfl (by kernel_rfl) (by kernel_rfl) (cx.ou 35) (cx.ou 37) (by omega) (by omega) (hA.ext cx.upd.to_ext) (bm (sz:=3) bE (by decide) (by omega))) ?_
 refine sql (.agg #[vi ep,vi es,.string eb]) cP (fun cx=>bS (f:=edC) (m:=j) (sz:=3) (off:=0) (n:=3) rfl (by kernel_rfl) (by kernel_rfl) (cx.ou 39) rfl bE (hA.ext cx.upd.to_ext) hek (fun k hk=>match k,hk with|0,_=>rfl|1,_=>rfl|2,_=>rfl|k+3,hk=>absurd hk (by omega))) ?_
 refine bW #[vi 0,vi 0,.string ByteArray.empty] cP fun De qT dt=>?_
 refine aT (n:=3) 2 #[vi ep,vi es,.string eb] dt fun MY nI=>?_
 refine aa (aB [0,0,2,6,0,16,48,126,0,256,1022,2047,4095,8191] [[],[],[2],[],[],[2],[],[],[],[2],[],[],[3]] [[],[],[],[],[],[],[],[],[],[],[],[3]] [] [.k 41 (.string sj),.k 42 (vp De),.c 43 (vi ep),.c 44 (.string (ah ep 2)),.k 45 (po De 1),.c 46 (vi es),tI 47 (es+1) (by omega),.c 48 (.string (ah (es+1) 1)),.k 49 (po De 2),.c 50 (.string eb),.c 51 (.string (aV eb)),.a 52,.c 53 (.string ((b8 [sj,(ah ep 2),(ah (es+1) 1),(aV eb)]))),.k 3 (.string ((b8 [sj,(ah ep 2),(ah (es+1) 1),(aV eb)])))] (fun ix d β X=>match ix with|0|1|2|3|4|5|6|7|8|9|10=>True|11=>d 52= .slice (sA (β 52)) 4 4/\X 3=eO 9 1 (.slice (sA (β 52)) 4 4) 4 ([.string sj,.string (ah ep 2),.string (ah (es+1) 1),.string (aV eb)])|_=>True) [0,1,2,3] [2,3,5,7,9,10,11,12] [(3,13,1,4),(37,0,13,50)] nI ?_ ?_ ?_)
 exact fun ix _ _ _ _ _ _ hs hb hx h=>match ix,h with
 |11,h=>by dsimp only;rw[<-hs 52 rfl,<-hb 52 rfl,<-hx 3 rfl];exact h
 |0,_|1,_|2,_|3,_|4,_|5,_|6,_|7,_|8,_|9,_|10,_|_+12,_=>trivial
 refine⟨?_,?_,?_,?_,?_,?_,?_,?_,trivial⟩
 exact xs4 rfl id fun cx=>rL1 (cx.an 1) ((cx.bi 2 rfl).cell 0)
 exact xsc rfl id rfl rfl fun cx=>⟨_,wJ ep _,(av (cx.an 2))⟩
 exact xs4 rfl id fun cx=>rL1 (cx.an 4) ((cx.bi 2 rfl).cell 1)
 exact xsc rfl id rfl rfl fun cx=>⟨_,k0 (es+1) _,(av (cx.an 6))⟩
 exact xs4 rfl id fun cx=>rL1 (cx.an 8) ((cx.bi 2 rfl).cell 2)
 exact xsc rfl id rfl rfl fun cx=>⟨_,lj eb _ (by omega),(av (cx.an 9))⟩
 refine svA fun ρ β W X cx=>?_
 have zO:ρ (.tmp 41)= .string sj:=(cx.an 0)
 have Qk:ρ (.tmp 44)= .string (ah ep 2):=(cx.an 3)
 have IM:ρ (.tmp 48)= .string (ah (es+1) 1):=(cx.an 7)
 have Ql:ρ (.tmp 51)= .string (aV eb):=(cx.an 10)
 exact dA (e:=9) (xs:=[.string sj,.string (ah ep 2),.string (ah (es+1) 1),.string (aV eb)]) rfl (by simp[go_sem,zO,Qk,IM,Ql]) rfl (by decide) rfl rfl (fun _ _ _ _ _=> .intro)
 exact xsc rfl id rfl rfl fun cx=>⟨_,mE _ [sj,(ah ep 2),(ah (es+1) 1),(aV eb)] _ (cx.row (dTn (cx.an 11)).2 rfl) (by simp) hszb (by simp),(av (dTn (cx.an 11)).1)⟩
 intro d β X qV hD cU fr aC
 simp only[exq 3 ((dTn (hD 11 lq)).2)] at cU
 simp only[ed 52 ((dTn (hD 11 lq)).1)] at aC
 generalize sA (β 52)=Rp at cU aC
 clear hD;subst aC;clear d β X
 refine aq (aa (sqs [sI 54 ((j:Int)+1) (by omega),.m 37 54] ?_))
 refine aa ?_
 refine⟨l.length-((j+1)),by omega,?_⟩
 exact⟨(j+1),(b8 [sj,(ah ep 2),(ah (es+1) 1),(aV eb)]),by omega,by rw[w3 hek,<-hsj];rfl,rfl,(by kernel_rfl),cU.pk [0,1]⟩
 refine wp_exit (al (al (bf (aa (wq ?_)))))
 obtain rfl:j=l.length:=by omega
 rw[List.take_length] at hsj
 have hsz:=jG (l:=l) (fun e he=>dn (hro.eds e he)) (hdB ⟨k,x,t,l,note⟩)
 rw[<-hsj,gU] at hsz
 have hz9:(b8 [sj,ah 0 1]).size<=2000000:=by rw[qw,aE _ _ (by decide)];omega
 have hz15:(b8 [b8 [sj,ah 0 1],aV note]).size<=2000000:=by rw[qw,qw,gA,aE _ _ (by decide)];omega
 refine sqs [.m 55 3,.k 56 (po ay 6)] ?_
 refine am 0 cP ?_
 refine sqp [.k 58 (vi 0)] ?_
 refine sqk (.string (ah 0 1)) cP (fun cx=>⟨_,k0 0 _,(av (cx.ou 58))⟩) fun xD fD=>?_
 refine d9 (fun x_=>sA x_) (fun qX=> .slice qX 2 2) (fun qX=>eO 9 1 (.slice qX 2 2) 2 ([.string sj,.string (ah 0 1)])) fD (by
   refine svA fun ρ β W X cx=>?_
   have IN:ρ (.tmp 55)= .string sj:=(cx.ou 55)
   have Qm:ρ (.tmp 59)= .string (ah 0 1):=(cx.ou 59)
   exact dA (e:=9) (xs:=[.string sj,.string (ah 0 1)]) rfl (by simp[go_sem,IN,Qm]) rfl (by decide) rfl rfl (fun _ _ _ _ _=> .intro)) fun qX xz d6=>?_
 refine sqk (.string ((b8 [sj,(ah 0 1)]))) d6 (fun cx=>⟨_,mE _ [sj,(ah 0 1)] _ (cx.ri 2 rfl) (by simp) hz9 (by simp),(av (cx.ou 60))⟩) fun zN dN=>?_
 refine sqp [.m 3 61] ?_
 refine aa (wq (wsq [.k 62 (po ay 6)] ?_))
 refine am 0 dN ?_
 refine sqp [.k 64 (vi 0),.k 65 (vi 0)] ?_
 refine aa (wp_block ?_)
 refine aQ (fun t_ mz az W=>∃j:Nat,j<=0/\mz=0-j/\az=⟨(ovr (jv az) [(7,7,1,[]),(57,65,0,[vi ((j:Int))]),(0,66,9,[])] t_).toArray,[]⟩/\St w [] [eB ay 27 #[vi k,vi x,vi t,sn,sn,.slice A l.length c,sn,.string note],eO 9 1 (.slice Jq 6 6) 6 ([.string (ah k 1),.string (ah x 1),.string (ah t 2),.string (aV (⟨#[0]⟩:ByteArray)),.string (aV (⟨#[0]⟩:ByteArray)),.string (ah (l.length:Int) 1)]),eO 9 1 (.slice qX 2 2) 2 ([.string sj,.string (ah 0 1)])] W) (0-0) ?_ ?_
 exact⟨0,Nat.zero_le _,rfl,(by kernel_rfl),dN.pk [0,1,2]⟩
 rintro UE a34 xA ⟨j,hj,rfl,hj_,ek⟩
 refine ovz hj_ fun Tf=>?_
 refine wq (sqr ?_)
 have hd36:(decide ((j:Int)<0))=false:=(decide_eq_false (by omega))
 refine sqp [.e 66 (.bool (decide ((j:Int)<0))) (.bool false) (congrArg Value.bool hd36)] ?_
 refine aa (wq (wcf rfl (wp_exit (al (al (bf (aa (wsq [.m 75 3,.k 76 (po ay 7)] ?_))))))))
 refine am 0 ek ?_
 refine sqk (.string (aV note)) ek (fun cx=>⟨_,lj note _ (by omega),(av (cx.ou 77))⟩) fun xC d7=>?_
 refine d9 (fun x_=>sA x_) (fun vc=> .slice vc 2 2) (fun vc=>eO 9 1 (.slice vc 2 2) 2 ([.string ((b8 [sj,(ah 0 1)])),.string (aV note)])) d7 (by
   refine svA fun ρ β W X cx=>?_
   have Qn:ρ (.tmp 75)= .string ((b8 [sj,(ah 0 1)])):=(cx.ou 75)
   have Qo:ρ (.tmp 78)= .string (aV note):=(cx.ou 78)
   exact dA (e:=9) (xs:=[.string ((b8 [sj,(ah 0 1)])),.string (aV note)]) rfl (by simp[go_sem,Qn,Qo]) rfl (by decide) rfl rfl (fun _ _ _ _ _=> .intro)) fun vc Jl ke=>?_
 refine sqk (.string ((b8 [((b8 [sj,(ah 0 1)])),(aV note)]))) ke (fun cx=>⟨_,mE _ [((b8 [sj,(ah 0 1)])),(aV note)] _ (cx.ri 3 rfl) (by simp) hz15 (by simp),(av (cx.ou 79))⟩) fun uX fu=>?_
 refine sqp [.m 2 80] ?_
 exact aa (wp_ret (bpr (.string ((b8 [((b8 [sj,(ah 0 1)])),(aV note)]))) (ag results118 rpt) (Ret.of (by rw[aw,if_pos hrr,<-hsj]) fu.ext)))
 refine wp_cond_true (show Act.eval _ _= .bool true from(congrArg Value.bool (by rw[dC];rfl))) (wsq [.k 2 (.string ⟨#[]⟩)] ?_)
 refine aa (wp_ret (ai ?_))
 exact bpr (.string ⟨#[]⟩) (ag results118 rpt) (Ret.of (by rw[aw,dC];rfl) aZ.ext)
theorem j9(k x t:Int)(A:Option Addr)(c:Nat)(l:List EdT)(note:ByteArray)(w:World)(hA:At w A (l.flatMap edC))(hl:l.length<=1000000)(hz:∀e∈l,e.2.2.size<=9223372036854775807)(hns:note.size<=9223372036854775807):
  Calls P_ 55 #[.agg #[.int .i64 k,.int .i64 x,.int .i64 t,sn,sn,.slice A l.length c,sn,.string note]] w (Ret (.string (aA ⟨k,x,t,l,note⟩)) w):=by
 go_enter func55,ntmps55
 have aj:=St.start w
 refine wq (sqr ?_)
 refine bX #[vi k,vi x,vi t,sn,sn,.slice A l.length c,sn,.string note] aj fun ay W1 ax=>?_
 refine sqp [.k 2 (.string ⟨#[]⟩)] ?_
 refine aa (wq (wq (sqr ?_)))
 refine bD 0 8 ax ?_
 refine sqk (.bool (bt ⟨k,x,t,l,note⟩)) ax (fun cx=>⟨_,lX k x t _ _ l note _ (hA.ext cx.upd.to_ext) hl hz hns,(av (cx.ou 4))⟩) fun W4 aZ=>?_
 refine sqp [.k 6 (.bool (!(bt ⟨k,x,t,l,note⟩)))] ?_
 refine aa ?_
 rcases Bool.eq_false_or_eq_true (bt ⟨k,x,t,l,note⟩) with dC|dC
 refine wp_cond_false (show Act.eval _ _= .bool false from(congrArg Value.bool (by rw[dC];rfl))) (wp_skip (aa (wq (sqr ?_))))
 refine bD 0 8 aZ ?_
 refine sqk (.string ((aw ⟨k,x,t,l,note⟩))) aZ (fun cx=>⟨_,CL k x t _ _ l note _ (hA.ext cx.upd.to_ext) hl hz hns,(av (cx.ou 7))⟩) fun W8 dI=>?_
 refine sqp [.m 3 8] ?_
 refine aa (wq ?_)
 have hbz:=jk ⟨k,x,t,l,note⟩
 have hsl:=kD (aw ⟨k,x,t,l,note⟩)
 have hz4:(b8 [ah ((aw ⟨k,x,t,l,note⟩).size:Int) 4,ah (bc (aw ⟨k,x,t,l,note⟩):Int) 4,aw ⟨k,x,t,l,note⟩]).size<=2000000:=by rw[wW,aE _ _ (by decide),aE _ _ (by decide)];omega
 refine sqs [.m 9 3,.k 10 (vi ((((aw ⟨k,x,t,l,note⟩)).size:Int)))] ?_
 refine sqk (.string (ah (((aw ⟨k,x,t,l,note⟩)).size:Int) 4)) dI (fun cx=>⟨_,lg (((aw ⟨k,x,t,l,note⟩)).size:Int) _,(aN (cx.ou 10) (cx.co _))⟩) fun sF cP=>?_
 refine sqp [.m 12 3] ?_
 refine sqk (.int .u32 ((bc (aw ⟨k,x,t,l,note⟩):Int))) cP (fun cx=>⟨_,mR (aw ⟨k,x,t,l,note⟩) _ (by omega),(av (cx.ou 12))⟩) fun uY bZ=>?_
 refine sqp [sW 14 .i64 (bc (aw ⟨k,x,t,l,note⟩):Int) (bc (aw ⟨k,x,t,l,note⟩):Int) (IntWalk.i64_in _ (by omega))] ?_
 refine sqk (.string (ah (bc (aw ⟨k,x,t,l,note⟩):Int) 4)) bZ (fun cx=>⟨_,lg (bc (aw ⟨k,x,t,l,note⟩):Int) _,(aN (cx.ou 14) (cx.co _))⟩) fun p5 dl=>?_
 refine sqp [.m 16 3] ?_
 refine d9 (fun x_=>sA x_) (fun vd=> .slice vd 3 3) (fun vd=>eO 9 1 (.slice vd 3 3) 3 ([.string (ah (((aw ⟨k,x,t,l,note⟩)).size:Int) 4),.string (ah (bc (aw ⟨k,x,t,l,note⟩):Int) 4),.string ((aw ⟨k,x,t,l,note⟩))])) dl (by
   refine svA fun ρ β W X cx=>?_
   have IP:ρ (.tmp 11)= .string (ah (((aw ⟨k,x,t,l,note⟩)).size:Int) 4):=(cx.ou 11)
   have Qp:ρ (.tmp 15)= .string (ah (bc (aw ⟨k,x,t,l,note⟩):Int) 4):=(cx.ou 15)
   have IK:ρ (.tmp 16)= .string ((aw ⟨k,x,t,l,note⟩)):=(cx.ou 16)
   exact dA (e:=9) (xs:=[.string (ah (((aw ⟨k,x,t,l,note⟩)).size:Int) 4),.string (ah (bc (aw ⟨k,x,t,l,note⟩):Int) 4),.string ((aw ⟨k,x,t,l,note⟩))]) rfl (by simp[go_sem,IP,Qp,IK]) rfl (by decide) rfl rfl (fun _ _ _ _ _=> .intro)) fun vd MY nI=>?_
 refine sqk (.string ((b8 [(ah (((aw ⟨k,x,t,l,note⟩)).size:Int) 4),(ah (bc (aw ⟨k,x,t,l,note⟩):Int) 4),((aw ⟨k,x,t,l,note⟩))]))) nI (fun cx=>⟨_,mE _ [(ah (((aw ⟨k,x,t,l,note⟩)).size:Int) 4),(ah (bc (aw ⟨k,x,t,l,note⟩):Int) 4),((aw ⟨k,x,t,l,note⟩))] _ (cx.ri 1 rfl) (by simp) hz4 (by simp),(av (cx.ou 17))⟩) fun qV cU=>?_
 refine sqp [.m 2 18] ?_
 exact aa (wp_ret (bpr (.string ((b8 [(ah (((aw ⟨k,x,t,l,note⟩)).size:Int) 4),(ah (bc (aw ⟨k,x,t,l,note⟩):Int) 4),((aw ⟨k,x,t,l,note⟩))]))) (ag results55 rpt) (Ret.of (by rw[aA,if_pos dC]) cU.ext)))
 refine wp_cond_true (show Act.eval _ _= .bool true from(congrArg Value.bool (by rw[dC];rfl))) (wsq [.k 2 (.string ⟨#[]⟩)] ?_)
 refine aa (wp_ret (ai ?_))
 exact bpr (.string ⟨#[]⟩) (ag results55 rpt) (Ret.of (by rw[aA,dC];rfl) aZ.ext)
end
section
open Go.RowKit
theorem lu(l:List UInt8):(dd l).size=l.length:=by show l.toArray.size= _;simp
theorem yh(l:List UInt8)(a b:Nat):(dd l).extract a b=dd ((l.drop a).take (b-a)):=by
 apply ByteArray.ext
 rw[ByteArray.data_extract]
 apply Array.ext'
 simp[dd,List.extract_eq_take_drop]
theorem ER(l:List UInt8)(n:Nat):(dd l).extract 0 n=dd (l.take n):=by rw[yh];simp
theorem Eo(l:List UInt8)(n:Nat):(dd l).extract n (dd l).size=dd (l.drop n):=by
 rw[yh,lu,List.take_of_length_le (by simp)]
theorem Upd.less{c:Nat}(h:Upd [b,c] w W)(hc:W.heap[c]? =w.heap[c]?):Upd [b] w W:=⟨h.os,h.tape,h.output,h.size,fun k hk hn=>by
 by_cases e:k=c
 rw[e];exact hc
 exact h.block k hk (by simp at hn |-;exact⟨hn,e⟩)⟩
theorem St.lent1{t:Nat}{cs:Array Value}(hb:Blk w b t cs):St w [b] [eB b t cs] w:=by
 refine⟨Upd.refl _ _,fun x hx=>?_,List.pairwise_singleton _ _⟩
 simp only[List.mem_cons,List.not_mem_nil,or_false] at hx
 subst hx
 exact⟨hb,dW _ _ _,fun k hk=>⟨.inl (by simp[eB] at hk;simp[hk]),by simp[eB] at hk;subst hk;exact hb.lt⟩⟩
theorem St.lentB2{t c u:Nat}{cs ds:Array Value}(hb:Blk w b t cs)(hc:Blk w c u ds)(hne:b≠c):St w [b,c] [eB b t cs,eB c u ds] w:=by
 refine⟨Upd.refl _ _,fun x hx=>?_,List.pairwise_pair.2 fun k hk hk'=>by simp[eB] at hk hk';omega⟩
 simp only[List.mem_cons,List.not_mem_nil,or_false] at hx
 rcases hx with rfl|rfl
 exact⟨hb,dW _ _ _,fun k hk=>⟨.inl (by simp[eB] at hk;simp[hk]),by simp[eB] at hk;subst hk;exact hb.lt⟩⟩
 exact⟨hc,dW _ _ _,fun k hk=>⟨.inl (by simp[eB] at hk;simp[hk]),by simp[eB] at hk;subst hk;exact hc.lt⟩⟩
section
variable{P:Program}{o:Oper}{ρ:Operand->Value}{W:World}
theorem yF{t:TypeId}{l:List UInt8}{k:IntKind}{j:Int}(h:o.op= .index t x y)(ht:P.underlying t=some .string)(hx:ρ x= .string (dd l))(hy:ρ y= .int k j)(hj:j=(m:Int))(hm:m<l.length):
  (execOp ρ o).run P W= .ok (.value (.int .u8 (bU l m))) W:=by
 subst hj
 unfold execOp;rw[h]
 have h1:(0:Int)<=(m:Int):=by omega
 have h2:(dd l)[m]? =some (l.getD m 0):=by
  rw[getElem?_pos (dd l) m (by rw[lu];exact hm)]
  simp[dd,ByteArray.getElem_eq_getElem_data,hm]
 simp only[hx,hy,Instr.index,asIntOf,Sem.run_bind,Sem.run_pure,Result.andThen_ok,run_underlying ht,h1,if_true,Int.toNat_natCast,h2]
 rfl
end
theorem qQ(e:Int)(w:World):
  Calls P_ 176 #[.bool true,.int .i64 e] w (Ret (.tuple #[]) w):=by
 go_enter func176,ntmps176
 have aj:=St.start w
 refine wsq [.k 4 (.bool true),.k 5 (.bool false)] ?_
 refine aa (wcf rfl (wp_skip ?_))
 refine bpe (.tuple #[]) (by simp[results,results176,go_sem]) ?_
 exact Ret.of rfl aj.ext
def yX(b:Nat)(v:Value)(l:List UInt8)(w:World)(e:Ending)(w':World):Prop:=e= .returned v/\Blk w' b 9 #[.string (dd l)]/\Upd [b] w w'
theorem Hi(n:Nat)(b:Nat)(l:List UInt8)(w:World)(hb:Blk w b 9 #[.string (dd l)])(hn:n<=l.length):
  Calls P_ 175 #[.int .i64 ((n:Int)),po b 0] w (yX b (.string (dd (l.take n))) (l.drop n) w):=by
 have st0:=St.lent1 hb
 have hsl:=lu l
 go_enter func175,ntmps175
 have aj:=st0
 refine wsq [.k 3 (.string ⟨#[]⟩)] ?_
 refine aa (wq (sqr (am 0 aj ?_)))
 have hd6:(decide ((n:Int)<=((dd l).size:Int)))=true:=by rw[decide_eq_true_eq];omega
 refine sqp [.k 6 (vi (((dd l).size:Int))),.m 7 0,.e 8 (.bool (decide ((n:Int)<=((dd l).size:Int)))) (.bool true) (congrArg Value.bool hd6)] ?_
 refine sqk (.tuple #[]) aj (fun cx=>⟨_,qQ _ _,(aN (cx.ou 8) (cx.co _))⟩) fun W7 aW=>?_
 refine aa (wq (sqr (am 0 aW ?_)))
 refine sqp [.m 11 0] ?_
 refine sql (.string (dd (l.take n))) aW (fun cx=>(by rw[<-ER];exact gJ (l:=n) rfl (by kernel_rfl) (cx.ou 10) (cx.ou 11) (by omega) (by rw[lu];omega))) ?_
 refine sqp [.m 4 12] ?_
 refine aa (wq (sqr (am 0 aW ?_)))
 refine sqp [.m 14 0] ?_
 refine sql (.string (dd (l.drop n))) aW (fun cx=>(by rw[<-Eo];exact gM (l:=n) rfl (by kernel_rfl) (cx.ou 13) (cx.ou 14) (by omega) (by rw[lu];omega))) ?_
 refine aT (n:=1) 0 #[.string (dd (l.drop n))] aW fun B0 gv=>?_
 refine aa (wsq [.m 16 4,.m 3 16] ?_)
 exact aa (wp_ret (bpr (.string (dd (l.take n))) (ag results175 rpt) (⟨rfl,gv.blk 0 rfl,gv.upd⟩)))
theorem KD(l:List UInt8)(m:Nat):0<=bU l m/\bU l m<256:=by
 have:=(l.getD m 0).toNat_lt
 unfold bU;omega
theorem FI(l:List UInt8)(h:1<=l.length):bU (l.take 1) 0=bU l 0:=by
 cases l with
 |nil=>simp at h
 |cons a l=>rfl
theorem Hc(b c:Nat)(l:List UInt8)(w:World)(hb:Blk w b 9 #[.string (dd l)])(hc:Blk w c 155 #[.func (.func 175) #[] #[po b 0]])(hne:b≠c)(hn:1<=l.length):
  Calls P_ 177 #[po c 0] w (yX b (.int .i64 (bU l 0)) (l.drop 1) w):=by
 have st0:=St.lentB2 hb hc hne
 have hb256:=KD (l.take 1) 0
 go_enter func177,ntmps177
 have aj:=st0
 refine wsq [.k 1 (vi 0)] ?_
 refine aa (wq (sqr (am 1 aj ?_)))
 refine gL (.string (dd (l.take 1))) (eB b 9 #[.string (dd (l.drop 1))]) 0 aj (by
   refine svA fun ρ β W X cx=>?_
   refine ak.call (cD (f:=175) (args:=#[vi 1]) (args':=#[vi 1,vp b]) rfl rfl (cx.ou 2) (by kernel_rfl) (av (cx.co _)) rfl) ?_
   refine(Hi 1 b l _ (cx.bi 0 rfl) (by omega)).mono ?_
   rintro e W1 ⟨rfl,hb1,hu⟩
   refine⟨_,rfl,cm (cx.init 0 _ rfl) rfl rfl hu hb1 (fun h d X' hs hb hv hx=>?_)⟩
   exact⟨(hv 3 rfl).1.trans rfl,hx⟩) fun W3 aU=>?_
 refine sql (.int .u8 (bU (l.take 1) 0)) aU (fun cx=>yF (m:=0) rfl (by kernel_rfl) (cx.ou 3) (cx.co _) (by omega) (by rw[List.length_take];omega)) ?_
 refine sqp [sW 5 .i64 (bU (l.take 1) 0) (bU (l.take 1) 0) (IntWalk.i64_in _ (by omega)),.m 1 5] ?_
 exact aa (wp_ret (bpr (vi (bU (l.take 1) 0)) (ag results177 rpt) (⟨by rw[FI l hn],aU.blk 0 rfl,aU.upd.less ((aU.blk 1 rfl).trans hc.symm)⟩)))
end
section
open Go.RowKit
theorem Cm{P:Program}{id:Nat}{o1 o2:Oper}{a:Act}{Q:Exit->Act->World->Prop}{d:Deferred}(h1:o1.guard=none)(h2:o2.guard=none)(r1:(execOp a.eval o1).run P w= .ok (.value v) w)
  (r2:(execOp (a.put o1.dst v).eval o2).run P w= .ok (.defer d) w) (hd2:o2.dst=none) (h:Q .normal {a.put o1.dst v with defers:=d::(a.put o1.dst v).defers} w):(Code.region id #[o1,o2] false).wp P Q a w:=by
 refine wp_region ?_
 show wpOps P #[o1,o2] Q [0,1] a w
 have w1:∀y,Region.wanted o1 y=true:=fun y=>by simp[Region.wanted,h1]
 have w2:∀y,Region.wanted o2 y=true:=fun y=>by simp[Region.wanted,h2]
 simp only[wpOps]
 show (if Region.wanted o1 _=true then _ else _)
 rw[if_pos (w1 _)]
 left
 unfold Oper.wp Oper.upon
 rw[show (#[o1,o2]:Array Oper)[0]=o1 from rfl,r1]
 show (if Region.wanted o2 _=true then _ else _)
 rw[if_pos (w2 _)]
 left
 rw[show (#[o1,o2]:Array Oper)[1]=o2 from rfl,r2]
 rw[hd2]
 exact h
theorem CN(p q:Addr)(w:World):
  CallsD P_ 174 #[.pointer (some p),.pointer (some q)] .returning w fun e u' w'=>e= .returned (.tuple #[])/\u'= .returning/\w'=w:=by
 refine callsD_of_wpS func174 rfl fun c₀ cs hu=>?_
 apply wpS_seq
 apply wpS_region
 simp[wpOpsS,go_sem,recoverD,hu,ntmps174,Exit.thenS]
 refine wpS_of_wp ?_
 go_wp2
 cases c₀
 simp_all [bodyPostS,results,results174]
theorem Ej(w:World):
  Calls P_ 152 #[.string (dd [0])] w (Ret (.tuple #[sn,.int .i64 0]) w):=by
 go_enter_defers func152,ntmps152
 have aj:=St.start w
 refine wq (sqr ?_)
 refine bX #[.string (dd [0])] aj fun ay W1 ax=>?_
 refine bW #[sn] ax fun kI W2 bA=>?_
 refine bW #[vi 0] bA fun zP W3 aU=>?_
 refine aa (wq ?_)
 refine Cm (v:= .func (.func 174) #[] #[vp kI,vp zP]) (d:={target:= .fn (.func 174) #[vp kI,vp zP],args:=#[]}) rfl rfl (by simp[go_sem,Instr.makeFunc,Act.eval]) (by simp[go_sem,Act.eval,Act.put]) rfl ?_
 simp only[Act.put,List.setIfInBounds_toArray,List.set_cons_succ,List.set_cons_zero]
 refine aa (wq (sqr ?_))
 refine sqv (.func (.func 175) #[] #[vp ay]) aU (by
   exact sv0 rfl rfl rfl rfl rfl (fun _ _ _ h=>h) fun ρ β W X cx=>by
    have zQ:ρ (.tmp 1)=vp ay:=(cx.ou 1)
    simp[go_sem,Instr.makeFunc,zQ]) fun W4 aZ=>?_
 refine bW #[.nilFunc] aZ fun m6 W5 aK=>?_
 refine aT (n:=1) 3 #[.func (.func 175) #[] #[vp ay]] aK fun W6 bJ=>?_
 refine aa (wq (sqr ?_))
 refine sqv (.func (.func 177) #[] #[vp m6]) bJ (by
   exact sv0 rfl rfl rfl rfl rfl (fun _ _ _ h=>h) fun ρ β W X cx=>by
    have ve:ρ (.tmp 4)=vp m6:=(cx.ou 4)
    simp[go_sem,Instr.makeFunc,ve]) fun W7 aW=>?_
 refine sqp [.m 5 13] ?_
 refine aa (wsq [.m 14 5] ?_)
 refine gL (vi 0) (eB ay 9 #[.string (dd [])]) 0 aW (by
   refine svA fun ρ β W X cx=>?_
   refine ak.call (cD (f:=177) (args:=#[]) (args':=#[vp m6]) rfl rfl (cx.ou 14) (by kernel_rfl) jc rfl) ?_
   refine(Hc _ _ [0] _ (cx.bi 0 rfl) (cx.bi 3 rfl) (by have h_:=cx.ap 0 3 rfl rfl (by decide);rw[(cx.init 0 _ rfl),(cx.init 3 _ rfl)] at h_;intro e_;exact h_ _ (List.mem_singleton.2 rfl) (List.mem_singleton.2 e_)) (by simp)).mono ?_
   rintro e W1 ⟨rfl,hb1,hu⟩
   refine⟨_,rfl,cm (cx.init 0 _ rfl) rfl rfl hu hb1 (fun o c X' hs hb hv hx=>?_)⟩
   exact⟨(hv 15 rfl).1.trans rfl,hx⟩) fun xw dL=>?_
 refine sqp [.m 6 15] ?_
 refine aa (wsq [.m 16 6,.k 17 (.bool true)] ?_)
 refine sqk (.tuple #[]) dL (fun cx=>⟨_,qQ _ _,(aN (cx.ou 17) (cx.co _))⟩) fun uY bZ=>?_
 refine aa (wq (wsq [.m 19 6,.k 20 (vi 0)] ?_))
 refine aa (wp_block ?_)
 refine aQ (fun t_ mz az W=>True/\mz=0/\az=⟨(ovr (jv az) [(7,7,1,[]),(1,9,2,[]),(10,21,44,[])] t_).toArray,[{target:= .fn (.func 174) #[vp kI,vp zP],args:=#[]}]⟩/\St w [] [eB ay 9 #[.string (dd [])],eB kI 23 #[sn],eB zP 38 #[vi 0],eB m6 155 #[.func (.func 175) #[] #[vp ay]]] W) (0) ?_ ?_
 exact⟨trivial,rfl,(by kernel_rfl),bZ.pk [0,1,2,3]⟩
 rintro Rn a17 qT ⟨-,rfl,hj_,dt⟩
 refine ovz hj_ fun Qf=>?_
 refine wsq [.k 21 (.bool false)] ?_
 refine aa (wq (wcf rfl (wp_exit (al (al (bf (aa (wq (sqr (am 0 dt ?_))))))))))
 have hd21:((dd []).toList==((⟨#[]⟩:ByteArray)).toList)=true:=beq_self_eq_true (dd []).toList
 refine sqp [.e 66 (.bool ((dd []).toList==((⟨#[]⟩:ByteArray)).toList)) (.bool true) (congrArg Value.bool hd21)] ?_
 refine sqk (.tuple #[]) dt (fun cx=>⟨_,qQ _ _,(aN (cx.ou 66) (cx.co _))⟩) fun uZ dv=>?_
 refine aa (wq (sqr (am 1 dv ?_)))
 refine aT (n:=1) 1 #[sn] dv fun uV et=>?_
 refine aT (n:=1) 2 #[vi 0] et fun xy dM=>?_
 refine aa (wp_ret ?_)
 have c2:=(dM.blk 1 rfl).cell 0
 have c3:=(dM.blk 2 rfl).cell 0
 refine leaves_cons (f:=174) (args:=#[vp kI,vp zP]) (by simp) (by simp[go_sem]) ?_
 refine(CN _ _ _).mono ?_
 rintro e u' w'' ⟨rfl,rfl,rfl⟩
 refine⟨.tuple #[sn,vi 0],?_,rfl,dM.ext⟩
 simp at c2 c3
 simp[results,results152,go_sem,c2,c3]
end
section
open Go.RowKit
theorem jW(s:ByteArray):s++(⟨#[]⟩:ByteArray)=s:=by apply go;rw[cN];exact List.append_nil _
theorem qu(s:ByteArray):(⟨#[]⟩:ByteArray)++s=s:=by apply go;rw[cN];rfl
theorem ir{s x c:ByteArray}(h:s=a++(x++c))(hp:a.size=p)(hk:x.size=k):aP s p k=gH (bl x):=
 ms (a:=bl a) (b:=bl x) (c:=bl c) (by rw[h,cN,cN]) (by rw[bO];exact hp) (by rw[bO];exact hk)
theorem pi{s t c:ByteArray}(h:s=a++(aV t++c))(hp:a.size=p)(ht:t.size<=65535):aP s p 2=t.size/\fo s p=t/\p+2+t.size<=s.size:=by
 have h1:s=a++(ah (t.size:Int) 2++(t++c)):=by rw[h,aV];simp[ByteArray.append_assoc]
 have h2:aP s p 2=t.size:=by
  have h3:=ir h1 hp (aE _ _ (by decide))
  have h4:=ng (t.size:Int) (by omega) (by omega)
  omega
 have hz:s.size=a.size+(2+t.size+c.size):=by rw[h,ByteArray.size_append,ByteArray.size_append,gA]
 refine⟨h2,?_,by omega⟩
 rw[fo,h2]
 have h5:bl s=(bl a++bl (ah (t.size:Int) 2))++(bl t++bl c):=by rw[h1];simp[cN,List.append_assoc]
 rw[kx h5 (p:=p+2) (q:=p+2+t.size) (by rw[List.length_append,bO,bO,aE _ _ (by decide),hp]) (by rw[bO]),iv]
def eF(l:List EdT):Nat:=(l.map fun e=>5+e.2.2.size).sum
theorem DR(he:l[j]? =some e):eF (l.take (j+1))=eF (l.take j)+(5+e.2.2.size):=by
 obtain⟨hj,rfl⟩:=List.getElem?_eq_some_iff.1 he
 rw[eF,List.take_succ_eq_append_getElem hj,List.map_append,List.sum_append];simp[eF]
theorem Lk(s:ByteArray)(e:EdT):edB s e=s++edB ⟨#[]⟩ e:=by
 rw[edB,edB,bx,bx]
 congr 1
theorem zg(s:ByteArray)(l:List EdT):cW s l=s++cW ⟨#[]⟩ l:=by
 induction l generalizing s with
 |nil=>show s=s++(⟨#[]⟩:ByteArray);exact(jW s).symm
 |cons e l ih=>
  show cW (edB s e) l=s++cW (edB ⟨#[]⟩ e) l
  rw[ih,ih (edB ⟨#[]⟩ e),Lk s e,ByteArray.append_assoc]
theorem BE(s:ByteArray)(l:List EdT):(cW s l).size=s.size+eF l:=by
 induction l generalizing s with
 |nil=>rfl
 |cons e l ih=>
  show (cW (edB s e) l).size= _
  rw[ih,sZ,eF,eF,List.map_cons,List.sum_cons];omega
theorem LK(a:ByteArray):b8 [a]=a:=by rw[bx,fP,jW]
structure RecSays (s:ByteArray) (r:RecM):Prop where
 size:s.size=14+eF r.eds+r.note.size
 kind:(aP s 0 1:Int)=r.kind
 xid:(aP s 1 1:Int)=r.xid
 tbl:(aP s 2 2:Int)=r.tbl
 row1:aP s 4 2=1/\fo s 4=⟨#[0]⟩
 row2:aP s 7 2=1/\fo s 7=⟨#[0]⟩
 many:aP s 10 1=r.eds.length
 ed:∀j e,r.eds[j]? =some e->(aP s (11+eF (r.eds.take j)) 2:Int)=e.1/\(aP s (11+eF (r.eds.take j)+2) 1:Int)=e.2.1+1/\aP s (11+eF (r.eds.take j)+3) 2=e.2.2.size/\fo s (11+eF (r.eds.take j)+3)=e.2.2/\11+eF (r.eds.take j)+5+e.2.2.size<=s.size
 xids:aP s (11+eF r.eds) 1=0
 note:aP s (12+eF r.eds) 2=r.note.size/\fo s (12+eF r.eds)=r.note
theorem GW{r:RecM}(h:bt r=true):RecSays (aw r) r:=by
 have hk:=d4 h
 have hb:aw r=cW (hdB r) r.eds++(ah 0 1++aV r.note):=by
  rw[aw,if_pos h,bx,bx,LK,LK,ByteArray.append_assoc]
 have hd:∀t:ByteArray,hdB r++t=ah r.kind 1++(ah r.xid 1++(ah r.tbl 2++(iE++(iE++(ah (r.eds.length:Int) 1++t))))):=fun t=>by
  rw[hdB]
  simp only[bx,fP,ByteArray.append_assoc,qu]
 have hE:cW (hdB r) r.eds=hdB r++cW ⟨#[]⟩ r.eds:=zg _ _
 have h0:aw r=ah r.kind 1++(ah r.xid 1++(ah r.tbl 2++(iE++(iE++(ah (r.eds.length:Int) 1++(cW ⟨#[]⟩ r.eds++(ah 0 1++aV r.note))))))):=by
  rw[hb,hE,ByteArray.append_assoc,hd]
 have p1:=fun n=>aE n 1 (by decide)
 have p2:=fun n=>aE n 2 (by decide)
 have hsz:(cW (hdB r) r.eds).size=11+eF r.eds:=by rw[BE,gU]
 have hz:(aw r).size=14+eF r.eds+r.note.size:=by
  rw[hb,ByteArray.size_append,ByteArray.size_append,hsz,p1,gA];omega
 generalize hs:aw r=s at*
 have e0:s=(⟨#[]⟩:ByteArray)++(ah r.kind 1++(ah r.xid 1++(ah r.tbl 2++(iE++(iE++(ah (r.eds.length:Int) 1++(cW ⟨#[]⟩ r.eds++(ah 0 1++aV r.note)))))))):=by rw[h0,qu]
 have e1:s=ah r.kind 1++(ah r.xid 1++(ah r.tbl 2++(iE++(iE++(ah (r.eds.length:Int) 1++(cW ⟨#[]⟩ r.eds++(ah 0 1++aV r.note))))))):=h0
 have e2:s=(ah r.kind 1++ah r.xid 1)++(ah r.tbl 2++(iE++(iE++(ah (r.eds.length:Int) 1++(cW ⟨#[]⟩ r.eds++(ah 0 1++aV r.note)))))):=by rw[h0,ByteArray.append_assoc]
 have e4:s=(ah r.kind 1++(ah r.xid 1++ah r.tbl 2))++(aV ⟨#[0]⟩++(iE++(ah (r.eds.length:Int) 1++(cW ⟨#[]⟩ r.eds++(ah 0 1++aV r.note))))):=by rw[h0];simp only[ByteArray.append_assoc];rfl
 have e7:s=(ah r.kind 1++(ah r.xid 1++(ah r.tbl 2++iE)))++(aV ⟨#[0]⟩++(ah (r.eds.length:Int) 1++(cW ⟨#[]⟩ r.eds++(ah 0 1++aV r.note)))):=by rw[h0];simp only[ByteArray.append_assoc];rfl
 have e10:s=(ah r.kind 1++(ah r.xid 1++(ah r.tbl 2++(iE++iE))))++(ah (r.eds.length:Int) 1++(cW ⟨#[]⟩ r.eds++(ah 0 1++aV r.note))):=by rw[h0];simp only[ByteArray.append_assoc]
 have en:s=(cW (hdB r) r.eds++ah 0 1)++(aV r.note++⟨#[]⟩):=by rw[hb,ByteArray.append_assoc,jW]
 have r3:=wM
 have t4:=pi e4 (p:=4) (by rw[ByteArray.size_append,ByteArray.size_append,p1,p1,p2]) (by decide)
 have t7:=pi e7 (p:=7) (by rw[ByteArray.size_append,ByteArray.size_append,ByteArray.size_append,p1,p1,p2,r3]) (by decide)
 have tn:=pi en (p:=12+eF r.eds) (by rw[ByteArray.size_append,hsz,p1];omega) (by have:=hk.note;omega)
 refine⟨hz,?_,?_,?_,⟨t4.1,t4.2.1⟩,⟨t7.1,t7.2.1⟩,?_,fun j e he=>?_,?_,⟨tn.1,tn.2.1⟩⟩
 rw[ir e0 (p:=0) rfl (p1 _)];exact iF _ (by have:=hk.kind;omega) (by have:=hk.kind;omega)
 rw[ir e1 (p:=1) (p1 _) (p1 _)];exact iF _ (by have:=hk.xid;omega) (by have:=hk.xid;omega)
 rw[ir e2 (p:=2) (by rw[ByteArray.size_append,p1,p1]) (p2 _)];exact ng _ (by have:=hk.tbl;omega) (by have:=hk.tbl;omega)
 have:=hk.many
 have h1:=ir e10 (p:=10) (by rw[ByteArray.size_append,ByteArray.size_append,ByteArray.size_append,ByteArray.size_append,p1,p1,p2,r3]) (p1 _)
 have h2:=iF (r.eds.length:Int) (by omega) (by omega)
 omega
 obtain⟨hj,rfl⟩:=List.getElem?_eq_some_iff.1 he
 have hl:r.eds=r.eds.take j++r.eds[j]::r.eds.drop (j+1):=by rw[List.getElem_cons_drop,List.take_append_drop]
 have hed:=ll (hk.eds _ (List.getElem_mem hj))
 have hit:=dn (hk.eds _ (List.getElem_mem hj))
 generalize r.eds[j]=e at*
 generalize r.eds.take j=l1 at*
 generalize r.eds.drop (j+1)=l2 at*
 have hF:cW (hdB r) r.eds=cW (hdB r) l1++(ah e.1 2++(ah (e.2.1+1) 1++(aV e.2.2++cW ⟨#[]⟩ l2))):=by
  have h1:cW (hdB r) r.eds=cW (edB (cW (hdB r) l1) e) l2:=by
   conv=>lhs;rw[hl]
   rw[cW,List.foldl_append];rfl
  rw[h1,zg,edB]
  simp only[bx,fP,ByteArray.append_assoc,qu]
 have hsl:(cW (hdB r) l1).size=11+eF l1:=by rw[BE,gU]
 have f0:s=cW (hdB r) l1++(ah e.1 2++(ah (e.2.1+1) 1++(aV e.2.2++(cW ⟨#[]⟩ l2++(ah 0 1++aV r.note))))):=by rw[hb,hF];simp only[ByteArray.append_assoc]
 have f2:s=(cW (hdB r) l1++ah e.1 2)++(ah (e.2.1+1) 1++(aV e.2.2++(cW ⟨#[]⟩ l2++(ah 0 1++aV r.note)))):=by rw[f0];simp only[ByteArray.append_assoc]
 have f3:s=(cW (hdB r) l1++(ah e.1 2++ah (e.2.1+1) 1))++(aV e.2.2++(cW ⟨#[]⟩ l2++(ah 0 1++aV r.note))):=by rw[f0];simp only[ByteArray.append_assoc]
 have t3:=pi f3 (p:=11+eF l1+3) (by rw[ByteArray.size_append,ByteArray.size_append,hsl,p2,p1]) (by omega)
 refine⟨?_,?_,t3.1,t3.2.1,by have:=t3.2.2;omega⟩
 rw[ir f0 hsl (p2 _)];exact ng _ (by omega) (by omega)
 rw[ir f2 (p:=11+eF l1+2) (by rw[ByteArray.size_append,hsl,p2]) (p1 _)];exact iF _ (by omega) (by omega)
 have h1:=ir hb hsz (p1 0)
 have h2:=iF 0 (by decide) (by decide)
 omega
end
section
open Go.RowKit
theorem St.lentB3{a ta tb c tc:Nat}{ca cb cc:Array Value}(ha:Blk w a ta ca)(hb:Blk w b tb cb)(hc:Blk w c tc cc)(n1:a≠b)(n2:a≠c)(n3:b≠c):St w [a,b,c] [eB a ta ca,eB b tb cb,eB c tc cc] w:=by
 refine⟨Upd.refl _ _,fun x hx=>?_,?_⟩
 simp only[List.mem_cons,List.not_mem_nil,or_false] at hx
 rcases hx with rfl|rfl|rfl
 exact⟨ha,dW _ _ _,fun k hk=>⟨.inl (by simp[eB] at hk;simp[hk]),by simp[eB] at hk;subst hk;exact ha.lt⟩⟩
 exact⟨hb,dW _ _ _,fun k hk=>⟨.inl (by simp[eB] at hk;simp[hk]),by simp[eB] at hk;subst hk;exact hb.lt⟩⟩
 exact⟨hc,dW _ _ _,fun k hk=>⟨.inl (by simp[eB] at hk;simp[hk]),by simp[eB] at hk;subst hk;exact hc.lt⟩⟩
 refine List.Pairwise.cons (fun x hx=>?_) (List.pairwise_pair.2 fun k hk hk'=>by simp[eB] at hk hk';omega)
 simp only[List.mem_cons,List.not_mem_nil,or_false] at hx
 rcases hx with rfl|rfl
 exact fun k hk hk'=>by simp[eB] at hk hk';omega
 exact fun k hk hk'=>by simp[eB] at hk hk';omega
theorem Upd.less3{a c:Nat}(h:Upd [a,b,c] w W)(ha:W.heap[a]? =w.heap[a]?)(hc:W.heap[c]? =w.heap[c]?):Upd [b] w W:=⟨h.os,h.tape,h.output,h.size,fun k hk hn=>by
 by_cases e:k=a
 rw[e];exact ha
 by_cases e2:k=c
 rw[e2];exact hc
 exact h.block k hk (by simp at hn |-;exact⟨e,hn,e2⟩)⟩
def IB(b:Nat)(s:ByteArray)(p:Nat)(w:World)(e:Ending)(w':World):Prop:=e= .returned (.slice none 0 0)/\Blk w' b 193 #[.string s,.int .i64 (p:Int),.bool false]/\Upd [b] w w'
def Mo(r:RecM)(w:World)(e:Ending)(w':World):Prop:=∃A c,e= .returned (.tuple #[MA r A c,.int .i64 0])/\w'.ownsRow w.heap.size 84 3 (.slice A r.eds.length c) r.eds.length (r.eds.flatMap edC)/\Ext w w'
theorem Ky(h:l[j]? =some e):(l.take j).flatMap edC++edC e=(l.take (j+1)).flatMap edC:=by
 obtain⟨hj,rfl⟩:=List.getElem?_eq_some_iff.1 h
 rw[List.take_succ_eq_append_getElem hj,List.flatMap_append];simp
theorem wV(b4 rb b5:Nat)(s:ByteArray)(p:Nat)(w:World)(h4:Blk w b4 153 #[po rb 0])(hr:Blk w rb 193 #[.string s,.int .i64 (p:Int),.bool false])(h5:Blk w b5 4 #[.bool true])(n1:b4≠rb)(n2:b4≠b5)(n3:rb≠b5)(hs:s.size<=1000000)(hp:p+3<=s.size)(hn:aP s p 2=1)(ht:fo s p=dd [0]):
  Calls P_ 151 #[po b4 0,po b5 0] w (IB rb s (p+3) w):=by
 have st0:=St.lentB3 h4 hr h5 n1 n2 n3
 go_enter func151,ntmps151
 have aj:=st0
 refine wsq [.k 2 (sn)] ?_
 refine aa (wq (sqr (am 0 aj ?_)))
 refine gL (.string ((dd [0]))) (eB rb 193 #[.string s,vi (((p+2+aP s p 2:Nat):Int)),.bool false]) 1 aj (by
   refine svA fun ρ β W X cx=>?_
   refine ak.call (rCF (args:=#[vp rb]) cx.sees (av (cx.ou 6))) ?_
   refine(oA _ s p _ ⟨(cx.bi 1 rfl),by omega,by omega⟩ (by omega) (by omega)).mono ?_
   rintro e W1 ⟨rfl,bV,hu⟩
   refine⟨_,rfl,cm (cx.init 1 _ rfl) rfl rfl hu bV.1 (fun d c X' hs hb hv hx=>?_)⟩
   exact⟨(hv 7 rfl).1.trans (congrArg Value.string ht),hx⟩) fun W3 aU=>?_
 refine sqp [.m 3 7] ?_
 refine aa (wq (wq (sqr (am 0 aU ?_))))
 refine sqv (.bool false) aU (by
   refine svA fun ρ β W X cx=>?_
   refine ak.call (rCF (args:=#[vp rb]) cx.sees (av (cx.ou 8))) ?_
   refine(fC _ s ((p+2+aP s p 2:Nat)) false _ ⟨(cx.bi 1 rfl),by omega,by omega⟩).mono ?_
   rintro e W1 ⟨rfl,rfl⟩
   refine⟨_,rfl,bK [] rfl rfl (Ext.refl _) (by simp) List.Pairwise.nil (fun d c X' hs hb hv hN=>?_)⟩
   have aH:=(hv 9 rfl).1;have aO:=(hv 9 rfl).2
   exact aH.trans rfl) fun W6 bJ=>?_
 refine aa (wcf rfl (wp_skip (aa (wsq [.m 11 3] ?_))))
 refine sqk (.tuple #[sn,vi 0]) bJ (fun cx=>⟨_,Ej _,(av (cx.ou 11))⟩) fun W8 dI=>?_
 refine sqp [.m 10 12,.k 13 (sn),.k 14 (vi 0),.m 4 13,.m 5 14] ?_
 refine aa (wq (sqr (am 2 dI ?_)))
 refine sqp [.k 16 (.bool true)] ?_
 refine de 16 [17,18] rfl rfl ?_
 refine sqp [.m 17 5,.k 18 (.bool true)] ?_
 refine sqp [.k 19 (.bool true)] ?_
 refine aT (n:=1) 2 #[.bool true] dI fun qV cU=>?_
 refine aa (wq (wsq [.m 20 4,.k 21 (vi 0),.k 22 (.bool true)] ?_))
 refine aa (wct rfl (wsq [.k 2 (sn)] ?_))
 refine aa (wp_ret (ai ?_))
 exact bpr (sn) (ag results151 rpt) (⟨rfl,by rw[show p+3=p+2+aP s p 2 by omega];exact cU.blk 1 rfl,cU.upd.less3 ((cU.blk 0 rfl).trans h4.symm) ((cU.blk 2 rfl).trans h5.symm)⟩)
end
section
open Go.RowKit
theorem fm(h:St w0 bor L W)(e sz:Nat):St w0 bor (L++[eO e sz (sn) 0 []]) W:=by
 refine⟨h.upd,fun x hx=>?_,?_⟩
 rcases List.mem_append.1 hx with hx|hx
 exact h.ok x hx
 rw[List.mem_singleton] at hx
 subst hx
 exact⟨World.ownsRow_nil _ _ _ _,gg _ _ _ _ _,fun k hk=>by cases hk⟩
 rw[List.pairwise_append]
 refine⟨h.apart,List.pairwise_singleton _ _,fun a _ b hb=>?_⟩
 rw[List.mem_singleton] at hb
 subst hb
 exact fun k _ hk=>by cases hk
theorem Km{B:Nat}{s:ByteArray}{v:Int}(hv:v=((s.size-p:Nat):Int))(h:Rd 193 w B s p false):Calls P_ 149 #[po B 0] w (Ret (.int .i64 v) w):=by
 subst hv;exact sY B s p false w h
theorem Tryz.infoEditJ:(Tryz.prog.info? 84).map (fun i=>(i.zero,i.size,i.bytes))=some (some (.agg #[.int .i64 0,.int .i64 0,.string ⟨#[]⟩]),3,32):=by kernel_rfl
theorem KK(s:ByteArray)(r:RecM)(w:World)(hh:RecSays s r)(hrr:bt r=true)(hs:s.size<=1000000):
  Calls P_ 99 #[.string s] w (Mo r w):=by
 have hro:=d4 hrr
 have hrm:=hro.many
 have hsz:=hh.size
 have hez:∀e∈r.eds,e.2.2.size<=9223372036854775807:=fun e he=>by have h_:=dn (hro.eds e he);omega
 have hkb:=hro.kind
 have hxb:=hro.xid
 have htb:=hro.tbl
 go_enter func99,ntmps99
 have aj:=St.start w
 refine wq (sqr (bW #[vi 0,vi 0,vi 0,sn,sn,sn,sn,.string ByteArray.empty] aj fun bw W1 ax=>?_))
 refine sqp [.k 3 (vi 0)] ?_
 refine aa (wsq [.m 10 0] ?_)
 refine qe (fun cy=>vp cy) (fun cy=>eB cy 193 #[.string s,vi 0,.bool false]) ax (fun cx=>⟨_,(rS s _).mono (by rintro e W1 ⟨B4,rfl,⟨hb4,hw4⟩,hx⟩;exact⟨_,rfl,St.one hx ⟨hb4,dW _ _ _,fun k hk=>by simp[eB] at hk;subst hk;exact⟨hw4,hb4.lt⟩⟩⟩),(av (cx.ou 10))⟩) fun cy W4 aZ=>?_
 refine bW #[.pointer none] aZ fun m6 W5 aK=>?_
 refine aT (n:=1) 2 #[vp cy] aK fun W6 bJ=>?_
 refine aa (wq (sqr (bW #[.bool false] bJ fun tz W7 aW=>?_)))
 refine aT (n:=1) 3 #[.bool true] aW fun W8 dI=>?_
 refine aa (wq (sqr ?_))
 refine sqv (.func (.func 151) #[] #[vp m6,vp tz]) dI (by
   exact sv0 rfl rfl rfl rfl rfl (fun _ _ _ h=>h) fun ρ β W X cx=>by
    have ve:ρ (.tmp 4)=vp m6:=(cx.ou 4)
    have qY:ρ (.tmp 5)=vp tz:=(cx.ou 5)
    simp[go_sem,Instr.makeFunc,ve,qY]) fun W9 cw=>?_
 refine sqp [.m 6 12] ?_
 refine aa (wq (aB [0,1,0,7,0,31,63,0,255] [[2],[1],[2],[4],[2],[5],[],[],[7]] [[],[4],[],[5],[],[6],[],[7],[8]] [[],[1],[],[4],[],[5],[],[],[7]] [.c 13 (vp cy),.a 14,.c 15 (vp cy),.a 16,.c 17 (vp cy),.a 18,.c 19 (.agg #[vi r.kind,vi r.xid,vi r.tbl,sn,sn,sn,sn,.string ByteArray.empty]),.a 7,.n] (fun ix d β X=>match ix with|0=>True|1=>d 14=vi r.kind/\X 4=eB cy 193 #[.string s,vi 1,.bool false]|2=>True|3=>d 16=vi r.xid/\X 5=eB cy 193 #[.string s,vi 2,.bool false]|4=>True|5=>d 18=vi r.tbl/\X 6=eB cy 193 #[.string s,vi 4,.bool false]|6=>True|7=>d 7=vp (pb (β 7))/\X 7=eB (pb (β 7)) 27 #[vi 0,vi 0,vi 0,sn,sn,sn,sn,.string ByteArray.empty]|8=>X 8=eB (pb (β 7)) 27 #[vi r.kind,vi r.xid,vi r.tbl,sn,sn,sn,sn,.string ByteArray.empty]|_=>True) [0,2,3,6,8] [0,1,2,3,4,5,6,7,8] [(7,7,1,8),(5,0,7,12)] cw ?_ ?_ ?_))
 exact fun ix _ _ _ _ _ _ hs hb hx h=>match ix,h with
 |1,h=>by dsimp only;rw[<-hs 14 rfl,<-hx 4 rfl];exact h
 |3,h=>by dsimp only;rw[<-hs 16 rfl,<-hx 5 rfl];exact h
 |5,h=>by dsimp only;rw[<-hs 18 rfl,<-hx 6 rfl];exact h
 |7,h=>by dsimp only;rw[<-hs 7 rfl,<-hb 7 rfl,<-hx 7 rfl];exact h
 |8,h=>by dsimp only;rw[<-hb 7 rfl,<-hx 8 rfl];exact h
 |0,_|2,_|4,_|6,_|_+9,_=>trivial
 refine⟨?_,?_,?_,?_,?_,?_,?_,?_,?_,trivial⟩
 exact xs4 rfl id fun cx=>rL1 (cx.ou 4) ((cx.bi 2 rfl).cell 0)
 refine svA fun ρ β W X cx=>?_
 refine ak.call (rCF (args:=#[vp cy,vi 1]) cx.sees (aN (cx.an 0) (cx.co _))) ?_
 refine(dG _ s 0 1 _ ⟨(cx.bi 1 rfl),by omega,by omega⟩ (by omega) (by omega)).mono ?_
 rintro e W1 ⟨rfl,bV,hu⟩
 refine⟨_,rfl,cm (cx.init 1 _ rfl) rfl rfl hu bV.1 (fun d o X' hs hb hv hx=>?_)⟩
 exact⟨(hv 14 rfl).1.trans (congrArg (Value.int .i64) hh.kind),hx⟩
 exact xs4 rfl id fun cx=>rL1 (cx.ou 4) ((cx.bi 2 rfl).cell 0)
 refine svA fun ρ β W X cx=>?_
 refine ak.call (rCF (args:=#[vp cy,vi 1]) cx.sees (aN (cx.an 2) (cx.co _))) ?_
 refine(dG _ s 1 1 _ ⟨(cx.blk (dTn (cx.an 1)).2 rfl),by omega,by omega⟩ (by omega) (by omega)).mono ?_
 rintro e W1 ⟨rfl,bV,hu⟩
 refine⟨_,rfl,cm (dTn (cx.an 1)).2 rfl rfl hu bV.1 (fun d o X' hs hb hv hx=>?_)⟩
 exact⟨(hv 16 rfl).1.trans (congrArg (Value.int .i64) hh.xid),hx⟩
 exact xs4 rfl id fun cx=>rL1 (cx.ou 4) ((cx.bi 2 rfl).cell 0)
 refine svA fun ρ β W X cx=>?_
 refine ak.call (rCF (args:=#[vp cy,vi 2]) cx.sees (aN (cx.an 4) (cx.co _))) ?_
 refine(dG _ s 2 2 _ ⟨(cx.blk (dTn (cx.an 3)).2 rfl),by omega,by omega⟩ (by omega) (by omega)).mono ?_
 rintro e W1 ⟨rfl,bV,hu⟩
 refine⟨_,rfl,cm (dTn (cx.an 3)).2 rfl rfl hu bV.1 (fun d o X' hs hb hv hx=>?_)⟩
 exact⟨(hv 18 rfl).1.trans (congrArg (Value.int .i64) hh.tbl),hx⟩
 exact xs4 rfl id fun cx=>jX rfl (pmc (dTn (cx.an 1)).1 (pmc (dTn (cx.an 3)).1 (pmc (dTn (cx.an 5)).1 pmn))) (by kernel_rfl)
 refine svA fun ρ β W X cx=>?_
 exact dVA (cs:=#[vi 0,vi 0,vi 0,sn,sn,sn,sn,.string ByteArray.empty]) rfl rfl rfl (fun _ _ _ _ _=> .intro)
 refine svA fun ρ β W X cx=>?_
 exact dVS (n:=8) rfl (dTn (cx.an 7)).1 (cx.an 6) cx (dTn (cx.an 7)).2 rfl (nle rfl) rfl rfl rfl (fun d o X' hs hb hx=>by rw[hb 7];exact hx)
 intro d β X FK hD fY fr aC
 simp only[exq 6 ((dTn (hD 5 lq)).2),exq 8 ((dTn (hD 8 lq)))] at fY
 simp only[ed 14 ((dTn (hD 1 lq)).1),ed 16 ((dTn (hD 3 lq)).1),ed 18 ((dTn (hD 5 lq)).1),ed 7 ((dTn (hD 7 lq)).1)] at aC
 generalize pb (β 7)=pG at fY aC
 clear hD;subst aC;clear d β X
 refine aa (wsq [.m 20 6] ?_)
 refine gL (sn) (eB cy 193 #[.string s,vi 7,.bool false]) 3 fY (by
   refine svA fun ρ β W X cx=>?_
   refine ak.call (cD (f:=151) (args:=#[]) (args':=#[vp m6,vp tz]) rfl rfl (cx.ou 20) (by kernel_rfl) jc rfl) ?_
   refine(wV _ _ _ s 4 _ (cx.bi 1 rfl) (cx.bi 3 rfl) (cx.bi 2 rfl) (by have h_:=cx.ap 1 3 rfl rfl (by decide);rw[(cx.init 1 _ rfl),(cx.init 3 _ rfl)] at h_;intro e_;exact h_ _ (List.mem_singleton.2 rfl) (List.mem_singleton.2 e_)) (by have h_:=cx.ap 1 2 rfl rfl (by decide);rw[(cx.init 1 _ rfl),(cx.init 2 _ rfl)] at h_;intro e_;exact h_ _ (List.mem_singleton.2 rfl) (List.mem_singleton.2 e_)) (by have h_:=cx.ap 3 2 rfl rfl (by decide);rw[(cx.init 3 _ rfl),(cx.init 2 _ rfl)] at h_;intro e_;exact h_ _ (List.mem_singleton.2 rfl) (List.mem_singleton.2 e_)) hs (by omega) hh.row1.1 hh.row1.2).mono ?_
   rintro e W1 ⟨rfl,bV,hu⟩
   refine⟨_,rfl,cm (cx.init 3 _ rfl) rfl rfl hu bV (fun d o X' hs hb hv hx=>?_)⟩
   exact⟨(hv 21 rfl).1.trans rfl,hx⟩) fun FL fZ=>?_
 refine sqp [.k 22 (po pG 3)] ?_
 refine aT (n:=1) 4 #[vi r.kind,vi r.xid,vi r.tbl,sn,sn,sn,sn,.string ByteArray.empty] fZ fun B0 gv=>?_
 refine aa (wsq [.m 23 6] ?_)
 refine gL (sn) (eB cy 193 #[.string s,vi 10,.bool false]) 3 gv (by
   refine svA fun ρ β W X cx=>?_
   refine ak.call (cD (f:=151) (args:=#[]) (args':=#[vp m6,vp tz]) rfl rfl (cx.ou 23) (by kernel_rfl) jc rfl) ?_
   refine(wV _ _ _ s 7 _ (cx.bi 1 rfl) (cx.bi 3 rfl) (cx.bi 2 rfl) (by have h_:=cx.ap 1 3 rfl rfl (by decide);rw[(cx.init 1 _ rfl),(cx.init 3 _ rfl)] at h_;intro e_;exact h_ _ (List.mem_singleton.2 rfl) (List.mem_singleton.2 e_)) (by have h_:=cx.ap 1 2 rfl rfl (by decide);rw[(cx.init 1 _ rfl),(cx.init 2 _ rfl)] at h_;intro e_;exact h_ _ (List.mem_singleton.2 rfl) (List.mem_singleton.2 e_)) (by have h_:=cx.ap 3 2 rfl rfl (by decide);rw[(cx.init 3 _ rfl),(cx.init 2 _ rfl)] at h_;intro e_;exact h_ _ (List.mem_singleton.2 rfl) (List.mem_singleton.2 e_)) hs (by omega) hh.row2.1 hh.row2.2).mono ?_
   rintro e W1 ⟨rfl,bV,hu⟩
   refine⟨_,rfl,cm (cx.init 3 _ rfl) rfl rfl hu bV (fun d o X' hs hb hv hx=>?_)⟩
   exact⟨(hv 24 rfl).1.trans rfl,hx⟩) fun qT dt=>?_
 refine sqp [.k 25 (po pG 4)] ?_
 refine aT (n:=1) 4 #[vi r.kind,vi r.xid,vi r.tbl,sn,sn,sn,sn,.string ByteArray.empty] dt fun qV cU=>?_
 refine aa (wq (wq (sqr (am 1 cU ?_))))
 refine gL (vi ((r.eds.length:Int))) (eB cy 193 #[.string s,vi 11,.bool false]) 3 cU (by
   refine svA fun ρ β W X cx=>?_
   refine ak.call (rCF (args:=#[vp cy,vi 1]) cx.sees (aN (cx.ou 26) (cx.co _))) ?_
   refine(dG _ s 10 1 _ ⟨(cx.bi 3 rfl),by omega,by omega⟩ (by omega) (by omega)).mono ?_
   rintro e W1 ⟨rfl,bV,hu⟩
   refine⟨_,rfl,cm (cx.init 3 _ rfl) rfl rfl hu bV.1 (fun d o X' hs hb hv hx=>?_)⟩
   exact⟨(hv 27 rfl).1.trans (congrArg (fun n:Nat=>Value.int .i64 (n:Int)) hh.many),hx⟩) fun uT eN=>?_
 refine sqp [.k 28 (vi 0)] ?_
 refine aa (wp_block ?_)
 have hn23:=fm eN 84 3
 simp only[List.cons_append,List.nil_append] at hn23
 refine aQ (fun t_ mz az W=>∃j:Nat,∃q:Nat,∃EA:Option Addr,∃Ec:Nat,j<=r.eds.length/\q=11+eF (r.eds.take j)/\mz=r.eds.length-j/\az=⟨(ovr (jv az) [(8,8,1,[]),(19,28,0,[vi ((j:Int))]),(0,29,16,[])] t_).toArray,[]⟩/\St w [] [eB bw 27 #[vi 0,vi 0,vi 0,sn,sn,sn,sn,.string ByteArray.empty],eB m6 153 #[vp cy],eB tz 4 #[.bool true],eB cy 193 #[.string s,vi ((q:Int)),.bool false],eB pG 27 #[vi r.kind,vi r.xid,vi r.tbl,sn,sn,.slice EA j Ec,sn,.string ByteArray.empty],eO 84 3 (.slice EA j Ec) j ((r.eds.take j).flatMap edC)] W) (r.eds.length-0) ?_ ?_
 exact⟨0,11,none,0,Nat.zero_le _,rfl,rfl,(by kernel_rfl),hn23.pk [0,1,2,3,4,5]⟩
 rintro Rq a24 uV ⟨j,q,EA,Ec,hj,hq,rfl,hj_,et⟩
 refine ovz hj_ fun Qq=>?_
 refine wsq [.k 29 (.bool (decide ((j:Int)<(r.eds.length:Int))))] ?_
 refine aa (wq (wds (fun fk fi=>?_) fun fk fi=>?_))
 refine wp_skip (aa (wq (wp_block (wq ?_))))
 obtain⟨ep,es,eb,hek⟩:=k9 (l:=r.eds) (k:=j) (by omega)
 obtain⟨g1,g2,g3,g4,g5⟩:=hh.ed j _ hek
 rw[<-hq] at g1 g2 g3 g4 g5
 have g3:aP s (q+2+1) 2=eb.size:=g3
 have g4:fo s (q+2+1)=eb:=g4
 have g5:q+5+eb.size<=s.size:=g5
 have g1:(aP s q 2:Int)=ep:=g1
 have g2:(aP s (q+2) 1:Int)=es+1:=g2
 obtain⟨he1_,he2_⟩:=ll (hro.eds _ (List.mem_of_getElem? hek))
 have he2_: -1<=es/\es<=23:=he2_
 obtain⟨es1,hes1⟩:∃z,es+1=z:=⟨_,rfl⟩
 rw[hes1] at g2
 refine aB [0,1,0,4,0,28,60,0,188,508,1020,2047,4095] [[],[4],[1],[3],[1],[6],[],[1],[7],[],[],[9,5]] [[],[],[],[6],[],[7],[],[],[8],[],[9],[10]] [[],[],[],[3],[],[6],[],[],[7],[],[],[5]] [.k 30 (po pG 5),.c 31 (.slice EA j Ec),.c 32 (vp cy),.a 33,.c 34 (vp cy),.a 35,.c 36 (vi (es1-1)),.c 37 (vp cy),.a 38,.c 39 (.agg #[vi ep,vi (es1-1),.string eb]),.a 40,.a 41,.a 8] (fun ix d β X=>match ix with|0|1|2=>True|3=>d 33=vi ep/\X 6=eB cy 193 #[.string s,vi (((q+2:Nat):Int)),.bool false]|4=>True|5=>d 35=vi es1/\X 7=eB cy 193 #[.string s,vi (((q+2+1:Nat):Int)),.bool false]|6|7=>True|8=>d 38= .string eb/\X 8=eB cy 193 #[.string s,vi (((q+2+1+2+aP s (q+2+1) 2:Nat):Int)),.bool false]|9=>True|10=>d 40= .slice ((some ⟨(pb' (β 40)),0,none⟩)) 1 1/\X 9=eO 84 3 (.slice ((some ⟨(pb' (β 40)),0,none⟩)) 1 1) 1 ([vi ep,vi (es1-1),.string eb])|11=>d 41= .slice (sA (β 41)) (j+1) (sC (β 41))/\X 10=eO 84 3 (.slice (sA (β 41)) (j+1) (sC (β 41))) (j+1) ((r.eds.take (j+1)).flatMap edC)|12=>d 8= .slice (sA (β 41)) (j+1) (sC (β 41))|_=>True) [0,1,2,4,8,9,10] [1,2,3,4,5,6,7,8,9,10,11,12] [(8,12,1,9),(21,0,12,33)] et ?_ ?_ ?_
 exact fun ix _ _ _ _ _ _ hs hb hx h=>match ix,h with
 |3,h=>by dsimp only;rw[<-hs 33 rfl,<-hx 6 rfl];exact h
 |5,h=>by dsimp only;rw[<-hs 35 rfl,<-hx 7 rfl];exact h
 |8,h=>by dsimp only;rw[<-hs 38 rfl,<-hx 8 rfl];exact h
 |10,h=>by dsimp only;rw[<-hs 40 rfl,<-hb 40 rfl,<-hx 9 rfl];exact h
 |11,h=>by dsimp only;rw[<-hs 41 rfl,<-hb 41 rfl,<-hx 10 rfl];exact h
 |12,h=>by dsimp only;rw[<-hs 8 rfl,<-hb 41 rfl];exact h
 |0,_|1,_|2,_|4,_|6,_|7,_|9,_|_+13,_=>trivial
 refine⟨?_,?_,?_,?_,?_,?_,?_,?_,?_,?_,?_,?_,trivial⟩
 exact xs4 rfl id fun cx=>rL1 (cx.an 0) ((cx.bi 4 rfl).cell 5)
 exact xs4 rfl id fun cx=>rL1 (cx.ou 4) ((cx.bi 1 rfl).cell 0)
 refine svA fun ρ β W X cx=>?_
 refine ak.call (rCF (args:=#[vp cy,vi 2]) cx.sees (aN (cx.an 2) (cx.co _))) ?_
 refine(dG _ s q 2 _ ⟨(cx.bi 3 rfl),by omega,by omega⟩ (by omega) (by omega)).mono ?_
 rintro e W1 ⟨rfl,bV,hu⟩
 refine⟨_,rfl,cm (cx.init 3 _ rfl) rfl rfl hu bV.1 (fun d o X' hs hb hv hx=>?_)⟩
 exact⟨(hv 33 rfl).1.trans (congrArg (Value.int .i64) g1),hx⟩
 exact xs4 rfl id fun cx=>rL1 (cx.ou 4) ((cx.bi 1 rfl).cell 0)
 refine svA fun ρ β W X cx=>?_
 refine ak.call (rCF (args:=#[vp cy,vi 1]) cx.sees (aN (cx.an 4) (cx.co _))) ?_
 refine(dG _ s (q+2) 1 _ ⟨(cx.blk (dTn (cx.an 3)).2 rfl),by omega,by omega⟩ (by omega) (by omega)).mono ?_
 rintro e W1 ⟨rfl,bV,hu⟩
 refine⟨_,rfl,cm (dTn (cx.an 3)).2 rfl rfl hu bV.1 (fun d o X' hs hb hv hx=>?_)⟩
 exact⟨(hv 35 rfl).1.trans (congrArg (Value.int .i64) g2),hx⟩
 exact xs4 rfl id fun cx=>mg rfl (dTn (cx.an 5)).1 (cx.co _) (congrArg (fun z=>some (Value.int .i64 z)) ((IntWalk.i64_in _ (by omega)).trans (by omega)))
 exact xs4 rfl id fun cx=>rL1 (cx.ou 4) ((cx.bi 1 rfl).cell 0)
 refine svA fun ρ β W X cx=>?_
 refine ak.call (rCF (args:=#[vp cy]) cx.sees (av (cx.an 7))) ?_
 refine(oA _ s (q+2+1) _ ⟨(cx.blk (dTn (cx.an 5)).2 rfl),by omega,by omega⟩ (by omega) (by omega)).mono ?_
 rintro e W1 ⟨rfl,bV,hu⟩
 refine⟨_,rfl,cm (dTn (cx.an 5)).2 rfl rfl hu bV.1 (fun d o X' hs hb hv hx=>?_)⟩
 exact⟨(hv 38 rfl).1.trans (congrArg Value.string g4),hx⟩
 exact xs4 rfl id fun cx=>jX rfl (pmc (dTn (cx.an 3)).1 (pmc (cx.an 6) (pmc (dTn (cx.an 8)).1 pmn))) (by kernel_rfl)
 refine svA fun ρ β W X cx=>?_
 have Qr:ρ (.tmp 39)= .agg #[vi ep,vi (es1-1),.string eb]:=(cx.an 9)
 exact ml (e:=84) (sz:=3) (xs:=[vi ep,vi (es1-1),.string eb]) rfl (by simp[go_sem,Qr]) rfl (by decide) rfl rfl (fun _ _ _ _ _=> .intro)
 refine svA fun ρ β W X cx=>?_
 obtain⟨i0,hi0,hz0,hz1,hz2⟩:=info_parts Tryz.infoEditJ
 refine i6 (n:=j) (m:=1) (nm:=j+1) (sz:=3) (xs:=(r.eds.take j).flatMap edC) (news:=[vi ep,vi (es1-1),.string eb]) (xs':=(r.eds.take (j+1)).flatMap edC) rfl (ty:=24) rfl (by kernel_rfl) hi0 hz0 hz1 hz2 rfl (by decide) (cx.an 1) cx (cx.init 5 _ rfl) rfl (dTn (cx.an 10)).1 (by rfl) (At.of_ownN (cx.row (dTn (cx.an 10)).2 rfl)) (by simp[edC,Value.oneCell']) (by simp only[maxLen];omega) (by omega) rfl rfl rfl (by omega) ((by rw[<-Ky hek,show es=es1-1 by omega];rfl)) (fun d o X' hs hb hv hx=>?_)
 exact⟨hv,hx⟩
 exact sv rfl rfl rfl rfl rfl _ (fun _ _ _ h=>h) (fun β o h=>by rw[h 41 (by decide)]) fun ρ β W X cx=>cS rfl (dTn (cx.an 11)).1
 intro d β X xz hD d6 fr aC
 simp only[exq 8 ((dTn (hD 8 lq)).2),exq 9 ((dTn (hD 10 lq)).2),exq 10 ((dTn (hD 11 lq)).2)] at d6
 simp only[ed 33 ((dTn (hD 3 lq)).1),ed 35 ((dTn (hD 5 lq)).1),ed 38 ((dTn (hD 8 lq)).1),ed 40 ((dTn (hD 10 lq)).1),ed 41 ((dTn (hD 11 lq)).1),ed 8 ((dTn (hD 12 lq)))] at aC
 generalize pb' (β 40)=Rr,sA (β 41)=FQ,sC (β 41)=FR at d6 aC
 clear hD;subst aC;clear d β X
 refine aa (sqs [.m 42 8,.k 43 (po pG 5)] ?_)
 refine aT (n:=1) 3 #[vi r.kind,vi r.xid,vi r.tbl,sn,sn,.slice FQ (j+1) FR,sn,.string ByteArray.empty] d6 fun FM jr=>?_
 refine aq (aa (sqs [sI 44 ((j:Int)+1) (by omega),.m 28 44] ?_))
 refine aa ?_
 refine⟨r.eds.length-((j+1)),by omega,?_⟩
 exact⟨(j+1),q+2+1+2+aP s (q+2+1) 2,FQ,FR,by omega,by rw[DR hek];show _=11+(eF (r.eds.take j)+(5+eb.size));omega,rfl,(by kernel_rfl),jr.pk [0,1,2,4,3,6]⟩
 refine wp_exit (al (al (bf (aa (wq (wq ?_))))))
 obtain rfl:j=r.eds.length:=by omega
 rw[List.take_length] at hq et
 have g6:(aP s q 1:Int)=0:=by rw[hq,hh.xids];rfl
 have g7:aP s (q+1) 2=r.note.size:=by rw[hq,show 11+eF r.eds+1=12+eF r.eds by omega];exact hh.note.1
 have g8:fo s (q+1)=r.note:=by rw[hq,show 11+eF r.eds+1=12+eF r.eds by omega];exact hh.note.2
 have hsz:=hh.size
 have hrn:=hro.note
 refine sqr (am 1 et ?_)
 refine gL (vi 0) (eB cy 193 #[.string s,vi (((q+1:Nat):Int)),.bool false]) 3 et (by
   refine svA fun ρ β W X cx=>?_
   refine ak.call (rCF (args:=#[vp cy,vi 1]) cx.sees (aN (cx.ou 45) (cx.co _))) ?_
   refine(dG _ s q 1 _ ⟨(cx.bi 3 rfl),by omega,by omega⟩ (by omega) (by omega)).mono ?_
   rintro e W1 ⟨rfl,bV,hu⟩
   refine⟨_,rfl,cm (cx.init 3 _ rfl) rfl rfl hu bV.1 (fun d o X' hs hb hv hx=>?_)⟩
   exact⟨(hv 46 rfl).1.trans (congrArg (Value.int .i64) g6),hx⟩) fun xA ek=>?_
 refine sqp [.k 47 (vi 0)] ?_
 refine aa (wp_block ?_)
 refine aQ (fun t_ mz az W=>∃k:Nat,k<=0/\mz=0-k/\az=⟨(ovr (jv az) [(9,9,1,[]),(37,47,0,[vi ((k:Int))]),(0,48,10,[])] t_).toArray,[]⟩/\St w [] [eB bw 27 #[vi 0,vi 0,vi 0,sn,sn,sn,sn,.string ByteArray.empty],eB m6 153 #[vp cy],eB tz 4 #[.bool true],eB cy 193 #[.string s,vi (((q+1:Nat):Int)),.bool false],eB pG 27 #[vi r.kind,vi r.xid,vi r.tbl,sn,sn,.slice EA r.eds.length Ec,sn,.string ByteArray.empty],eO 84 3 (.slice EA r.eds.length Ec) r.eds.length (r.eds.flatMap edC)] W) (0-0) ?_ ?_
 exact⟨0,Nat.zero_le _,rfl,(by kernel_rfl),ek.pk [0,1,2,3,4,5]⟩
 rintro UF a36 xB ⟨k,hk,rfl,hj_,dX⟩
 refine ovz hj_ fun Tg=>?_
 refine wq (sqr ?_)
 have hd38:(decide ((k:Int)<0))=false:=(decide_eq_false (by omega))
 refine sqp [.e 48 (.bool (decide ((k:Int)<0))) (.bool false) (congrArg Value.bool hd38)] ?_
 refine aa (wq (wcf rfl (wp_exit (al (al (bf (aa (wq (sqr (am 1 dX ?_))))))))))
 refine gL (.string r.note) (eB cy 193 #[.string s,vi (((q+1+2+aP s (q+1) 2:Nat):Int)),.bool false]) 3 dX (by
   refine svA fun ρ β W X cx=>?_
   refine ak.call (rCF (args:=#[vp cy]) cx.sees (av (cx.ou 58))) ?_
   refine(oA _ s (q+1) _ ⟨(cx.bi 3 rfl),by omega,by omega⟩ (by omega) (by omega)).mono ?_
   rintro e W1 ⟨rfl,bV,hu⟩
   refine⟨_,rfl,cm (cx.init 3 _ rfl) rfl rfl hu bV.1 (fun d o X' hs hb hv hx=>?_)⟩
   exact⟨(hv 59 rfl).1.trans (congrArg Value.string g8),hx⟩) fun xC d7=>?_
 refine sqp [.k 60 (po pG 7)] ?_
 refine aT (n:=1) 4 #[vi r.kind,vi r.xid,vi r.tbl,sn,sn,.slice EA r.eds.length Ec,sn,.string r.note] d7 fun uX fu=>?_
 refine aa (wq (wp_block (wq (sqr (am 1 fu ?_)))))
 refine sqv (.bool false) fu (by
   refine svA fun ρ β W X cx=>?_
   refine ak.call (rCF (args:=#[vp cy]) cx.sees (av (cx.ou 62))) ?_
   refine(fC _ s (q+1+2+aP s (q+1) 2) false _ ⟨(cx.bi 3 rfl),by omega,by omega⟩).mono ?_
   rintro e W1 ⟨rfl,rfl⟩
   refine⟨_,rfl,bK [] rfl rfl (Ext.refl _) (by simp) List.Pairwise.nil (fun d o X' hs hb hv hN=>?_)⟩
   have aH:=(hv 63 rfl).1;have aO:=(hv 63 rfl).2
   exact aH.trans rfl) fun Rs vf=>?_
 refine sqp [.k 61 (.bool false)] ?_
 refine aa (wcf rfl (wq (sqr (am 2 vf ?_))))
 refine sqp [.k 67 (.bool false),.k 68 (.bool false)] ?_
 refine de 68 [69,70,71] rfl rfl ?_
 refine am 1 vf ?_
 refine sqk (vi 0) vf (fun cx=>⟨_,Km (p:=(q+1+2+aP s (q+1) 2)) (by omega:(0:Int)= _) ⟨(cx.bi 3 rfl),by omega,by omega⟩,(av (cx.ou 69))⟩) fun MZ mc=>?_
 refine sqp [.k 71 (.bool false)] ?_
 refine sqp [.k 72 (.bool false),.k 73 (.bool false)] ?_
 refine de 73 [74,75,76] rfl rfl ?_
 refine bD 4 8 mc ?_
 have hd56:((bt r))=true:=hrr
 refine sqv (.bool true) mc (ip rfl rfl rfl rfl rfl (fun _ _ _ h=>h.trans (congrArg Value.bool hd56)) fun ρ β W X cx=>⟨_,_,rCF (args:=#[.agg #[vi r.kind,vi r.xid,vi r.tbl,sn,sn,.slice EA r.eds.length Ec,sn,.string r.note]]) cx.sees (av (cx.ou 74)),lX r.kind r.xid r.tbl _ _ r.eds r.note _ (At.of_ownN (cx.ri 5 rfl)) (by omega) hez (by omega)⟩) fun Rt rZ=>?_
 refine sqp [.k 76 (.bool false)] ?_
 refine sqp [.k 77 (.bool false),.k 65 (.bool false)] ?_
 refine aa (wcf rfl (wp_skip (aq (aa (wq (sqr ?_))))))
 refine bD 4 8 rZ ?_
 refine aT (n:=8) 0 #[vi r.kind,vi r.xid,vi r.tbl,sn,sn,.slice EA r.eds.length Ec,sn,.string r.note] rZ fun BZ fw=>?_
 refine sqp [.k 3 (vi 0)] ?_
 exact aa (wp_ret (bpr (.tuple #[.agg #[vi r.kind,vi r.xid,vi r.tbl,sn,sn,.slice EA r.eds.length Ec,sn,.string r.note],vi 0]) (aL results99 (rpa (fw.blk 0 rfl) 0 8) rpt) (⟨_,_,rfl,fw.own' 5 rfl,fw.ext⟩)))
end
section
open Go.RowKit
def eM(R:List Ent):Ent:=⟨R.flatMap (·.fp),fun W=>∀e∈R,e.holds W/\e.loc⟩
theorem DI(R:List Ent):(eM R).loc:=fun W W' hk h e he=>
 ⟨(h e he).2 W W' (fun k hk'=>hk k (List.mem_flatMap.2 ⟨e,he,hk'⟩)) (h e he).1,(h e he).2⟩
theorem St.emNil(h:St w0 bor L W):St w0 bor (L++[eM []]) W:=by
 refine⟨h.upd,fun x hx=>?_,?_⟩
 rcases List.mem_append.1 hx with hx|hx
 exact h.ok x hx
 rw[List.mem_singleton] at hx
 subst hx
 exact⟨fun e he=>(by cases he),DI _,fun k hk=>(by cases hk)⟩
 rw[List.pairwise_append]
 refine⟨h.apart,List.pairwise_singleton _ _,fun a _ b hb=>?_⟩
 rw[List.mem_singleton] at hb
 subst hb
 exact fun k _ hk=>by cases hk
theorem St.merge{e:Ent}(h:St w0 bor (L++[eM R,e]) W):St w0 bor (L++[eM (R++[e])]) W:=by
 have hM:=h.ok (eM R) (by simp)
 have hE:=h.ok e (by simp)
 have hfp:∀k,k∈(eM (R++[e])).fp<->k∈(eM R).fp\/k∈e.fp:=fun k=>by simp[eM]
 refine⟨h.upd,fun x hx=>?_,?_⟩
 rcases List.mem_append.1 hx with hx|hx
 exact h.ok x (by simp[hx])
 rw[List.mem_singleton] at hx
 subst hx
 refine⟨fun x hx=>?_,DI _,fun k hk=>?_⟩
 rcases List.mem_append.1 hx with hx|hx
 exact hM.holds x hx
 rw[List.mem_singleton] at hx
 subst hx
 exact⟨hE.holds,hE.loc⟩
 rcases(hfp k).1 hk with hk|hk
 exact hM.own k hk
 exact hE.own k hk
 have ha:=h.apart
 rw[List.pairwise_append] at ha |-
 refine⟨ha.1,List.pairwise_singleton _ _,fun a ha' b hb=>?_⟩
 rw[List.mem_singleton] at hb
 subst hb
 intro k hk hkb
 rcases(hfp k).1 hkb with hkb|hkb
 exact ha.2.2 a ha' (eM R) (by simp) k hk hkb
 exact ha.2.2 a ha' e (by simp) k hk hkb
theorem St.repl{L1 L2:List Ent}{E':Ent}(h:St w0 bor (L1++E::L2) W)(hfp:E'.fp=E.fp)(hh:E.holds W->E'.holds W)(hl:E'.loc):St w0 bor (L1++E'::L2) W:=by
 refine⟨h.upd,fun x hx=>?_,?_⟩
 rcases List.mem_append.1 hx with hx|hx
 exact h.ok x (List.mem_append_left _ hx)
 rcases List.mem_cons.1 hx with e|hx
 rw[e]
 have h1:=h.ok E (by simp)
 exact⟨hh h1.holds,hl,fun k hk=>h1.own k (hfp ▸ hk)⟩
 exact h.ok x (by simp[hx])
 have ha:=h.apart
 rw[List.pairwise_append,List.pairwise_cons] at ha |-
 refine⟨ha.1,⟨fun b hb k hk hk'=>ha.2.1.1 b hb k (hfp ▸ hk) hk',ha.2.1.2⟩,fun a ha' b hb=>?_⟩
 rcases List.mem_cons.1 hb with e|hb
 rw[e]
 exact fun k hk hk'=>ha.2.2 a ha' E (by simp) k hk (hfp ▸ hk')
 exact ha.2.2 a ha' b (by simp[hb])
section
variable{P:Program}{ops:Array Oper}{L:List Nat}{a0:Act}{w0:World}{bor:List Nat}{X0:List Ent}{us cr kl:List (List Nat)}
 {D:Nat->(Tmp->Value)->(Tmp->Value)->(Nat->Ent)->Prop}{i:Nat}{o:Oper}{ρ:Operand->Value}{β:Tmp->Value}{W:World}{X:Nat->Ent}
theorem aI(N:List Ent)(hX:X q=E)(hk:atV kl i=[q])(hl:N.length=(atV cr i).length)(hs:St W E.fp N W')
  (hD:∀(f c:Tmp->Value) (X':Nat->Ent),(∀t,o.dst≠some t->f t=ρ (.tmp t))->(∀t,o.dst≠some t->c t=β t)->(∀d,o.dst=some d->f d=v/\c d=v)->(atV cr i).map X'=N->D i f c X'):bQ cr kl D i o.dst ρ β W X v W':=by
 subst hX
 have e1:(atV kl i).flatMap (fun q=>(X q).fp)=(X q).fp:=by rw[hk];simp
 exact⟨N,hl,⟨by rw[e1];exact hs.upd,fun e he=>⟨(hs.ok e he).holds,(hs.ok e he).loc,fun k hk'=>by rw[e1];exact(hs.ok e he).own k hk'⟩,hs.apart⟩,
  fun f c X' hs' hv hb' hbv hx' hN=>hD f c X' hs' hb' (fun d hd=>⟨hv d hd,hbv d hd⟩) hN⟩
end
theorem St.lend{E:Ent}(h:E.holds w)(hl:E.loc)(hb:∀k∈E.fp,k<w.heap.size):St w E.fp [E] w:=
 ⟨Upd.refl _ _,fun x hx=>by rw[List.mem_singleton] at hx;subst hx;exact⟨h,hl,fun k hk=>⟨.inl hk,hb k hk⟩⟩,List.pairwise_singleton _ _⟩
end
section
open Go.RowKit
structure RcT where
 r:RecM
 A:Option Addr
 c:Nat
def rcC(t:RcT):List Value:=[.int .i64 t.r.kind,.int .i64 t.r.xid,.int .i64 t.r.tbl,.slice none 0 0,.slice none 0 0,.slice t.A t.r.eds.length t.c,.slice none 0 0,.string t.r.note]
theorem cG(t:RcT):(rcC t).length=8:=rfl
def gW(t:RcT):Ent:=eO 84 3 (.slice t.A t.r.eds.length t.c) t.r.eds.length (t.r.eds.flatMap edC)
def eRc(Qs:List RcT):Ent:=eM (Qs.map gW)
theorem dP{Qs:List RcT}(h:(eRc Qs).holds W){t:RcT}(ht:t∈Qs):At W t.A (t.r.eds.flatMap edC):=At.of_ownN (h (gW t) (List.mem_map.2 ⟨_,ht,rfl⟩)).1
theorem St.mergeR{Qs:List RcT}{t:RcT}(h:St w0 bor (L++[eRc Qs,gW t]) W):St w0 bor (L++[eRc (Qs++[t])]) W:=by
 have h1:=St.merge (L:=L) (R:=Qs.map gW) (e:=gW t) h
 rw[eRc,List.map_append]
 exact h1
def szF(L:List RecM):Nat:=(L.map fun r=>(aA r).size).sum
def dZ(L:List RecM):ByteArray:=b8 (L.map aA)
def cL(L:List RecM)(j:Nat):List Int:=(List.range j).map fun i=>(szF (L.take (i+1)):Int)
theorem kw(L:List RecM)(j:Nat):(cL L j).length=j:=by simp[cL]
theorem wN(L:List RecM)(j:Nat):(cL L j).map (Value.int .i64)++[.int .i64 (szF (L.take (j+1)):Int)]=(cL L (j+1)).map (Value.int .i64):=by
 rw[cL,cL,List.range_succ,List.map_append,List.map_append];rfl
theorem cj(L:List RecM):(dZ L).size=szF L:=by rw[dZ,gm,szF,List.map_map];rfl
theorem yJ{L:List RecM}{r:RecM}(h:L[j]? =some r):szF (L.take (j+1))=szF (L.take j)+(aA r).size:=by
 obtain⟨hj,rfl⟩:=List.getElem?_eq_some_iff.1 h
 rw[szF,szF,List.take_succ_eq_append_getElem hj,List.map_append,List.sum_append];simp
theorem yM(a b:List ByteArray):b8 (a++b)=b8 a++b8 b:=by
 induction a with
 |nil=>rw[List.nil_append,fP,qu]
 |cons x a ih=>rw[List.cons_append,bx,bx,ih,ByteArray.append_assoc]
theorem jj{r:RecM}(h:bt r=true):(aA r).size=8+(aw r).size:=by
 rw[aA,if_pos h,wW,aE _ _ (by decide),aE _ _ (by decide)]
theorem om{L:List RecM}(h:∀r∈L,bt r=true):8*L.length<=szF L:=by
 induction L with
 |nil=>exact Nat.zero_le _
 |cons r L ih=>
  have h1:=ih fun x hx=>h x (by simp[hx])
  have h2:=jj (h r (by simp))
  have h3:szF (r::L)=(aA r).size+szF L:=by simp[szF]
  rw[List.length_cons,h3];omega
theorem Mu{L:List RecM}{r:RecM}(hj:L[j]? =some r)(hr:bt r=true){s t:ByteArray}(hs:s=dZ L++t):aP s (szF (L.take j)) 4=(aw r).size/\aP s (szF (L.take j)+4) 4=bc (aw r)/\s.extract (szF (L.take j)+4+4) (szF (L.take j)+4+4+(aw r).size)=aw r/\szF (L.take j)+8+(aw r).size<=s.size:=by
 obtain⟨hjl,rfl⟩:=List.getElem?_eq_some_iff.1 hj
 have hl:L=L.take j++L[j]::L.drop (j+1):=by rw[List.getElem_cons_drop,List.take_append_drop]
 have hz:=cj (L.take j)
 have hb:=jk L[j]
 have hsl:=kD (aw L[j])
 generalize L[j]=r at*
 generalize L.take j=l1 at*
 generalize L.drop (j+1)=l2 at*
 have e:s=dZ l1++(ah ((aw r).size:Int) 4++(ah (bc (aw r):Int) 4++(aw r++(dZ l2++t)))):=by
  rw[hs,hl,dZ,List.map_append,yM,List.map_cons,bx,aA,if_pos hr]
  simp only[bx,fP,ByteArray.append_assoc,qu,jW]
  rfl
 have p4:=fun n=>aE n 4 (by decide)
 have e2:s=(dZ l1++ah ((aw r).size:Int) 4)++(ah (bc (aw r):Int) 4++(aw r++(dZ l2++t))):=by rw[e];simp only[ByteArray.append_assoc]
 have e3:bl s=(bl (dZ l1)++(bl (ah ((aw r).size:Int) 4)++bl (ah (bc (aw r):Int) 4)))++(bl (aw r)++bl (dZ l2++t)):=by rw[e];simp only[cN,List.append_assoc]
 have h1:=ir e hz (p4 _)
 have h2:=ir e2 (p:=szF l1+4) (by rw[ByteArray.size_append,hz,p4]) (p4 _)
 have h3:=nC ((aw r).size:Int) (by omega) (by omega)
 have h4:=nC (bc (aw r):Int) (by omega) (by omega)
 refine⟨by omega,by omega,?_,?_⟩
 rw[kx e3 (p:=szF l1+4+4) (q:=szF l1+4+4+(aw r).size) (by simp only[List.length_append,bO,hz,p4]) (by rw[bO]),iv]
 rw[e];simp only[ByteArray.size_append,hz,p4];omega
def uv(s:ByteArray)(p:Nat):Prop:=s.size<p+8\/s.size<p+8+aP s p 4
theorem HJ{s:ByteArray}{L:List RecM}(hj:j<=L.length)(hq:q=szF (L.take j))(ht:uv s (szF L)):j<L.length\/(j=L.length/\s.size<q+4)\/(j=L.length/\q+4<=s.size/\s.size<q+4+4)\/(j=L.length/\q+4+4<=s.size/\s.size<q+4+4+aP s q 4):=by
 rcases Nat.lt_or_ge j L.length with h|h
 exact .inl h
 obtain rfl:j=L.length:=by omega
 rw[List.take_length] at hq
 subst hq
 unfold uv at ht
 omega
def Fq(L:List RecM)(w:World)(e:Ending)(w':World):Prop:=∃LA lc EA ec Ps,Ps.map RcT.r=L/\e= .returned (.tuple #[.slice LA L.length lc,.slice EA L.length ec])/\St w [] [eO 27 8 (.slice LA L.length lc) L.length (Ps.flatMap rcC),eO 3 1 (.slice EA L.length ec) L.length ((cL L L.length).map (Value.int .i64)),eRc Ps] w'
theorem Tryz.infoRecJ:(Tryz.prog.info? 27).map (fun i=>(i.zero,i.size,i.bytes))=some (some (.agg #[.int .i64 0,.int .i64 0,.int .i64 0,sn,sn,sn,sn,.string ⟨#[]⟩]),8,136):=by kernel_rfl
theorem Tryz.infoIntJ:(Tryz.prog.info? 3).map (fun i=>(i.zero,i.size,i.bytes))=some (some (.int .i64 0),1,8):=by kernel_rfl
theorem By(Ps:List RcT)(t:RcT):Ps.flatMap rcC++rcC t=(Ps++[t]).flatMap rcC:=by simp
theorem Kp(B:Nat)(s:ByteArray)(p:Nat)(f:Bool)(w:World)(h:Rd 193 w B s p f):
  Calls P_ 100 #[po B 0] w (Ret (.int .i64 (p:Int)) w):=by
 go_enter func100,ntmps100
 have aj:=St.start w
 refine wsq [.k 2 (vi 0)] ?_
 refine aa (wq (wsq [.m 3 0] ?_))
 refine sqv (.bool false) aj (by
   exact sv0 rfl rfl rfl rfl rfl (fun _ _ _ h=>h) fun ρ β W X cx=>by
    have fy:ρ (.tmp 3)=vp B:=(cx.ou 3)
    simp[go_sem,cx.sees.const,fy]) fun W3 aU=>?_
 refine aa (wcf rfl (wp_skip (aa (wsq [.m 5 0,.k 6 (vp B),.k 7 (po B 1)] ?_))))
 refine sql (vi ((p:Int))) aU (fun cx=>rL1 (cx.ou 7) ((Blk.ext h.1 cx.upd.to_ext).cell 1)) ?_
 refine sqp [.m 2 8] ?_
 exact aa (wp_ret (bpr (vi ((p:Int))) (ag results100 rpt) (Ret.of rfl aU.ext)))
theorem ET(s t:ByteArray)(L:List RecM)(w:World)(hsl:s=dZ L++t)(hL:∀r∈L,bt r=true)(ht:uv s (szF L))(hs:s.size<=2000000):
  Calls P_ 39 #[.string s] w (Fq L w):=by
 have hsz:(dZ L).size<=s.size:=by rw[hsl,ByteArray.size_append];omega
 rw[cj] at hsz
 have hLl:=om hL
 go_enter func39,ntmps39
 have aj:=St.start w
 refine wsq [.k 2 (sn),.k 3 (sn)] ?_
 refine aa (wsq [.k 4 (sn)] ?_)
 refine aa (wsq [.k 5 (sn)] ?_)
 refine aa (wsq [.m 12 0] ?_)
 refine qe (fun gF=>vp gF) (fun gF=>eB gF 193 #[.string s,vi 0,.bool false]) aj (fun cx=>⟨_,(rS s _).mono (by rintro e W1 ⟨B4,rfl,⟨hb4,hw4⟩,hx⟩;exact⟨_,rfl,St.one hx ⟨hb4,dW _ _ _,fun k hk=>by simp[eB] at hk;subst hk;exact⟨hw4,hb4.lt⟩⟩⟩),(av (cx.ou 12))⟩) fun gF W6 bJ=>?_
 refine sqp [.m 6 13] ?_
 refine aa (wp_block ?_)
 have hn8:=fm bJ 27 8
 simp only[List.cons_append,List.nil_append] at hn8
 have hn9:=St.nilrow hn8 3
 simp only[List.cons_append,List.nil_append] at hn9
 have hn10:=St.emNil (hn9.pick [0,1,2] (by decide) rfl)
 have hn11:=hn10.pick [0,1,2,3] (by decide) rfl
 refine aQ (fun t_ mz az W=>∃j:Nat,∃q:Nat,∃Ps:List RcT,∃LA:Option Addr,∃lc:Nat,∃EA:Option Addr,∃ec:Nat,j<=L.length/\q=szF (L.take j)/\Ps.map RcT.r=L.take j/\mz=L.length-j/\az=⟨(ovr (jv az) [(2,2,2,[.slice LA j lc,.slice EA j ec]),(1,7,5,[]),(2,14,36,[])] t_).toArray,[]⟩/\St w [] [eB gF 193 #[.string s,vi ((q:Int)),.bool false],eO 27 8 (.slice LA j lc) j (Ps.flatMap rcC),eO 3 1 (.slice EA j ec) j ((cL L j).map (Value.int .i64)),eRc Ps] W) (L.length-0) ?_ ?_
 exact⟨0,0,[],none,0,none,0,Nat.zero_le _,rfl,rfl,rfl,(by kernel_rfl),hn11.pk [0,1,2,3]⟩
 rintro PT a12 sF ⟨j,q,Ps,LA,lc,EA,ec,hj,hq,hPs,rfl,hj_,cP⟩
 refine ovz hj_ fun MX=>?_
 refine wp_block (wq ?_)
 have hsc:=HJ hj hq ht
 rcases hsc with hjl|⟨hje,fQ⟩|⟨hje,fQ,pY⟩|⟨hje,fQ,pY⟩
 obtain⟨rc,hrj⟩:∃z,L[j]? =some z:=⟨_,List.getElem?_eq_getElem hjl⟩
 have hrc:bt rc=true:=hL rc (List.mem_of_getElem? hrj)
 obtain⟨g1,g2,g3,g4⟩:=Mu hrj hrc hsl
 rw[<-hq] at g1 g2 g3 g4
 have hbz:=jk rc
 have hsm:=kD (aw rc)
 refine sqs [.m 14 6] ?_
 refine gL (vi (((aw rc).size:Int))) (eB gF 193 #[.string s,vi (((q+4:Nat):Int)),.bool false]) 0 cP (by
   refine svA fun ρ β W X cx=>?_
   refine ak.call (rCF (args:=#[vp gF,vi 4]) cx.sees (aN (cx.ou 14) (cx.co _))) ?_
   refine(dG _ s q 4 _ ⟨(cx.bi 0 rfl),by omega,by omega⟩ (by omega) (by omega)).mono ?_
   rintro e W1 ⟨rfl,bV,hu⟩
   refine⟨_,rfl,cm (cx.init 0 _ rfl) rfl rfl hu bV.1 (fun d c X' hs hb hv hx=>?_)⟩
   exact⟨(hv 15 rfl).1.trans (congrArg (fun n:Nat=>Value.int .i64 (n:Int)) g1),hx⟩) fun uY bZ=>?_
 refine sqp [.m 16 6] ?_
 refine gL (vi ((bc (aw rc):Int))) (eB gF 193 #[.string s,vi (((q+4+4:Nat):Int)),.bool false]) 0 bZ (by
   refine svA fun ρ β W X cx=>?_
   refine ak.call (rCF (args:=#[vp gF,vi 4]) cx.sees (aN (cx.ou 16) (cx.co _))) ?_
   refine(dG _ s (q+4) 4 _ ⟨(cx.bi 0 rfl),by omega,by omega⟩ (by omega) (by omega)).mono ?_
   rintro e W1 ⟨rfl,bV,hu⟩
   refine⟨_,rfl,cm (cx.init 0 _ rfl) rfl rfl hu bV.1 (fun d c X' hs hb hv hx=>?_)⟩
   exact⟨(hv 17 rfl).1.trans (congrArg (fun n:Nat=>Value.int .i64 (n:Int)) g2),hx⟩) fun p5 dl=>?_
 refine sqp [.m 7 15,.m 8 17] ?_
 refine aa (wsq [.m 18 6,.m 19 7] ?_)
 refine gL (.string ((aw rc))) (eB gF 193 #[.string s,vi (((q+4+4+(aw rc).size:Nat):Int)),.bool false]) 0 dl (by
   refine svA fun ρ β W X cx=>?_
   refine ak.call (gl (args:=#[vp gF,vi (((aw rc).size:Int))]) rfl cx.sees rfl (by kernel_rfl) (aN (cx.ou 18) (cx.ou 19))) ?_
   refine(vZ _ s (q+4+4) (aw rc).size _ ⟨(cx.bi 0 rfl),by omega,by omega⟩ (by omega)).mono ?_
   rintro e W1 ⟨rfl,bV,hu⟩
   refine⟨_,rfl,cm (cx.init 0 _ rfl) rfl rfl hu bV.1 (fun d c X' hs hb hv hx=>?_)⟩
   exact⟨(hv 20 rfl).1.trans (congrArg Value.string g3),hx⟩) fun uT eN=>?_
 refine sqp [.m 9 20] ?_
 refine aa (wq (wsq [.m 21 6] ?_))
 refine sqv (.bool false) eN (by
   refine svA fun ρ β W X cx=>?_
   refine ak.call (rCF (args:=#[vp gF]) cx.sees (av (cx.ou 21))) ?_
   refine(fC _ s (q+4+4+(aw rc).size) false _ ⟨(cx.bi 0 rfl),by omega,by omega⟩).mono ?_
   rintro e W1 ⟨rfl,rfl⟩
   refine⟨_,rfl,bK [] rfl rfl (Ext.refl _) (by simp) List.Pairwise.nil (fun d c X' hs hb hv hN=>?_)⟩
   have aH:=(hv 22 rfl).1;have aO:=(hv 22 rfl).2
   exact aH.trans rfl) fun uV et=>?_
 refine sqp [.k 23 (.bool false)] ?_
 refine de 23 [24,25,26,27,28] rfl rfl ?_
 refine sqp [.m 24 9] ?_
 refine sqk (.int .u32 ((bc (aw rc):Int))) et (fun cx=>⟨_,mR (aw rc) _ (by omega),(av (cx.ou 24))⟩) fun xz d6=>?_
 have hd31:((bc (aw rc):Int) != (bc (aw rc):Int))=false:=(by simp)
 refine sqp [sW 26 .i64 (bc (aw rc):Int) (bc (aw rc):Int) (IntWalk.i64_in _ (by omega)),.m 27 8,.e 28 (.bool ((bc (aw rc):Int) != (bc (aw rc):Int))) (.bool false) (congrArg Value.bool hd31)] ?_
 refine sqp [.k 29 (.bool false)] ?_
 refine aa (wcf rfl (wp_skip (aa (wsq [.m 33 9] ?_))))
 refine iz (fun gP gQ=> .tuple #[.agg #[vi rc.kind,vi rc.xid,vi rc.tbl,sn,sn,.slice gP rc.eds.length gQ,sn,.string rc.note],vi 0]) (fun gP gQ=>eO 84 3 (.slice gP rc.eds.length gQ) rc.eds.length (rc.eds.flatMap edC)) d6 (fun cx=>⟨_,(KK (aw rc) rc _ (GW hrc) hrc (by omega)).mono (by rintro e W1 ⟨A4,c4,rfl,ho,hx⟩;exact⟨_,_,rfl,St.one hx (cf ho)⟩),(av (cx.ou 33))⟩) fun gP gQ xA ek=>?_
 refine sqp [.m 32 34,.k 35 (.agg #[vi rc.kind,vi rc.xid,vi rc.tbl,sn,sn,.slice gP rc.eds.length gQ,sn,.string rc.note]),.k 36 (vi 0)] ?_
 refine bW #[vi 0,vi 0,vi 0,sn,sn,sn,sn,.string ByteArray.empty] ek fun Ru FP iC=>?_
 refine aT (n:=8) 5 #[vi rc.kind,vi rc.xid,vi rc.tbl,sn,sn,.slice gP rc.eds.length gQ,sn,.string rc.note] iC fun qU du=>?_
 refine sqp [.m 11 36] ?_
 refine aa (wq (wsq [.m 37 11,.k 38 (.bool false)] ?_))
 refine aa (wcf rfl (wp_skip (aa (wsq [.m 41 4] ?_))))
 refine bD 5 8 du ?_
 refine mX 27 8 1 [vi rc.kind,vi rc.xid,vi rc.tbl,sn,sn,.slice gP rc.eds.length gQ,sn,.string rc.note] du (@fun ρ β W X cx=>by have Qt:ρ (.tmp 42)= .agg #[vi rc.kind,vi rc.xid,vi rc.tbl,sn,sn,.slice gP rc.eds.length gQ,sn,.string rc.note]:=(cx.ou 42);simp[go_sem,Qt]) fun Rv PU vg=>?_
 refine v8 (j+1) ((Ps++[RcT.mk rc gP gQ]).flatMap rcC) 1 vg Tryz.infoRecJ (fun cx=>(At.of_ownN (cx.ri 6 rfl))) (h1:=by simp[rcC,Value.oneCell']) (jJ:=(By Ps (RcT.mk rc gP gQ))) fun FS FT FN gr=>?_
 refine sqp [.m 4 44] ?_
 refine aa (sqs [.m 45 5,.m 46 6] ?_)
 refine sqk (vi (((q+4+4+(aw rc).size:Nat):Int))) gr (fun cx=>⟨_,Kp _ s (q+4+4+(aw rc).size) false _ ⟨(cx.bi 0 rfl),by omega,by omega⟩,(av (cx.ou 46))⟩) fun MZ mc=>?_
 refine d9 (fun x_=>sA x_) (fun vh=> .slice vh 1 1) (fun vh=>eO 3 1 (.slice vh 1 1) 1 ([vi (((q+4+4+(aw rc).size:Nat):Int))])) mc (by
   refine svA fun ρ β W X cx=>?_
   have Qu:ρ (.tmp 47)=vi (((q+4+4+(aw rc).size:Nat):Int)):=(cx.ou 47)
   exact dA (e:=3) (xs:=[vi (((q+4+4+(aw rc).size:Nat):Int))]) rfl (by simp[go_sem,Qu]) rfl (by decide) rfl rfl (fun _ _ _ _ _=> .intro)) fun vh Jm kU=>?_
 refine ti (fun x_=>sA x_) (fun x_=>sC x_) (fun oD oE=> .slice oD (j+1) oE) (fun oD oE=>eO 3 1 (.slice oD (j+1) oE) (j+1) ((cL L (j+1)).map (Value.int .i64))) 2 kU (by
   refine svA fun ρ β W X cx=>?_
   obtain⟨i0,hi0,hz0,hz1,hz2⟩:=info_parts Tryz.infoIntJ
   refine fj (n:=j) (m:=1) (nm:=j+1) (xs:=(cL L j).map (Value.int .i64)) (news:=[vi (((q+4+4+(aw rc).size:Nat):Int))]) (xs':=(cL L (j+1)).map (Value.int .i64)) rfl (ty:=25) rfl (by kernel_rfl) hi0 hz0 hz1 hz2 rfl (cx.ou 45) cx (cx.init 2 _ rfl) rfl (cx.ou 48) (by first|(simp;done)|(simp;omega)) (At.of_own (cx.ri 7 rfl)) (by simp[rcC,Value.oneCell']) (by simp only[maxLen];omega) (by omega) rfl rfl rfl (by omega) ((by rw[<-wN,yJ hrj,jj hrc,<-hq,show q+4+4+(aw rc).size=q+(8+(aw rc).size) by omega])) (fun d c X' hs hb hv hx=>?_)
   exact⟨hv,hx⟩) fun oD oE B1 cJ=>?_
 refine sqp [.m 5 49] ?_
 refine aq (aa ?_)
 have hm54:=St.mergeR (Qs:=Ps) (t:=(RcT.mk rc gP gQ)) (L:=[eB gF 193 #[.string s,vi (((q+4+4+(aw rc).size:Nat):Int)),.bool false],eO 27 8 (.slice FS (j+1) FT) (j+1) ((Ps++[RcT.mk rc gP gQ]).flatMap rcC),eO 3 1 (.slice oD (j+1) oE) (j+1) ((cL L (j+1)).map (Value.int .i64))]) (cJ.pick [0,1,2,3,4] (by decide) rfl)
 refine⟨L.length-((j+1)),by omega,?_⟩
 exact⟨(j+1),q+4+4+(aw rc).size,(Ps++[(RcT.mk rc gP gQ)]),FS,FT,oD,oE,by omega,by rw[yJ hrj,jj hrc,<-hq];omega,by rw[List.map_append,hPs,List.take_succ_eq_append_getElem (List.getElem?_eq_some_iff.1 hrj).1,(List.getElem?_eq_some_iff.1 hrj).2];rfl,rfl,(by kernel_rfl),hm54.pk [0,1,2,3]⟩
 have hqs:q<=s.size:=by rw[hq,hje,List.take_length];exact hsz
 refine sqs [.m 14 6] ?_
 refine j0 (vi 0) 0 #[.string s,vi ((q:Int)),.bool true] cP (fun cx=>⟨_,(rX _ s q 4 false _ ⟨(cx.bi 0 rfl),by omega,by omega⟩ (by omega) (.inr (by omega))).mono (by rintro e W1 ⟨rfl,bV,hu⟩;exact⟨rfl,hu,bV.1⟩),(aN (cx.ou 14) (cx.co _))⟩) fun PR pE=>?_
 refine sqp [.m 16 6] ?_
 refine j0 (vi 0) 0 #[.string s,vi ((q:Int)),.bool true] pE (fun cx=>⟨_,(rX _ s q 4 true _ ⟨(cx.bi 0 rfl),by omega,by omega⟩ (by omega) (.inl rfl)).mono (by rintro e W1 ⟨rfl,bV,hu⟩;exact⟨rfl,hu,bV.1⟩),(aN (cx.ou 16) (cx.co _))⟩) fun Jp kf=>?_
 refine sqp [.m 7 15,.m 8 17] ?_
 refine aa (wsq [.m 18 6,.m 19 7] ?_)
 refine j0 (.string ByteArray.empty) 0 #[.string s,vi ((q:Int)),.bool true] kf (fun cx=>⟨_,(kp _ s q true 0 _ ⟨(cx.bi 0 rfl),by omega,by omega⟩ (.inl rfl)).mono (by rintro e W1 ⟨rfl,bV,hu⟩;exact⟨rfl,hu,bV.1⟩),(aN (cx.ou 18) (cx.ou 19))⟩) fun Ro va=>?_
 refine sqp [.m 9 20] ?_
 refine aa (wq (wsq [.m 21 6] ?_))
 refine sqv (.bool true) va (by
   refine svA fun ρ β W X cx=>?_
   refine ak.call (rCF (args:=#[vp gF]) cx.sees (av (cx.ou 21))) ?_
   refine(fC _ s q true _ ⟨(cx.bi 0 rfl),by omega,by omega⟩).mono ?_
   rintro e W1 ⟨rfl,rfl⟩
   refine⟨_,rfl,bK [] rfl rfl (Ext.refl _) (by simp) List.Pairwise.nil (fun d c X' hs hb hv hN=>?_)⟩
   have aH:=(hv 22 rfl).1;have aO:=(hv 22 rfl).2
   exact aH.trans rfl) fun PQ vb=>?_
 refine yA [.k 23 (.bool true)] 23 [24,25,26,27,28] ?_
 refine sqp [.k 29 (.bool true)] ?_
 refine aa (wct rfl (wsq [.m 30 4,.m 31 5,.m 2 30,.m 3 31] ?_))
 refine aa (wp_ret (ai (aY (ai (aY ?_)))))
 refine bpr (.tuple #[.slice LA j lc,.slice EA j ec]) (aL results39 rpt rpt) ?_
 subst hje;rw[List.take_length] at hPs;exact⟨_,_,_,_,Ps,hPs,rfl,vb.pick [1,2,3] (by decide) rfl⟩
 have hqs:q<=s.size:=by rw[hq,hje,List.take_length];exact hsz
 have hn4:=mD s q
 refine sqs [.m 14 6] ?_
 refine j0 (vi ((aP s q 4:Int))) 0 #[.string s,vi (((q+4:Nat):Int)),.bool false] cP (fun cx=>⟨_,(dG _ s q 4 _ ⟨(cx.bi 0 rfl),by omega,by omega⟩ (by omega) (by omega)).mono (by rintro e W1 ⟨rfl,bV,hu⟩;exact⟨rfl,hu,bV.1⟩),(aN (cx.ou 14) (cx.co _))⟩) fun Jr gZ=>?_
 refine sqp [.m 16 6] ?_
 refine j0 (vi 0) 0 #[.string s,vi (((q+4:Nat):Int)),.bool true] gZ (fun cx=>⟨_,(rX _ s (q+4) 4 false _ ⟨(cx.bi 0 rfl),by omega,by omega⟩ (by omega) (.inr (by omega))).mono (by rintro e W1 ⟨rfl,bV,hu⟩;exact⟨rfl,hu,bV.1⟩),(aN (cx.ou 16) (cx.co _))⟩) fun PV pH=>?_
 refine sqp [.m 7 15,.m 8 17] ?_
 refine aa (wsq [.m 18 6,.m 19 7] ?_)
 refine j0 (.string ByteArray.empty) 0 #[.string s,vi (((q+4:Nat):Int)),.bool true] pH (fun cx=>⟨_,(kp _ s (q+4) true (aP s q 4:Int) _ ⟨(cx.bi 0 rfl),by omega,by omega⟩ (.inl rfl)).mono (by rintro e W1 ⟨rfl,bV,hu⟩;exact⟨rfl,hu,bV.1⟩),(aN (cx.ou 18) (cx.ou 19))⟩) fun Rw xU=>?_
 refine sqp [.m 9 20] ?_
 refine aa (wq (wsq [.m 21 6] ?_))
 refine sqv (.bool true) xU (by
   refine svA fun ρ β W X cx=>?_
   refine ak.call (rCF (args:=#[vp gF]) cx.sees (av (cx.ou 21))) ?_
   refine(fC _ s (q+4) true _ ⟨(cx.bi 0 rfl),by omega,by omega⟩).mono ?_
   rintro e W1 ⟨rfl,rfl⟩
   refine⟨_,rfl,bK [] rfl rfl (Ext.refl _) (by simp) List.Pairwise.nil (fun d c X' hs hb hv hN=>?_)⟩
   have aH:=(hv 22 rfl).1;have aO:=(hv 22 rfl).2
   exact aH.trans rfl) fun UG OP=>?_
 refine yA [.k 23 (.bool true)] 23 [24,25,26,27,28] ?_
 refine sqp [.k 29 (.bool true)] ?_
 refine aa (wct rfl (wsq [.m 30 4,.m 31 5,.m 2 30,.m 3 31] ?_))
 refine aa (wp_ret (ai (aY (ai (aY ?_)))))
 refine bpr (.tuple #[.slice LA j lc,.slice EA j ec]) (aL results39 rpt rpt) ?_
 subst hje;rw[List.take_length] at hPs;exact⟨_,_,_,_,Ps,hPs,rfl,OP.pick [1,2,3] (by decide) rfl⟩
 have hqs:q<=s.size:=by rw[hq,hje,List.take_length];exact hsz
 have hn4:=mD s q
 have hn5:=mD s (q+4)
 refine sqs [.m 14 6] ?_
 refine j0 (vi ((aP s q 4:Int))) 0 #[.string s,vi (((q+4:Nat):Int)),.bool false] cP (fun cx=>⟨_,(dG _ s q 4 _ ⟨(cx.bi 0 rfl),by omega,by omega⟩ (by omega) (by omega)).mono (by rintro e W1 ⟨rfl,bV,hu⟩;exact⟨rfl,hu,bV.1⟩),(aN (cx.ou 14) (cx.co _))⟩) fun M0 md=>?_
 refine sqp [.m 16 6] ?_
 refine j0 (vi ((aP s (q+4) 4:Int))) 0 #[.string s,vi (((q+4+4:Nat):Int)),.bool false] md (fun cx=>⟨_,(dG _ s (q+4) 4 _ ⟨(cx.bi 0 rfl),by omega,by omega⟩ (by omega) (by omega)).mono (by rintro e W1 ⟨rfl,bV,hu⟩;exact⟨rfl,hu,bV.1⟩),(aN (cx.ou 16) (cx.co _))⟩) fun PW vj=>?_
 refine sqp [.m 7 15,.m 8 17] ?_
 refine aa (wsq [.m 18 6,.m 19 7] ?_)
 refine j0 (.string ByteArray.empty) 0 #[.string s,vi (((q+4+4:Nat):Int)),.bool true] vj (fun cx=>⟨_,(kp _ s (q+4+4) false (aP s q 4:Int) _ ⟨(cx.bi 0 rfl),by omega,by omega⟩ (.inr (.inr (by omega)))).mono (by rintro e W1 ⟨rfl,bV,hu⟩;exact⟨rfl,hu,bV.1⟩),(aN (cx.ou 18) (cx.ou 19))⟩) fun Rx Df=>?_
 refine sqp [.m 9 20] ?_
 refine aa (wq (wsq [.m 21 6] ?_))
 refine sqv (.bool true) Df (by
   refine svA fun ρ β W X cx=>?_
   refine ak.call (rCF (args:=#[vp gF]) cx.sees (av (cx.ou 21))) ?_
   refine(fC _ s (q+4+4) true _ ⟨(cx.bi 0 rfl),by omega,by omega⟩).mono ?_
   rintro e W1 ⟨rfl,rfl⟩
   refine⟨_,rfl,bK [] rfl rfl (Ext.refl _) (by simp) List.Pairwise.nil (fun d c X' hs hb hv hN=>?_)⟩
   have aH:=(hv 22 rfl).1;have aO:=(hv 22 rfl).2
   exact aH.trans rfl) fun Th M1=>?_
 refine yA [.k 23 (.bool true)] 23 [24,25,26,27,28] ?_
 refine sqp [.k 29 (.bool true)] ?_
 refine aa (wct rfl (wsq [.m 30 4,.m 31 5,.m 2 30,.m 3 31] ?_))
 refine aa (wp_ret (ai (aY (ai (aY ?_)))))
 refine bpr (.tuple #[.slice LA j lc,.slice EA j ec]) (aL results39 rpt rpt) ?_
 subst hje;rw[List.take_length] at hPs;exact⟨_,_,_,_,Ps,hPs,rfl,M1.pick [1,2,3] (by decide) rfl⟩
end
section
open Go.RowKit
theorem vR(z:Array Value)(hz:0<z.size)(n:Nat):(madeCells z ((n+1)*z.size)).toList=z.toList++(madeCells z (n*z.size)).toList:=by
 apply List.ext_getElem?
 intro j
 have e:∀m j,(madeCells z m).toList[j]? =if j<m then some (z[j % z.size]!) else none:=fun m j=>by
  by_cases h:j<m
  rw[if_pos h];simp[madeCells,h]
  rw[if_neg h];simp[madeCells,h]
 have hm:(n+1)*z.size=z.size+n*z.size:=by rw[Nat.add_mul];omega
 rw[e,hm]
 by_cases h:j<z.size
 rw[if_pos (by omega),List.getElem?_append_left (by simpa using h),Nat.mod_eq_of_lt h]
 simp[h]
 rw[List.getElem?_append_right (by simpa using h),Array.length_toList,e]
 by_cases h2:j<z.size+n*z.size
 rw[if_pos h2,if_pos (by omega),Nat.mod_eq_sub_mod (by omega)]
 rw[if_neg h2,if_neg (by omega)]
theorem wg{T:Type}(f:T->List Value)(t:T)(z:Array Value)(hz:z.toList=f t)(h0:0<z.size)(n:Nat):(madeCells z (n*z.size)).toList=(List.replicate n t).flatMap f:=by
 induction n with
 |zero=>
  rw[Nat.zero_mul]
  have:(madeCells z 0).toList.length=0:=by rw[Array.length_toList,size_madeCells]
  rw[List.eq_nil_of_length_eq_zero this];rfl
 |succ n ih=>rw[vR z h0,ih,List.replicate_succ,List.flatMap_cons,hz]
section
variable{P:Program}{ops:Array Oper}{L:List Nat}{a0:Act}{w0:World}{bor:List Nat}{X0:List Ent}{us cr kl:List (List Nat)}
 {D:Nat->(Tmp->Value)->(Tmp->Value)->(Nat->Ent)->Prop}{i:Nat}{o:Oper}{ρ:Operand->Value}{β:Tmp->Value}{W:World}{X:Nat->Ent}
theorem Ha{t e:TypeId}{k k':IntKind}{j j':Int}{d:Tmp}{inf:TypeInfo}{z:Value}{bytes:Nat}(h:o.op= .makeSlice t x y)(ht:P.underlying t=some (.slice e))(hi:P.info? e=some inf)(hz:inf.zero=some z)(hsize:inf.size=sz)(hby:inf.bytes=bytes)
  (hx:ρ x= .int k j) (hy:ρ y= .int k' j') (hj:j=(n:Int)) (hj':j'=(n:Int)) (hn:n*sz<=16777216) (hb:bytes*n<=281474976710656) (hml:n<=maxLen) (jJ:(madeCells z.cells (n*sz)).toList=xs) (hd:o.dst=some d) (hc:atV cr i=[q])
  (hD:∀(f c:Tmp->Value) (X':Nat->Ent),(∀t,t≠d->f t=ρ (.tmp t))->(∀t,t≠d->c t=β t)->f d= .slice (sA (c d)) n n->X' q=eO e sz (.slice (sA (c d)) n n) n xs->D i f c X'):
  ak P o ρ W (bQ cr kl D i o.dst ρ β W X):=by
 subst hj;subst hj';subst hby;subst hsize;subst jJ
 obtain⟨W',hrun,ho,hg⟩:=run_makeSlice_full (P:=P) W W.heap.size t e inf z inf.size ht hi hz rfl k k' n hn hb hml (Nat.le_refl _)
 have hr:(execOp ρ o).run P W= .ok (.value (.slice (some ⟨W.heap.size,0,none⟩) n n)) W':=by
  unfold execOp;rw[h]
  simp only[hx,hy,Sem.run_bind,hrun,Result.andThen_ok,Sem.run_pure]
 refine ak.value hr ⟨[eO e inf.size (.slice (some ⟨W.heap.size,0,none⟩) n n) n (madeCells z.cells (n*inf.size)).toList],by rw[hc];rfl,⟨(Upd.refl _ W).grown hg (fun k hk=>by cases hk),fun e' he=>?_,List.pairwise_singleton _ _⟩,fun f c X' hs' hv hb hbv hx' hN=>hD f c X' (fun t ht=>hs' t (by rw[hd];simpa using ht.symm)) (fun t ht=>hb t (by rw[hd];simpa using ht.symm)) ?_ ?_⟩
 rw[List.mem_singleton] at he
 subst he
 obtain⟨h1,h2,h3⟩:=cf ho
 exact⟨h1,h2,fun k hk=>⟨.inr (h3 k hk).1,(h3 k hk).2⟩⟩
 rw[hv d hd,hbv d hd];rfl
 rw[hbv d hd]
 rw[hc] at hN
 exact(List.cons.inj hN).1
end
theorem CtxV.holdF{L:List Nat}(cx:CtxV ops L a0 w0 bor X0 us D i ρ β W X)(hX:X q=E)(hu:(atV us i).contains q=true):E.holds W:=by
 have h:=(cx.ok q hu).holds
 rw[hX] at h;exact h
theorem CtxV.ltF{L:List Nat}{E:Ent}(cx:CtxV ops L a0 w0 bor X0 us D i ρ β W X)(hX:X q=E)(hu:(atV us i).contains q=true):∀k∈E.fp,k<W.heap.size:=fun k hk=>by
 subst hX;exact((cx.ok q hu).own k hk).2
theorem CtxV.keepF{L:List Nat}{F:Ent}(cx:CtxV ops L a0 w0 bor X0 us D i ρ β W X)(hX:X q=E)(hX':X q'=F)(hu:(atV us i).contains q=true)(hu':(atV us i).contains q'=true)(hne:q≠q'):∀W',Upd F.fp W W'->E.holds W':=fun W' hU=>by
 subst hX hX'
 have h1:=cx.ok q hu
 exact h1.loc W W' (fun k hk=>hU.block k (h1.own k hk).2 (cx.ap q q' hu hu' hne k hk)) h1.holds
theorem St.pack{S:List Ent}(h:St w0 bor (L++S) W)(hfp:E.fp=S.flatMap (·.fp))(hh:E.holds W)(hl:E.loc):St w0 bor (L++[E]) W:=by
 have hin:∀k,k∈E.fp->∃e∈S,k∈e.fp:=fun k hk=>by rw[hfp] at hk;exact List.mem_flatMap.1 hk
 refine⟨h.upd,fun x hx=>?_,?_⟩
 rcases List.mem_append.1 hx with hx|hx
 exact h.ok x (List.mem_append_left _ hx)
 rw[List.mem_singleton] at hx
 subst hx
 exact⟨hh,hl,fun k hk=>let ⟨e,he,hke⟩:=hin k hk;(h.ok e (List.mem_append_right _ he)).own k hke⟩
 have ha:=h.apart
 rw[List.pairwise_append] at ha |-
 refine⟨ha.1,List.pairwise_singleton _ _,fun a ha' b hb k hk hkb=>?_⟩
 rw[List.mem_singleton] at hb
 subst hb
 obtain⟨e,he,hke⟩:=hin k hkb
 exact ha.2.2 a ha' e he k hk hke
theorem St.unpack{S:List Ent}(h:St w0 bor [E] W)(hfp:E.fp=S.flatMap (·.fp))(hS:∀e∈S,e.holds W/\e.loc)(ha:S.Pairwise Ent.apart):St w0 bor S W:=
 ⟨h.upd,fun x hx=>⟨(hS x hx).1,(hS x hx).2,fun k hk=>(h.ok E (List.mem_singleton.2 rfl)).own k (by rw[hfp];exact List.mem_flatMap.2 ⟨x,hx,hk⟩)⟩,ha⟩
theorem CtxV.keepAt{L:List Nat}{e c:Nat}{A:Option Addr}{F:Ent}(cx:CtxV ops L a0 w0 bor X0 us D i ρ β W X)(hX:X q=eO e sz (.slice A n c) m xs)(hX':X q'=F)(hu:(atV us i).contains q=true)(hu':(atV us i).contains q'=true)(hne:q≠q'):∀W',Upd F.fp W W'->At W' A xs:=fun W' hU=>
 At.of_ownN (cx.keepF hX hX' hu hu' hne W' hU)
end
section
open Go.RowKit
def eA(R:List Ent):Ent:=⟨R.flatMap (·.fp),fun W=>(∀e∈R,e.holds W/\e.loc)/\R.Pairwise Ent.apart⟩
theorem LS(R:List Ent):(eA R).loc:=fun W W' hk h=>
 ⟨fun e he=>⟨(h.1 e he).2 W W' (fun k hk'=>hk k (List.mem_flatMap.2 ⟨e,he,hk'⟩)) (h.1 e he).1,(h.1 e he).2⟩,h.2⟩
theorem St.unpackL{S:List Ent}(h:St w0 bor (L++[E]) W)(hfp:E.fp=S.flatMap (·.fp))(hS:∀e∈S,e.holds W/\e.loc)(ha:S.Pairwise Ent.apart):St w0 bor (L++S) W:=by
 refine⟨h.upd,fun x hx=>?_,?_⟩
 rcases List.mem_append.1 hx with hx|hx
 exact h.ok x (List.mem_append_left _ hx)
 exact⟨(hS x hx).1,(hS x hx).2,fun k hk=>(h.ok E (by simp)).own k (by rw[hfp];exact List.mem_flatMap.2 ⟨x,hx,hk⟩)⟩
 have h1:=List.pairwise_append.1 h.apart
 refine List.pairwise_append.2 ⟨h1.1,ha,fun a ha' b hb k hk hkb=>?_⟩
 exact h1.2.2 a ha' E (by simp) k hk (by rw[hfp];exact List.mem_flatMap.2 ⟨b,hb,hkb⟩)
theorem St.packA(h:St w0 bor (L++R) W):St w0 bor (L++[eA R]) W:=
 St.pack h rfl ⟨fun e he=>have h1:=h.ok e (List.mem_append_right _ he);⟨h1.holds,h1.loc⟩,(List.pairwise_append.1 h.apart).2.1⟩ (LS R)
theorem St.unpackA(h:St w0 bor (L++[eA R]) W):St w0 bor (L++R) W:=by
 have h1:=(h.ok (eA R) (by simp)).holds
 exact h.unpackL rfl h1.1 h1.2
theorem St.outA{A B:List Ent}{e:Ent}(h:St w0 bor (L++[eA (A++e::B)]) W):St w0 bor (L++[eA (A++B),e]) W:=by
 have h1:St w0 bor (L++[e]++(A++B)) W:=h.unpackA.perm (by
  rw[List.append_assoc]
  refine List.Perm.append_left L ?_
  exact List.perm_middle)
 have h2:=h1.packA
 exact h2.perm (by
  rw[List.append_assoc]
  exact List.Perm.append_left L (List.Perm.swap ..))
theorem St.inA{A B:List Ent}{e:Ent}(h:St w0 bor (L++[eA (A++B),e]) W):St w0 bor (L++[eA (A++e::B)]) W:=by
 have h1:St w0 bor (L++[e]++[eA (A++B)]) W:=h.perm (by
  rw[List.append_assoc]
  exact List.Perm.append_left L (List.Perm.swap ..))
 have h2:St w0 bor (L++(A++e::B)) W:=h1.unpackA.perm (by
  rw[List.append_assoc]
  exact List.Perm.append_left L (List.perm_middle (a:=e) (l₁:=A) (l₂:=B)).symm)
 exact h2.packA
theorem St.addE{R:List Ent}(h:St w0 bor L W)(hR:∀e∈R,e.fp=[]/\e.holds W/\e.loc):St w0 bor (L++R) W:=by
 refine⟨h.upd,fun x hx=>?_,?_⟩
 rcases List.mem_append.1 hx with hx|hx
 exact h.ok x hx
 have h1:=hR x hx
 exact⟨h1.2.1,h1.2.2,fun k hk=>by rw[h1.1] at hk;cases hk⟩
 refine List.pairwise_append.2 ⟨h.apart,?_,fun a _ b hb k _ hkb=>by rw[(hR b hb).1] at hkb;cases hkb⟩
 exact List.pairwise_of_forall_mem_list fun a ha b hb k hk=>by rw[(hR a ha).1] at hk;cases hk
end
section
open Go.RowKit
abbrev H5:={s:ByteArray // s.size=512}
structure ShD where
 safe:H5
 ws:List H5
structure DkM where
 pgs:List ShD
 log:ByteArray
 fl:Nat
 off:Bool
 armed:Bool
 left:Int
structure ShT where
 s:H5
 A:Option Addr
 c:Nat
 ws:List H5
def dV(t:ShT):ShD:=⟨t.s,t.ws⟩
def ba(s:ByteArray):List Int:=(bl s).map fun c=>(c.toNat:Int)
theorem gV(s:ByteArray):(ba s).length=s.size:=by rw[ba,List.length_map,bO]
theorem zq(a b:ByteArray):ba (a++b)=ba a++ba b:=by rw[ba,cN,List.map_append];rfl
theorem Cc(s:ByteArray):Lib.strCells s=(ba s).map (Value.int .u8):=by rw[ba,List.map_map];rfl
theorem sH(s:ByteArray):strOfNums (ba s)=s:=by
 apply go
 show (strOfNums (ba s)).data.toList=bl s
 rw[strOfNums_data,ba,List.map_map]
 have:(fun x:Int=>UInt8.ofNat x.toNat) ∘ (fun c:UInt8=>(c.toNat:Int))=id:=by funext c;simp
 first
  |rw[this,List.map_id]
  |(conv=>rhs;rw[<-List.map_id (bl s)]
    apply List.map_congr_left
    intro c _
    simp)
def hvC(h:H5):List Value:=(ba h.1).map (Value.int .u8)
theorem cH(h:H5):(hvC h).length=512:=by rw[hvC,List.length_map,gV,h.2]
def shC(t:ShT):List Value:=hvC t.s++[.slice t.A t.ws.length t.c]
theorem c6(t:ShT):(shC t).length=513:=by rw[shC,List.length_append,cH];rfl
def nT(t:ShT):Ent:=eO 142 512 (.slice t.A t.ws.length t.c) t.ws.length (t.ws.flatMap hvC)
def eWs(Qs:List ShT):Ent:=eA (Qs.map nT)
theorem Er{Qs:List ShT}(h:(eWs Qs).holds W){t:ShT}(ht:t∈Qs):At W t.A (t.ws.flatMap hvC):=At.of_ownN (h.1 (nT t) (List.mem_map.2 ⟨_,ht,rfl⟩)).1
def dkC(D:DkM)(PA:Option Addr)(Pc:Nat)(GA:Option Addr)(gc:Nat):Array Value:=#[.slice PA D.pgs.length Pc,.slice GA D.log.size gc,.int .i64 (D.fl:Int),.bool D.off,.bool D.armed,.int .i64 D.left]
def dkL(b:Nat)(D:DkM)(PA:Option Addr)(Pc:Nat)(GA:Option Addr)(gc:Nat)(Ps Qs:List ShT):List Ent:=
 [eB b 100 (dkC D PA Pc GA gc),eO 144 513 (.slice PA D.pgs.length Pc) D.pgs.length (Ps.flatMap shC),eO 5 1 (.slice GA D.log.size gc) D.log.size ((ba D.log).map (Value.int .u8)),eWs Qs]
def eDk(b:Nat)(D:DkM)(fp:List Nat):Ent:=⟨fp,fun W=>∃PA Pc GA gc Ps Qs,Ps.map dV=D.pgs/\Qs=Ps/\fp=(dkL b D PA Pc GA gc Ps Qs).flatMap (·.fp)/\(dkL b D PA Pc GA gc Ps Qs).Pairwise Ent.apart/\∀e∈dkL b D PA Pc GA gc Ps Qs,e.holds W/\e.loc⟩
theorem dm(b:Nat)(D:DkM)(fp:List Nat):(eDk b D fp).loc:=fun W W' hk h=>by
 obtain⟨PA,Pc,GA,gc,Ps,Qs,h1,h2,h3,h4,h5⟩:=h
 exact⟨PA,Pc,GA,gc,Ps,Qs,h1,h2,h3,h4,fun e he=>⟨(h5 e he).2 W W' (fun k hk'=>hk k (by rw[eDk,h3];exact List.mem_flatMap.2 ⟨e,he,hk'⟩)) (h5 e he).1,(h5 e he).2⟩⟩
theorem cF{e:Ent}{D:DkM}(h:e=eDk b D fp):e=eDk b D e.fp:=by subst h;rfl
theorem St.dk{D:DkM}{Ps Qs:List ShT}(h:St w0 bor (L++dkL b D PA Pc GA gc Ps Qs) W)(h1:Ps.map dV=D.pgs)(h2:Qs=Ps):∃fp,St w0 bor (L++[eDk b D fp]) W:=by
 refine⟨_,St.pack (E:=eDk b D ((dkL b D PA Pc GA gc Ps Qs).flatMap (·.fp))) h rfl ⟨PA,Pc,GA,gc,Ps,Qs,h1,h2,rfl,(List.pairwise_append.1 h.apart).2.1,fun e he=>?_⟩ (dm _ _ _)⟩
 have h3:=h.ok e (List.mem_append_right _ he)
 exact⟨h3.holds,h3.loc⟩
def l8(W:World)(A:Option Addr)(s:ByteArray):Prop:=(A=none/\s=⟨#[]⟩)\/∃g,A=some ⟨g,0,none⟩/\g<W.heap.size/\At W A ((ba s).map (Value.int .u8))
structure DkO (W:World) (b:Nat) (D:DkM) (PA:Option Addr) (Pc:Nat) (GA:Option Addr) (gc:Nat) (Ps:List ShT):Prop where
 blk:Blk W b 100 (dkC D PA Pc GA gc)
 at_:At W PA (Ps.flatMap shC)
 ab:Ps.map dV=D.pgs
 log:l8 W GA D.log
 ws:∀p∈Ps,At W p.A (p.ws.flatMap hvC)
def jb(W:World)(b:Nat)(D:DkM):Prop:=∃PA Pc GA gc Ps,DkO W b D PA Pc GA gc Ps
theorem l8.ext{A:Option Addr}{s:ByteArray}(h:l8 W A s)(hx:Ext W W'):l8 W' A s:=h.imp id fun⟨g,h1,h2,h3⟩=>⟨g,h1,Nat.lt_of_lt_of_le h2 hx.size,h3.ext hx⟩
theorem DkO.ext{D:DkM}{Ps:List ShT}(h:DkO W b D PA Pc GA gc Ps)(hx:Ext W W'):DkO W' b D PA Pc GA gc Ps:=⟨h.blk.ext hx,h.at_.ext hx,h.ab,h.log.ext hx,fun p hp=>(h.ws p hp).ext hx⟩
theorem l8.own{A:Option Addr}{c:Nat}{s:ByteArray}{e:TypeId}(h:W.ownsRow base e 1 (.slice A s.size c) s.size ((ba s).map (Value.int .u8))):l8 W A s:=by
 have hlt:=h.lt
 rcases h.2 with ⟨hv,h0⟩|⟨g,cap,cur,hv,_⟩
 injection hv with h1 h2 h3
 refine .inl ⟨h1,go ?_⟩
 have:(bl s).length=0:=by rw[bO];omega
 rw[List.eq_nil_of_length_eq_zero this];rfl
 injection hv with h1 h2 h3
 exact .inr ⟨g,h1,(hlt g (by rw[h1];rfl)).2,At.of_own h⟩
theorem eP{D:DkM}(h:(eDk b D fp).holds W):jb W b D:=by
 obtain⟨PA,Pc,GA,gc,Ps,Qs,h1,h2,h3,h4,h5⟩:=h
 refine⟨PA,Pc,GA,gc,Ps,(h5 (eB b 100 (dkC D PA Pc GA gc)) (List.mem_cons_self ..)).1,?_,h1,?_,fun p hp=>Er (h5 (eWs Qs) (by simp[dkL])).1 (by rw[h2];exact hp)⟩
 exact At.of_ownN (h5 (eO 144 513 (.slice PA D.pgs.length Pc) D.pgs.length (Ps.flatMap shC)) (by simp[dkL])).1
 exact l8.own (h5 (eO 5 1 (.slice GA D.log.size gc) D.log.size ((ba D.log).map (Value.int .u8))) (by simp[dkL])).1
section
variable{P:Program}{o:Oper}{ρ:Operand->Value}{W:World}
theorem A5{t t' e:TypeId}{A:Option Addr}{c:Nat}{s:ByteArray}(h:o.op= .convert t t' x)(ht:P.underlying t=some (.slice e))(he:P.underlying e=some (.int .u8))(ht':P.underlying t'=some .string)
  (hx:ρ x= .slice A s.size c) (hA:l8 W A s):(execOp ρ o).run P W= .ok (.value (.string s)) W:=by
 have hr:(convert t t' (.slice A s.size c)).run P W= .ok (.string s) W:=by
  rcases hA with ⟨rfl,rfl⟩|⟨g,rfl,hg,hA⟩
  exact run_convert_bytes_nil W t e ht he _ c t' ht'
  have h1:=run_convert_bytes_arg W t e ht he g 0 s.size c (ba s) (gV s) (fun i hi=>?_) t' ht'
  rw[sH] at h1;exact h1
  obtain⟨ad,a1,a2,a3⟩:=hA i (.int .u8 ((ba s).getD i 0)) (by
   rw[List.getElem?_map,List.getD_eq_getElem?_getD,List.getElem?_eq_getElem (by rw[gV];exact hi)];rfl)
  injection a1 with a1
  subst a1
  have e2:(⟨g,0+i,none⟩:Addr)=(⟨g,0,none⟩:Addr).add i:=by simp[Addr.add]
  rw[e2];exact a3
 unfold execOp;rw[h]
 simp only[hx,Sem.run_bind,hr,Result.andThen_ok,Sem.run_pure]
end
end
section
open Go.RowKit
theorem DkO.blkL{D:DkM}{Ps:List ShT}(h:DkO W b D PA Pc GA gc Ps):Blk W b 100 #[.slice PA D.pgs.length Pc,.slice GA D.log.size gc,.int .i64 (D.fl:Int),.bool D.off,.bool D.armed,.int .i64 D.left]:=h.blk
theorem Je(b:Nat)(D:DkM)(PA:Option Addr)(Pc:Nat)(GA:Option Addr)(gc:Nat)(Ps:List ShT)(w:World)(hB:DkO w b D PA Pc GA gc Ps):
  Calls P_ 59 #[po b 0] w (Ret (.bool (!D.off)) w):=by
 go_enter func59,ntmps59
 have aj:=St.start w
 refine wsq [.k 2 (.bool false)] ?_
 refine aa (wsq [.m 3 0] ?_)
 refine sqv (.bool true) aj (by
   exact sv0 rfl rfl rfl rfl rfl (fun _ _ _ h=>h) fun ρ β W X cx=>by
    have fy:ρ (.tmp 3)=vp b:=(cx.ou 3)
    simp[go_sem,cx.sees.const,fy]) fun W3 aU=>?_
 refine sqp [.k 5 (.bool true)] ?_
 refine de 5 [6,7,8,9,10] rfl rfl ?_
 refine sqp [.m 6 0,.k 7 (vp b),.k 8 (po b 3)] ?_
 refine sql (.bool D.off) aU (fun cx=>rL1 (cx.ou 8) ((Blk.ext hB.blkL cx.upd.to_ext).cell 3)) ?_
 refine sqp [.k 10 (.bool (!(D.off)))] ?_
 refine sqp [.k 11 (.bool (!(D.off))),.m 2 11] ?_
 exact aa (wp_ret (bpr (.bool (!(D.off))) (ag results59 rpt) (Ret.bool (by simp) aU.ext)))
theorem Cz(b:Nat)(D:DkM)(PA:Option Addr)(Pc:Nat)(GA:Option Addr)(gc:Nat)(Ps:List ShT)(n:Int)(w:World)(hB:DkO w b D PA Pc GA gc Ps):
  Calls P_ 87 #[po b 0,.int .i64 n] w (Ret (.bool (decide (0<=n)&&decide (n<(D.pgs.length:Int)))) w):=by
 go_enter func87,ntmps87
 have aj:=St.start w
 refine wsq [.k 4 (.bool false)] ?_
 refine aa (wsq [.m 5 0] ?_)
 refine sqv (.bool true) aj (by
   exact sv0 rfl rfl rfl rfl rfl (fun _ _ _ h=>h) fun ρ β W X cx=>by
    have qY:ρ (.tmp 5)=vp b:=(cx.ou 5)
    simp[go_sem,cx.sees.const,qY]) fun W3 aU=>?_
 refine sqp [.k 7 (.bool true)] ?_
 refine de 7 [8,9] rfl rfl ?_
 refine sqp [.m 8 1,.k 9 (.bool (decide (0<=n)))] ?_
 refine sqp [.k 10 (.bool (decide (0<=n))),.m 11 10] ?_
 refine d3 11 [12,13,14,15,16,17,18] ?_ rfl (fun hq=>?_) ?_
 rotate_left
 refine sqp [.m 12 1,.m 13 0,.k 14 (vp b),.k 15 (vp b)] ?_
 refine sql (.slice PA D.pgs.length Pc) aU (fun cx=>rL1 (cx.ou 15) ((Blk.ext hB.blkL cx.upd.to_ext).cell 0)) ?_
 refine sqp [.k 17 (vi ((D.pgs.length:Int))),.k 18 (.bool (decide (n<(D.pgs.length:Int))))] ?_
 exact sqe
 refine c7 ?_
 refine sqp [sPa 19 (decide (0<=n)) (decide (n<(D.pgs.length:Int))),.m 4 19] ?_
 exact aa (wp_ret (bpr (.bool ((decide (0<=n))&&(decide (n<(D.pgs.length:Int))))) (ag results87 rpt) (Ret.bool (by simp) aU.ext)))
theorem H0(b:Nat)(D:DkM)(PA:Option Addr)(Pc:Nat)(GA:Option Addr)(gc:Nat)(Ps:List ShT)(w:World)(hB:DkO w b D PA Pc GA gc Ps):
  Calls P_ 66 #[po b 0] w (Ret (.int .i64 (D.pgs.length:Int)) w):=by
 go_enter func66,ntmps66
 have aj:=St.start w
 refine wsq [.k 2 (vi 0)] ?_
 refine aa (wq (wsq [.m 3 0] ?_))
 refine sqv (.bool false) aj (by
   exact sv0 rfl rfl rfl rfl rfl (fun _ _ _ h=>h) fun ρ β W X cx=>by
    have fy:ρ (.tmp 3)=vp b:=(cx.ou 3)
    simp[go_sem,cx.sees.const,fy]) fun W3 aU=>?_
 refine aa (wcf rfl (wp_skip (aa (wsq [.m 5 0,.k 6 (vp b),.k 7 (vp b)] ?_))))
 refine sql (.slice PA D.pgs.length Pc) aU (fun cx=>rL1 (cx.ou 7) ((Blk.ext hB.blkL cx.upd.to_ext).cell 0)) ?_
 refine sqp [.k 9 (vi ((D.pgs.length:Int))),.m 2 9] ?_
 exact aa (wp_ret (bpr (vi ((D.pgs.length:Int))) (ag results66 rpt) (Ret.of rfl aU.ext)))
theorem Cd(b:Nat)(D:DkM)(PA:Option Addr)(Pc:Nat)(GA:Option Addr)(gc:Nat)(Ps:List ShT)(w:World)(hB:DkO w b D PA Pc GA gc Ps):
  Calls P_ 68 #[po b 0] w (Ret (.int .i64 (D.fl:Int)) w):=by
 go_enter func68,ntmps68
 have aj:=St.start w
 refine wsq [.k 2 (vi 0)] ?_
 refine aa (wq (wsq [.m 3 0] ?_))
 refine sqv (.bool false) aj (by
   exact sv0 rfl rfl rfl rfl rfl (fun _ _ _ h=>h) fun ρ β W X cx=>by
    have fy:ρ (.tmp 3)=vp b:=(cx.ou 3)
    simp[go_sem,cx.sees.const,fy]) fun W3 aU=>?_
 refine aa (wcf rfl (wp_skip (aa (wsq [.m 5 0,.k 6 (vp b),.k 7 (po b 2)] ?_))))
 refine sql (vi ((D.fl:Int))) aU (fun cx=>rL1 (cx.ou 7) ((Blk.ext hB.blkL cx.upd.to_ext).cell 2)) ?_
 refine sqp [.m 2 8] ?_
 exact aa (wp_ret (bpr (vi ((D.fl:Int))) (ag results68 rpt) (Ret.of rfl aU.ext)))
theorem Mc(b:Nat)(D:DkM)(PA:Option Addr)(Pc:Nat)(GA:Option Addr)(gc:Nat)(Ps:List ShT)(w:World)(hB:DkO w b D PA Pc GA gc Ps):
  Calls P_ 15 #[po b 0] w (Ret (.string D.log) w):=by
 go_enter func15,ntmps15
 have aj:=St.start w
 refine wsq [.k 2 (.string ⟨#[]⟩)] ?_
 refine aa (wq (wsq [.m 3 0] ?_))
 refine sqv (.bool false) aj (by
   exact sv0 rfl rfl rfl rfl rfl (fun _ _ _ h=>h) fun ρ β W X cx=>by
    have fy:ρ (.tmp 3)=vp b:=(cx.ou 3)
    simp[go_sem,cx.sees.const,fy]) fun W3 aU=>?_
 refine aa (wcf rfl (wp_skip (aa (wsq [.m 5 0,.k 6 (vp b),.k 7 (po b 1)] ?_))))
 refine sql (.slice GA D.log.size gc) aU (fun cx=>rL1 (cx.ou 7) ((Blk.ext hB.blkL cx.upd.to_ext).cell 1)) ?_
 refine sql (.string D.log) aU (fun cx=>A5 (e:=5) rfl (by kernel_rfl) (by kernel_rfl) (by kernel_rfl) (cx.ou 8) (hB.log.ext cx.upd.to_ext)) ?_
 refine sqp [.m 2 9] ?_
 exact aa (wp_ret (bpr (.string D.log) (ag results15 rpt) (Ret.of rfl aU.ext)))
theorem mj(b:Nat)(D:DkM)(w:World)(h:jb w b D):Calls P_ 59 #[po b 0] w (Ret (.bool (!D.off)) w):=by
 obtain⟨PA,Pc,GA,gc,Ps,h1⟩:=h
 exact Je b D PA Pc GA gc Ps w h1
theorem Kk(b:Nat)(D:DkM)(n:Int)(w:World)(h:jb w b D):Calls P_ 87 #[po b 0,.int .i64 n] w (Ret (.bool (decide (0<=n)&&decide (n<(D.pgs.length:Int)))) w):=by
 obtain⟨PA,Pc,GA,gc,Ps,h1⟩:=h
 exact Cz b D PA Pc GA gc Ps n w h1
theorem CG(b:Nat)(D:DkM)(w:World)(h:jb w b D):Calls P_ 66 #[po b 0] w (Ret (.int .i64 (D.pgs.length:Int)) w):=by
 obtain⟨PA,Pc,GA,gc,Ps,h1⟩:=h
 exact H0 b D PA Pc GA gc Ps w h1
theorem yH(b:Nat)(D:DkM)(w:World)(h:jb w b D):Calls P_ 68 #[po b 0] w (Ret (.int .i64 (D.fl:Int)) w):=by
 obtain⟨PA,Pc,GA,gc,Ps,h1⟩:=h
 exact Cd b D PA Pc GA gc Ps w h1
theorem ks(b:Nat)(D:DkM)(w:World)(h:jb w b D):Calls P_ 15 #[po b 0] w (Ret (.string D.log) w):=by
 obtain⟨PA,Pc,GA,gc,Ps,h1⟩:=h
 exact Mc b D PA Pc GA gc Ps w h1
end
section
open Go.RowKit
def cX(n:Int):Int:=IntKind.i64.wrap (n-1)
def opD(D:DkM)(er:Int)(D2:DkM->DkM):DkM×Int:=if D.off=true then (D,24) else if er≠0 then (D,er) else if D.armed=true/\D.left<=0 then ({D with off:=true},24) else (D2 {D with left:=cX D.left},0)
def apE(D:DkM)(s:ByteArray):Int:=if 1048576<(D.log.size:Int)+(s.size:Int) then 31 else 0
def apD(s:ByteArray)(D:DkM):DkM:={D with log:=D.log++s}
def flD(D:DkM):DkM:={D with fl:=D.log.size}
def bT(b:Nat)(R:DkM×Int)(fp:List Nat)(w:World)(e:Ending)(w':World):Prop:=e= .returned (.int .i64 R.2)/\∃fp',St w fp [eDk b R.1 fp'] w'
def mq(b:Nat)(D:DkM)(fp:List Nat)(w:World)(e:Ending)(w':World):Prop:=e= .returned (.tuple #[])/\∃fp',St w fp [eDk b D fp'] w'
theorem rP{v v':Bool}{f:FuncId}{args:Array Value}(h:v=v')(hc:Calls P_ f args w (Ret (.bool v) w)):Calls P_ f args w (Ret (.bool v') w):=h ▸ hc
theorem bT.of{R R':DkM×Int}{fp':List Nat}{w':World}(h:R=R')(hs:St w fp [eDk b R'.1 fp'] w'):bT b R fp w (.returned (.int .i64 R'.2)) w':=by
 subst h;exact⟨rfl,_,hs⟩
section
variable{ops:Array Oper}{L:List Nat}{a0:Act}{w0:World}{bor:List Nat}{X0:List Ent}{us:List (List Nat)}
 {D:Nat->(Tmp->Value)->(Tmp->Value)->(Nat->Ent)->Prop}{i:Nat}{ρ:Operand->Value}{β:Tmp->Value}{W:World}{X:Nat->Ent}
theorem CtxV.notin(cx:CtxV ops L a0 w0 bor X0 us D i ρ β W X)(hX:X q=E)(hu:(atV us i).contains q=true)(hn:k∉bor)(hlt:k<w0.heap.size):k∉E.fp:=fun hk=>by
 have h:=((cx.ok q hu).own k (by rw[hX];exact hk)).1
 rcases h with h|h
 exact hn h
 omega
end
theorem Tryz.infoU8J:(Tryz.prog.info? 5).map (fun i=>(i.zero,i.size,i.bytes))=some (some (.int .u8 0),1,1):=by kernel_rfl
theorem KF(a s:ByteArray):(ba a).map (Value.int .u8)++Lib.strCells s=(ba (a++s)).map (Value.int .u8):=by rw[Cc,zq,List.map_append]
theorem St.with2{L:List Ent}{b3 t3:Nat}{c3:Array Value}(h:St w bor L w)(h2:Blk w b2 t2 c2)(h3:Blk w b3 t3 c3)(n2:b2∉bor)(n3:b3∉bor)(vk:b2≠b3)(hL:∀e∈L,∀k∈e.fp,k∈bor):St w (b2::b3::bor) (L++[eB b2 t2 c2,eB b3 t3 c3]) w:=by
 refine⟨Upd.refl _ _,fun x hx=>?_,?_⟩
 rcases List.mem_append.1 hx with hx|hx
 have h4:=h.ok x hx
 exact⟨h4.holds,h4.loc,fun k hk=>⟨(h4.own k hk).1.imp (fun z=>by simp[z]) id,(h4.own k hk).2⟩⟩
 simp only[List.mem_cons,List.not_mem_nil,or_false] at hx
 rcases hx with rfl|rfl
 exact⟨h2,dW _ _ _,fun k hk=>⟨.inl (by simp[eB] at hk;simp[hk]),by simp[eB] at hk;subst hk;exact h2.lt⟩⟩
 exact⟨h3,dW _ _ _,fun k hk=>⟨.inl (by simp[eB] at hk;simp[hk]),by simp[eB] at hk;subst hk;exact h3.lt⟩⟩
 refine List.pairwise_append.2 ⟨h.apart,List.pairwise_pair.2 fun k hk hk2=>by simp[eB] at hk hk2;omega,fun x hx y hy k hk hk2=>?_⟩
 have h5:=hL x hx k hk
 simp only[List.mem_cons,List.not_mem_nil,or_false] at hy
 rcases hy with rfl|rfl
 simp[eB] at hk2;subst hk2;exact n2 h5
 simp[eB] at hk2;subst hk2;exact n3 h5
theorem St.less2{b3 t3:Nat}{c3:Array Value}(h:St w (b2::b3::bor) (L++[eB b2 t2 c2,eB b3 t3 c3]) W)(h2:Blk w b2 t2 c2)(h3:Blk w b3 t3 c3):St w bor L W:=by
 have k2:Blk W b2 t2 c2:=(h.ok (eB b2 t2 c2) (by simp)).holds
 have k3:Blk W b3 t3 c3:=(h.ok (eB b3 t3 c3) (by simp)).holds
 have ha:=List.pairwise_append.1 h.apart
 refine⟨⟨h.upd.os,h.upd.tape,h.upd.output,h.upd.size,fun k hk hn=>?_⟩,fun x hx=>?_,ha.1⟩
 by_cases e2:k=b2
 subst e2;exact k2.trans h2.symm
 by_cases e3:k=b3
 subst e3;exact k3.trans h3.symm
 exact h.upd.block k hk (by simp;exact⟨e2,e3,hn⟩)
 have h4:=h.ok x (List.mem_append_left _ hx)
 refine⟨h4.holds,h4.loc,fun k hk=>⟨?_,(h4.own k hk).2⟩⟩
 have n2:k≠b2:=fun e=>ha.2.2 x hx (eB b2 t2 c2) (by simp) k hk (by simp[eB,e])
 have n3:k≠b3:=fun e=>ha.2.2 x hx (eB b3 t3 c3) (by simp) k hk (by simp[eB,e])
 rcases(h4.own k hk).1 with h5|h5
 simp only[List.mem_cons] at h5
 rcases h5 with h5|h5|h5
 exact absurd h5 n2
 exact absurd h5 n3
 exact .inl h5
 exact .inr h5
theorem LM(b b2 b3:Nat)(D:DkM)(s:ByteArray)(PA:Option Addr)(Pc:Nat)(GA:Option Addr)(gc:Nat)(Ps:List ShT)(w:World)(hB:DkO w b D PA Pc GA gc Ps)(h2:Blk w b2 30 #[po b 0])(h3:Blk w b3 9 #[.string s])(hz:D.log.size<=10000000)(hz2:s.size<=10000000):
  Calls P_ 129 #[po b2 0,po b3 0] w (Ret (.int .i64 (apE D s)) w):=by
 go_enter func129,ntmps129
 have aj:=St.start w
 refine wsq [.k 2 (vi 0)] ?_
 refine aa (wq (wq (bG [0,1,3,7,15,0,32,127,255] [] [.c 3 (vp b),.k 4 (vp b),.k 5 (po b 1),.c 6 (.slice GA D.log.size gc),.k 7 (vi ((D.log.size:Int))),.c 8 (.string s),.k 9 (vi ((s.size:Int))),tI 10 ((D.log.size:Int)+(s.size:Int)) (by omega),.k 11 (.bool (decide (1048576<(D.log.size:Int)+(s.size:Int))))] [] [0,3,5] [(3,0,9,12)] aj ?_ fun W2 bA=>?_)))
 refine⟨?_,?_,?_,trivial⟩
 exact xs4 rfl id fun cx=>rL1 (cx.ou 0) ((Blk.ext h2 cx.upd.to_ext).cell 0)
 exact xs4 rfl id fun cx=>rL1 (cx.an 2) ((Blk.ext hB.blkL cx.upd.to_ext).cell 1)
 exact xs4 rfl id fun cx=>rL1 (cx.ou 1) ((Blk.ext h3 cx.upd.to_ext).cell 0)
 refine aa (wds (fun vl wB=>?_) fun vl wB=>?_)
 refine wsq [.k 2 (vi 31)] ?_
 refine aa (wp_ret (ai ?_))
 exact bpr (vi 31) (ag results129 rpt) (Ret.int (by rw[apE,if_pos (of_decide_eq_true vl)]) bA.ext)
 refine wp_skip (aa (wsq [.k 2 (vi 0)] ?_))
 exact aa (wp_ret (bpr (vi 0) (ag results129 rpt) (Ret.int (by rw[apE,if_neg (of_decide_eq_false vl)]) bA.ext)))
theorem Ip(b b2 b3:Nat)(D:DkM)(s:ByteArray)(fp:List Nat)(w:World)(hB:(eDk b D fp).holds w)(hlt:∀k∈fp,k<w.heap.size)(h2:Blk w b2 30 #[po b 0])(h3:Blk w b3 9 #[.string s])(n2:b2∉fp)(n3:b3∉fp)(vk:b2≠b3)(hz:D.log.size<=10000000)(hz2:s.size<=10000000):
  Calls P_ 130 #[po b2 0,po b3 0] w (mq b (apD s D) fp w):=by
 have st1:=St.lend hB (dm _ _ _) hlt
 obtain⟨PA,Pc,GA,gc,Ps,Qs,hps,hsub,hfp,hap,hall⟩:=hB
 have st0:=St.unpack st1 hfp hall hap
 have st2:St w (b2::b3::fp) [eB b 100 #[.slice PA D.pgs.length Pc,.slice GA D.log.size gc,.int .i64 ((D.fl:Int)),.bool D.off,.bool D.armed,.int .i64 D.left],eO 144 513 (.slice PA D.pgs.length Pc) D.pgs.length (Ps.flatMap shC),eO 5 1 (.slice GA D.log.size gc) D.log.size ((ba D.log).map (Value.int .u8)),eWs Qs,eB b2 30 #[po b 0],eB b3 9 #[.string s]] w:=St.with2 st0 h2 h3 n2 n3 vk (fun e he k hk=>by rw[show fp=(eDk b D fp).fp from rfl,show (eDk b D fp).fp= _ from hfp];exact List.mem_flatMap.2 ⟨e,he,hk⟩)
 go_enter func130,ntmps130
 have aj:=st2
 refine aB [0,0,2,6,14,0,62,127,255,511] [[4],[4],[],[],[0],[5],[2],[],[],[0]] [[],[],[],[],[],[],[6],[],[],[7]] [[],[],[],[],[],[],[2],[],[],[0]] [.c 2 (vp b),.c 3 (vp b),.k 4 (vp b),.k 5 (po b 1),.c 6 (.slice GA D.log.size gc),.c 7 (.string s),.a 8,.k 9 (vp b),.k 10 (po b 1),.n] (fun ix d β X=>match ix with|0|1|2|3|4|5=>True|6=>d 8= .slice (sA (β 8)) (D.log.size+s.size) (sC (β 8))/\X 6=eO 5 1 (.slice (sA (β 8)) (D.log.size+s.size) (sC (β 8))) (D.log.size+s.size) ((ba (D.log++s)).map (Value.int .u8))|7|8=>True|9=>X 7=eB b 100 #[.slice PA D.pgs.length Pc,.slice (sA (β 8)) (D.log.size+s.size) (sC (β 8)),vi ((D.fl:Int)),.bool D.off,.bool D.armed,vi D.left]|_=>True) [1,3,4,5,6,7] [0,1,4,5,6,9] [(2,0,9,11)] aj ?_ ?_ ?_
 exact fun ix _ _ _ _ _ _ hs hb hx h=>match ix,h with
 |6,h=>by dsimp only;rw[<-hs 8 rfl,<-hb 8 rfl,<-hx 6 rfl];exact h
 |9,h=>by dsimp only;rw[<-hb 8 rfl,<-hx 7 rfl];exact h
 |0,_|1,_|2,_|3,_|4,_|5,_|7,_|8,_|_+10,_=>trivial
 refine⟨?_,?_,?_,?_,?_,?_,trivial⟩
 exact xs4 rfl id fun cx=>rL1 (cx.ou 0) ((cx.bi 4 rfl).cell 0)
 exact xs4 rfl id fun cx=>rL1 (cx.ou 0) ((cx.bi 4 rfl).cell 0)
 exact xs4 rfl id fun cx=>rL1 (cx.an 3) ((cx.bi 0 rfl).cell 1)
 exact xs4 rfl id fun cx=>rL1 (cx.ou 1) ((cx.bi 5 rfl).cell 0)
 refine svA fun ρ β W X cx=>?_
 obtain⟨i0,hi0,hz0,hz1,hz2⟩:=info_parts Tryz.infoU8J
 refine zE (n:=D.log.size) (nm:=D.log.size+s.size) (xs:=(ba D.log).map (Value.int .u8)) (xs':=(ba (D.log++s)).map (Value.int .u8)) rfl (by kernel_rfl) (by kernel_rfl) hi0 hz0 hz1 hz2 (cx.an 4) cx (cx.init 2 _ rfl) rfl (cx.an 5) (by simp only[maxLen];omega) (by omega) rfl rfl rfl (by omega) ((KF D.log s)) (fun d f X' hs hb hv hx=>?_)
 exact⟨hv,hx⟩
 refine svA fun ρ β W X cx=>?_
 exact dVS (n:=1) rfl (cx.an 8) (dTn (cx.an 6)).1 cx (cx.init 0 _ rfl) rfl (nle rfl) rfl rfl rfl (fun d f X' hs hb hx=>by rw[hb 8];exact hx)
 intro d β X W1 hD ax fr aC
 simp only[exq 6 ((dTn (hD 6 lq)).2),exq 7 ((dTn (hD 9 lq)))] at ax
 simp only[ed 8 ((dTn (hD 6 lq)).1)] at aC
 generalize sA (β 8)=IQ,sC (β 8)=IR at ax aC
 clear hD;subst aC;clear d β X
 refine bpe (.tuple #[]) (by simp[results,results130,go_sem]) ?_
 have hl_:=St.less2 (L:=[eB b 100 #[.slice PA D.pgs.length Pc,.slice IQ (D.log.size+s.size) IR,vi ((D.fl:Int)),.bool D.off,.bool D.armed,vi D.left],eO 144 513 (.slice PA D.pgs.length Pc) D.pgs.length (Ps.flatMap shC),eO 5 1 (.slice IQ (D.log.size+s.size) IR) (D.log.size+s.size) ((ba (D.log++s)).map (Value.int .u8)),eWs Qs]) (ax.pick [5,0,4,1,2,3] (by decide) rfl) h2 h3
 rw[show D.log.size+s.size=(D.log++s).size from ByteArray.size_append.symm] at hl_
 exact⟨rfl,St.dk (L:=[]) (D:=apD s D) (PA:=PA) (Pc:=Pc) (GA:=IQ) (gc:=IR) hl_ hps hsub⟩
theorem HX(b b2 b3:Nat)(D:DkM)(s:ByteArray)(w:World)(hB:jb w b D)(h2:Blk w b2 30 #[po b 0])(h3:Blk w b3 9 #[.string s])(hz:D.log.size<=10000000)(hz2:s.size<=10000000):Calls P_ 129 #[po b2 0,po b3 0] w (Ret (.int .i64 (apE D s)) w):=by
 obtain⟨PA,Pc,GA,gc,Ps,h1⟩:=hB
 exact LM b b2 b3 D s PA Pc GA gc Ps w h1 h2 h3 hz hz2
theorem EB(b b2 b3:Nat)(D:DkM)(s:ByteArray)(fp:List Nat)(w:World)(hB:(eDk b D fp).holds w)(hlt:∀k∈fp,k<w.heap.size)(h2:Blk w b2 30 #[po b 0])(h3:Blk w b3 9 #[.string s])(n2:b2∉fp)(n3:b3∉fp)(vk:b2≠b3)(hz:D.log.size<=10000000)(hz2:s.size<=10000000):
  Calls P_ 126 #[po b 0,.func (.func 129) #[] #[po b2 0,po b3 0],.func (.func 130) #[] #[po b2 0,po b3 0]] w (bT b (opD D (apE D s) (apD s)) fp w):=by
 have st1:St w fp [eDk b D fp] w:=St.lend hB (dm _ _ _) hlt
 go_enter func126,ntmps126
 have aj:=st1
 refine wsq [.k 6 (vi 0)] ?_
 refine aa (wq (wq ?_))
 obtain⟨onv,hon⟩:∃z,(!D.off)=z:=⟨_,rfl⟩
 refine sqs [.m 8 0] ?_
 refine sqk (.bool onv) aj (fun cx=>⟨_,rP hon (mj b D _ (eP (CtxV.holdF cx (cx.init 0 _ rfl) rfl))),(av (cx.ou 8))⟩) fun W3 aU=>?_
 refine sqp [.k 10 (.bool (!(onv)))] ?_
 refine aa ?_
 rcases Bool.eq_false_or_eq_true (onv) with ee|ee
 ·refine wp_cond_false (show Act.eval _ _= .bool false from(congrArg Value.bool (by rw[ee];rfl))) (wp_skip (aa (wq (wsq [.m 11 1] ?_))))
  refine sqv (vi ((apE D s))) aU (ip rfl rfl rfl rfl rfl (fun _ _ _ h=>h) fun ρ β W X cx=>⟨_,_,cD (f:=129) (args:=#[]) (args':=#[vp b2,vp b3]) rfl rfl (cx.ou 11) (by kernel_rfl) jc rfl,HX b b2 b3 D s _ (eP (CtxV.holdF cx (cx.init 0 _ rfl) rfl)) (h2.upd cx.upd n2) (h3.upd cx.upd n3) hz hz2⟩) fun W7 aW=>?_
  refine sqp [.m 7 12] ?_
  refine aa (wsq [.m 13 7,.k 14 (.bool ((apE D s) != 0))] ?_)
  refine aa (wbs (fun dq=>?_) fun dq=>?_)
  have g0:=bne_iff_ne.1 dq
  refine wsq [.m 15 7,.m 6 15] ?_
  refine aa (wp_ret (ai ?_))
  exact bpr (vi ((apE D s))) (ag results126 rpt) (bT.of (R':=(D,apE D s)) (by rw[opD,if_neg (by have h_:=hon.trans ee;simpa using h_),if_pos (by simpa using dq)]) aW)
  have g0:=bne_eq_false_iff_eq.1 dq
  refine wp_skip (aa (wq (wq ?_)))
  have hD_:(eDk b D fp).holds W7:=(aW.ok _ (List.mem_singleton.2 rfl)).holds
  obtain⟨PA,Pc,GA,gc,Ps,Qs,hps,hsub,hfp,hap,hall⟩:=hD_
  have gw:St w fp [eB b 100 #[.slice PA D.pgs.length Pc,.slice GA D.log.size gc,vi ((D.fl:Int)),.bool D.off,.bool D.armed,vi D.left],eO 144 513 (.slice PA D.pgs.length Pc) D.pgs.length (Ps.flatMap shC),eO 5 1 (.slice GA D.log.size gc) D.log.size ((ba D.log).map (Value.int .u8)),eWs Qs] W7:=St.unpack aW hfp hall hap
  refine sqs [.m 16 0,.k 17 (vp b),.k 18 (po b 4)] ?_
  refine am 0 gw ?_
  refine sqp [.m 20 19] ?_
  refine d3 20 [21,22,23,24,25] ?_ rfl (fun hq=>?_) ?_
  rotate_left
  refine sqp [.m 21 0,.k 22 (vp b),.k 23 (po b 5)] ?_
  refine am 0 gw ?_
  refine sqp [.k 25 (.bool (decide (D.left<=0)))] ?_
  exact sqe
  refine c7 ?_
  refine sqp [sPa 26 D.armed (decide (D.left<=0))] ?_
  refine aa (wbs (fun fk=>?_) fun fk=>?_)
  have fi:=fk
  simp only[zB] at fi
  obtain⟨zR,zS⟩:=fi
  refine wsq [.m 27 0,.k 28 (vp b),.k 29 (po b 3)] ?_
  refine aT (n:=1) 0 #[.slice PA D.pgs.length Pc,.slice GA D.log.size gc,vi ((D.fl:Int)),.bool true,.bool D.armed,vi D.left] gw fun FM jr=>?_
  refine aa (wsq [.k 6 (vi 24)] ?_)
  refine aa (wp_ret (ai ?_))
  refine bpr (vi 24) (ag results126 rpt) ?_
  obtain⟨fp2,hk_⟩:=St.dk (L:=[]) (D:={D with off:=true}) (PA:=PA) (Pc:=Pc) (GA:=GA) (gc:=gc) (jr.pick [0,1,2,3] (by decide) rfl) hps hsub
  exact bT.of (R':=({D with off:=true},24)) (by rw[opD,if_neg (by have h_:=hon.trans ee;simpa using h_),if_neg (by simpa using dq),if_pos (by simpa using fk)]) hk_
  have fi:=fk
  simp only[zB] at fi
  refine wp_skip (aa (wsq [.m 30 0,.k 31 (vp b),.k 32 (po b 5)] ?_))
  refine am 0 gw ?_
  refine sqp [.k 34 (vi ((cX D.left))),.k 35 (vp b),.k 36 (po b 5)] ?_
  refine aT (n:=1) 0 #[.slice PA D.pgs.length Pc,.slice GA D.log.size gc,vi ((D.fl:Int)),.bool D.off,.bool D.armed,vi ((cX D.left))] gw fun qU du=>?_
  refine aa (wq ?_)
  obtain⟨D1,hD1⟩:∃z,({D with left:=cX D.left}:DkM)=z:=⟨_,rfl⟩
  obtain⟨fp2,hk_40⟩:=St.dk (L:=[]) (D:={D with left:=cX D.left}) (PA:=PA) (Pc:=Pc) (GA:=GA) (gc:=gc) (du.pick [0,1,2,3] (by decide) rfl) hps hsub
  simp only[List.nil_append] at hk_40
  rw[hD1] at hk_40
  have hz1:D1.log.size<=10000000:=by rw[<-hD1];exact hz
  refine sqs [.m 37 2] ?_
  refine bF (fun X_=>X_.fp) (.tuple #[]) (fun nJ=>eDk b (apD s D1) nJ) 0 hk_40 (by
    refine svA fun ρ β W X cx=>?_
    refine ak.call (cD (f:=130) (args:=#[]) (args':=#[vp b2,vp b3]) rfl rfl (cx.ou 37) (by kernel_rfl) jc rfl) ?_
    refine(Ip b b2 b3 D1 s _ _ (CtxV.holdF cx (cx.init 0 _ rfl) rfl) (CtxV.ltF cx (cx.init 0 _ rfl) rfl) (h2.upd cx.upd n2) (h3.upd cx.upd n3) (CtxV.notin cx (cx.init 0 _ rfl) rfl n2 h2.lt) (CtxV.notin cx (cx.init 0 _ rfl) rfl n3 h3.lt) vk hz1 hz2).mono ?_
    rintro e W1 ⟨rfl,fp4,aM⟩
    refine⟨_,rfl,aI (E:=eDk b D1 fp2) [eDk b (apD s D1) fp4] (cx.init 0 _ rfl) rfl rfl aM (fun d c X' hs hb hv hN=>?_)⟩
    have aH:=(hv 38 rfl).1;have aO:=(hv 38 rfl).2
    exact⟨aH.trans rfl,cF ((List.cons.inj hN).1)⟩) fun nJ uX fu=>?_
  refine aa (wsq [.k 6 (vi 0)] ?_)
  exact aa (wp_ret (bpr (vi 0) (ag results126 rpt) (bT.of (R':=(apD s D1,0)) (by rw[opD,if_neg (by have h_:=hon.trans ee;simpa using h_),if_neg (by simpa using dq),if_neg (by have h_:=fk;intro h2_;simp[h2_.1,h2_.2] at h_),hD1]) fu)))
 refine wp_cond_true (show Act.eval _ _= .bool true from(congrArg Value.bool (by rw[ee];rfl))) (wsq [.k 6 (vi 24)] ?_)
 refine aa (wp_ret (ai ?_))
 exact bpr (vi 24) (ag results126 rpt) (bT.of (R':=(D,24)) (by rw[opD,if_pos (by simpa using hon.trans ee)]) aU)
theorem sw(b:Nat)(D:DkM)(s:ByteArray)(fp:List Nat)(w:World)(hB:(eDk b D fp).holds w)(hlt:∀k∈fp,k<w.heap.size)(hz:D.log.size<=10000000)(hz2:s.size<=10000000):
  Calls P_ 62 #[po b 0,.string s] w (bT b (opD D (apE D s) (apD s)) fp w):=by
 have st1:St w fp [eDk b D fp] w:=St.lend hB (dm _ _ _) hlt
 go_enter func62,ntmps62
 have aj:=st1
 refine wq (sqr ?_)
 refine bX #[vp b] aj fun bw W1 ax=>?_
 refine bX #[.string s] ax fun cY W2 bA=>?_
 refine sqp [.k 4 (vi 0)] ?_
 refine aa (wq (sqr (am 1 bA ?_)))
 refine sqv (.func (.func 129) #[] #[vp bw,vp cY]) bA (by
   exact sv0 rfl rfl rfl rfl rfl (fun _ _ _ h=>h) fun ρ β W X cx=>by
    have oF:ρ (.tmp 2)=vp bw:=(cx.ou 2)
    have fy:ρ (.tmp 3)=vp cY:=(cx.ou 3)
    simp[go_sem,Instr.makeFunc,oF,fy]) fun W5 aK=>?_
 refine sqv (.func (.func 130) #[] #[vp bw,vp cY]) aK (by
   exact sv0 rfl rfl rfl rfl rfl (fun _ _ _ h=>h) fun ρ β W X cx=>by
    have oF:ρ (.tmp 2)=vp bw:=(cx.ou 2)
    have fy:ρ (.tmp 3)=vp cY:=(cx.ou 3)
    simp[go_sem,Instr.makeFunc,oF,fy]) fun W6 bJ=>?_
 refine bF (fun X_=>X_.fp) (vi ((opD D (apE D s) (apD s)).2)) (fun zT=>eDk b ((opD D (apE D s) (apD s)).1) zT) 0 bJ (by
   refine svA fun ρ β W X cx=>?_
   refine ak.call (rCF (args:=#[vp b,.func (.func 129) #[] #[vp bw,vp cY],.func (.func 130) #[] #[vp bw,vp cY]]) cx.sees (dH (cx.ou 5) (cx.ou 6) (cx.ou 7))) ?_
   refine(EB b _ _ D s _ _ (CtxV.holdF cx (cx.init 0 _ rfl) rfl) (CtxV.ltF cx (cx.init 0 _ rfl) rfl) (cx.bi 1 rfl) (cx.bi 2 rfl) (by have h_:=cx.ap 1 0 rfl rfl (by decide);rw[(cx.init 1 _ rfl),(cx.init 0 _ rfl)] at h_;exact h_ _ (List.mem_singleton.2 rfl)) (by have h_:=cx.ap 2 0 rfl rfl (by decide);rw[(cx.init 2 _ rfl),(cx.init 0 _ rfl)] at h_;exact h_ _ (List.mem_singleton.2 rfl)) (by have h_:=cx.ap 1 2 rfl rfl (by decide);rw[(cx.init 1 _ rfl),(cx.init 2 _ rfl)] at h_;intro e_;exact h_ _ (List.mem_singleton.2 rfl) (List.mem_singleton.2 e_)) hz hz2).mono ?_
   rintro e W1 ⟨rfl,fp4,aM⟩
   refine⟨_,rfl,aI (E:=eDk b D fp) [eDk b (opD D (apE D s) (apD s)).1 fp4] (cx.init 0 _ rfl) rfl rfl aM (fun d c X' hs hb hv hN=>?_)⟩
   have aH:=(hv 8 rfl).1;have aO:=(hv 8 rfl).2
   exact⟨aH.trans rfl,cF ((List.cons.inj hN).1)⟩) fun zT W7 aW=>?_
 refine sqp [.m 4 8] ?_
 exact aa (wp_ret (bpr (vi ((opD D (apE D s) (apD s)).2)) (ag results62 rpt) (bT.of rfl (aW.pick [0] (by decide) rfl))))
end
section
open Go.RowKit
theorem St.with1{L:List Ent}(h:St w bor L w)(h2:Blk w b2 t2 c2)(n2:b2∉bor)(hL:∀e∈L,∀k∈e.fp,k∈bor):St w (b2::bor) (L++[eB b2 t2 c2]) w:=by
 refine⟨Upd.refl _ _,fun x hx=>?_,?_⟩
 rcases List.mem_append.1 hx with hx|hx
 have h4:=h.ok x hx
 exact⟨h4.holds,h4.loc,fun k hk=>⟨(h4.own k hk).1.imp (fun z=>by simp[z]) id,(h4.own k hk).2⟩⟩
 rw[List.mem_singleton] at hx
 subst hx
 exact⟨h2,dW _ _ _,fun k hk=>⟨.inl (by simp[eB] at hk;simp[hk]),by simp[eB] at hk;subst hk;exact h2.lt⟩⟩
 refine List.pairwise_append.2 ⟨h.apart,List.pairwise_singleton _ _,fun x hx y hy k hk hk2=>?_⟩
 have h5:=hL x hx k hk
 rw[List.mem_singleton] at hy
 subst hy
 simp[eB] at hk2
 subst hk2
 exact n2 h5
theorem St.less1(h:St w (b2::bor) (L++[eB b2 t2 c2]) W)(h2:Blk w b2 t2 c2):St w bor L W:=by
 have k2:Blk W b2 t2 c2:=(h.ok (eB b2 t2 c2) (by simp)).holds
 have ha:=List.pairwise_append.1 h.apart
 refine⟨⟨h.upd.os,h.upd.tape,h.upd.output,h.upd.size,fun k hk hn=>?_⟩,fun x hx=>?_,ha.1⟩
 by_cases e2:k=b2
 subst e2;exact k2.trans h2.symm
 exact h.upd.block k hk (by simp;exact⟨e2,hn⟩)
 have h4:=h.ok x (List.mem_append_left _ hx)
 refine⟨h4.holds,h4.loc,fun k hk=>⟨?_,(h4.own k hk).2⟩⟩
 have n2:k≠b2:=fun e=>ha.2.2 x hx (eB b2 t2 c2) (by simp) k hk (by simp[eB,e])
 rcases(h4.own k hk).1 with h5|h5
 simp only[List.mem_cons] at h5
 rcases h5 with h5|h5
 exact absurd h5 n2
 exact .inl h5
 exact .inr h5
theorem w8(w:World):
  Calls P_ 131 #[] w (Ret (.int .i64 0) w):=by
 go_enter func131,ntmps131
 have aj:=St.start w
 refine wsq [.k 0 (vi 0)] ?_
 refine aa (wsq [.k 0 (vi 0)] ?_)
 exact aa (wp_ret (bpr (vi 0) (ag results131 rpt) (Ret.of rfl aj.ext)))
theorem Hy(b b2:Nat)(D:DkM)(fp:List Nat)(w:World)(hB:(eDk b D fp).holds w)(hlt:∀k∈fp,k<w.heap.size)(h2:Blk w b2 30 #[po b 0])(n2:b2∉fp)(hz:D.log.size<=10000000):
  Calls P_ 132 #[po b2 0] w (mq b (flD D) fp w):=by
 have st1:=St.lend hB (dm _ _ _) hlt
 obtain⟨PA,Pc,GA,gc,Ps,Qs,hps,hsub,hfp,hap,hall⟩:=hB
 have st0:=St.unpack st1 hfp hall hap
 have st2:St w (b2::fp) [eB b 100 #[.slice PA D.pgs.length Pc,.slice GA D.log.size gc,.int .i64 ((D.fl:Int)),.bool D.off,.bool D.armed,.int .i64 D.left],eO 144 513 (.slice PA D.pgs.length Pc) D.pgs.length (Ps.flatMap shC),eO 5 1 (.slice GA D.log.size gc) D.log.size ((ba D.log).map (Value.int .u8)),eWs Qs,eB b2 30 #[po b 0]] w:=St.with1 st0 h2 n2 (fun e he k hk=>by rw[show fp=(eDk b D fp).fp from rfl,show (eDk b D fp).fp= _ from hfp];exact List.mem_flatMap.2 ⟨e,he,hk⟩)
 go_enter func132,ntmps132
 have aj:=st2
 refine aB [0,0,2,6,14,30,63,127,255] [[4],[4],[],[],[0],[],[],[],[0]] [[],[],[],[],[],[],[],[],[5]] [[],[],[],[],[],[],[],[],[0]] [.c 1 (vp b),.c 2 (vp b),.k 3 (vp b),.k 4 (po b 1),.c 5 (.slice GA D.log.size gc),.k 6 (vi ((D.log.size:Int))),.k 7 (vp b),.k 8 (po b 2),.n] (fun ix d β X=>match ix with|0|1|2|3|4|5|6|7=>True|8=>X 5=eB b 100 #[.slice PA D.pgs.length Pc,.slice GA D.log.size gc,vi ((D.log.size:Int)),.bool D.off,.bool D.armed,vi D.left]|_=>True) [1,2,3,4,5] [0,1,4,8] [(1,0,8,9)] aj ?_ ?_ ?_
 exact fun ix _ _ _ _ _ _ hs hb hx h=>match ix,h with
 |8,h=>by dsimp only;rw[<-hx 5 rfl];exact h
 |0,_|1,_|2,_|3,_|4,_|5,_|6,_|7,_|_+9,_=>trivial
 refine⟨?_,?_,?_,?_,trivial⟩
 exact xs4 rfl id fun cx=>rL1 (cx.ou 0) ((cx.bi 4 rfl).cell 0)
 exact xs4 rfl id fun cx=>rL1 (cx.ou 0) ((cx.bi 4 rfl).cell 0)
 exact xs4 rfl id fun cx=>rL1 (cx.an 3) ((cx.bi 0 rfl).cell 1)
 refine svA fun ρ β W X cx=>?_
 exact dVS (n:=1) rfl (cx.an 7) (cx.an 5) cx (cx.init 0 _ rfl) rfl (nle rfl) rfl rfl rfl (fun _ _ _ _ _=>id)
 intro d β X W1 hD ax fr aC
 simp only[exq 5 ((dTn (hD 8 lq)))] at ax
 clear hD;subst aC;clear d β X
 refine bpe (.tuple #[]) (by simp[results,results132,go_sem]) ?_
 have hl_:=St.less1 (L:=[eB b 100 #[.slice PA D.pgs.length Pc,.slice GA D.log.size gc,vi ((D.log.size:Int)),.bool D.off,.bool D.armed,vi D.left],eO 144 513 (.slice PA D.pgs.length Pc) D.pgs.length (Ps.flatMap shC),eO 5 1 (.slice GA D.log.size gc) D.log.size ((ba D.log).map (Value.int .u8)),eWs Qs]) (ax.pick [4,0,1,2,3] (by decide) rfl) h2
 exact⟨rfl,St.dk (L:=[]) (D:=flD D) (PA:=PA) (Pc:=Pc) (GA:=GA) (gc:=gc) hl_ hps hsub⟩
theorem Ex(b b2:Nat)(D:DkM)(fp:List Nat)(w:World)(hB:(eDk b D fp).holds w)(hlt:∀k∈fp,k<w.heap.size)(h2:Blk w b2 30 #[po b 0])(n2:b2∉fp)(hz:D.log.size<=10000000):
  Calls P_ 126 #[po b 0,.func (.func 131) #[] #[],.func (.func 132) #[] #[po b2 0]] w (bT b (opD D 0 flD) fp w):=by
 have st1:St w fp [eDk b D fp] w:=St.lend hB (dm _ _ _) hlt
 go_enter func126,ntmps126
 have aj:=st1
 refine wsq [.k 6 (vi 0)] ?_
 refine aa (wq (wq ?_))
 obtain⟨onv,hon⟩:∃z,(!D.off)=z:=⟨_,rfl⟩
 refine sqs [.m 8 0] ?_
 refine sqk (.bool onv) aj (fun cx=>⟨_,rP hon (mj b D _ (eP (CtxV.holdF cx (cx.init 0 _ rfl) rfl))),(av (cx.ou 8))⟩) fun W3 aU=>?_
 refine sqp [.k 10 (.bool (!(onv)))] ?_
 refine aa ?_
 rcases Bool.eq_false_or_eq_true (onv) with ee|ee
 ·refine wp_cond_false (show Act.eval _ _= .bool false from(congrArg Value.bool (by rw[ee];rfl))) (wp_skip (aa (wq (wsq [.m 11 1] ?_))))
  refine sqv (vi 0) aU (ip rfl rfl rfl rfl rfl (fun _ _ _ h=>h) fun ρ β W X cx=>⟨_,_,cD (f:=131) (args:=#[]) (args':=#[]) rfl rfl (cx.ou 11) (by kernel_rfl) jc rfl,w8 _⟩) fun W7 aW=>?_
  refine sqp [.m 7 12] ?_
  refine aa (wsq [.m 13 7,.k 14 (.bool false)] ?_)
  refine aa (wcf rfl (wp_skip (aa (wq (wq ?_)))))
  have hD_:(eDk b D fp).holds W7:=(aW.ok _ (List.mem_singleton.2 rfl)).holds
  obtain⟨PA,Pc,GA,gc,Ps,Qs,hps,hsub,hfp,hap,hall⟩:=hD_
  have vm:St w fp [eB b 100 #[.slice PA D.pgs.length Pc,.slice GA D.log.size gc,vi ((D.fl:Int)),.bool D.off,.bool D.armed,vi D.left],eO 144 513 (.slice PA D.pgs.length Pc) D.pgs.length (Ps.flatMap shC),eO 5 1 (.slice GA D.log.size gc) D.log.size ((ba D.log).map (Value.int .u8)),eWs Qs] W7:=St.unpack aW hfp hall hap
  refine sqs [.m 16 0,.k 17 (vp b),.k 18 (po b 4)] ?_
  refine am 0 vm ?_
  refine sqp [.m 20 19] ?_
  refine d3 20 [21,22,23,24,25] ?_ rfl (fun hq=>?_) ?_
  rotate_left
  refine sqp [.m 21 0,.k 22 (vp b),.k 23 (po b 5)] ?_
  refine am 0 vm ?_
  refine sqp [.k 25 (.bool (decide (D.left<=0)))] ?_
  exact sqe
  refine c7 ?_
  refine sqp [sPa 26 D.armed (decide (D.left<=0))] ?_
  refine aa (wbs (fun tA=>?_) fun tA=>?_)
  have r5:=tA
  simp only[zB] at r5
  obtain⟨Ry,Rz⟩:=r5
  refine wsq [.m 27 0,.k 28 (vp b),.k 29 (po b 3)] ?_
  refine aT (n:=1) 0 #[.slice PA D.pgs.length Pc,.slice GA D.log.size gc,vi ((D.fl:Int)),.bool true,.bool D.armed,vi D.left] vm fun xz d6=>?_
  refine aa (wsq [.k 6 (vi 24)] ?_)
  refine aa (wp_ret (ai ?_))
  refine bpr (vi 24) (ag results126 rpt) ?_
  obtain⟨fp2,hk_⟩:=St.dk (L:=[]) (D:={D with off:=true}) (PA:=PA) (Pc:=Pc) (GA:=GA) (gc:=gc) (d6.pick [0,1,2,3] (by decide) rfl) hps hsub
  exact bT.of (R':=({D with off:=true},24)) (by rw[opD,if_neg (by have h_:=hon.trans ee;simpa using h_),if_neg (by decide),if_pos (by simpa using tA)]) hk_
  have r5:=tA
  simp only[zB] at r5
  refine wp_skip (aa (wsq [.m 30 0,.k 31 (vp b),.k 32 (po b 5)] ?_))
  refine am 0 vm ?_
  refine sqp [.k 34 (vi ((cX D.left))),.k 35 (vp b),.k 36 (po b 5)] ?_
  refine aT (n:=1) 0 #[.slice PA D.pgs.length Pc,.slice GA D.log.size gc,vi ((D.fl:Int)),.bool D.off,.bool D.armed,vi ((cX D.left))] vm fun xB dX=>?_
  refine aa (wq ?_)
  obtain⟨D1,hD1⟩:∃z,({D with left:=cX D.left}:DkM)=z:=⟨_,rfl⟩
  obtain⟨fp2,hk_37⟩:=St.dk (L:=[]) (D:={D with left:=cX D.left}) (PA:=PA) (Pc:=Pc) (GA:=GA) (gc:=gc) (dX.pick [0,1,2,3] (by decide) rfl) hps hsub
  simp only[List.nil_append] at hk_37
  rw[hD1] at hk_37
  have hz1:D1.log.size<=10000000:=by rw[<-hD1];exact hz
  refine sqs [.m 37 2] ?_
  refine bF (fun X_=>X_.fp) (.tuple #[]) (fun Js=>eDk b (flD D1) Js) 0 hk_37 (by
    refine svA fun ρ β W X cx=>?_
    refine ak.call (cD (f:=132) (args:=#[]) (args':=#[vp b2]) rfl rfl (cx.ou 37) (by kernel_rfl) jc rfl) ?_
    refine(Hy b b2 D1 _ _ (CtxV.holdF cx (cx.init 0 _ rfl) rfl) (CtxV.ltF cx (cx.init 0 _ rfl) rfl) (h2.upd cx.upd n2) (CtxV.notin cx (cx.init 0 _ rfl) rfl n2 h2.lt) hz1).mono ?_
    rintro e W1 ⟨rfl,fp4,aM⟩
    refine⟨_,rfl,aI (E:=eDk b D1 fp2) [eDk b (flD D1) fp4] (cx.init 0 _ rfl) rfl rfl aM (fun d c X' hs hb hv hN=>?_)⟩
    have aH:=(hv 38 rfl).1;have aO:=(hv 38 rfl).2
    exact⟨aH.trans rfl,cF ((List.cons.inj hN).1)⟩) fun Js qU du=>?_
  refine aa (wsq [.k 6 (vi 0)] ?_)
  exact aa (wp_ret (bpr (vi 0) (ag results126 rpt) (bT.of (R':=(flD D1,0)) (by rw[opD,if_neg (by have h_:=hon.trans ee;simpa using h_),if_neg (by decide),if_neg (by have h_:=tA;intro h2_;simp[h2_.1,h2_.2] at h_),hD1]) du)))
 refine wp_cond_true (show Act.eval _ _= .bool true from(congrArg Value.bool (by rw[ee];rfl))) (wsq [.k 6 (vi 24)] ?_)
 refine aa (wp_ret (ai ?_))
 exact bpr (vi 24) (ag results126 rpt) (bT.of (R':=(D,24)) (by rw[opD,if_pos (by simpa using hon.trans ee)]) aU)
theorem lS(b:Nat)(D:DkM)(fp:List Nat)(w:World)(hB:(eDk b D fp).holds w)(hlt:∀k∈fp,k<w.heap.size)(hz:D.log.size<=10000000):
  Calls P_ 63 #[po b 0] w (bT b (opD D 0 flD) fp w):=by
 have st1:St w fp [eDk b D fp] w:=St.lend hB (dm _ _ _) hlt
 go_enter func63,ntmps63
 have aj:=st1
 refine wq (sqr ?_)
 refine bX #[vp b] aj fun ay W1 ax=>?_
 refine sqp [.k 2 (vi 0)] ?_
 refine aa (wq (sqr (am 1 ax ?_)))
 refine sqv (.func (.func 132) #[] #[vp ay]) ax (by
   exact sv0 rfl rfl rfl rfl rfl (fun _ _ _ h=>h) fun ρ β W X cx=>by
    have zQ:ρ (.tmp 1)=vp ay:=(cx.ou 1)
    simp[go_sem,Instr.makeFunc,zQ]) fun W4 aZ=>?_
 refine bF (fun X_=>X_.fp) (vi ((opD D 0 flD).2)) (fun qZ=>eDk b ((opD D 0 flD).1) qZ) 0 aZ (by
   refine svA fun ρ β W X cx=>?_
   refine ak.call (rCF (args:=#[vp b,.func (.func 131) #[] #[],.func (.func 132) #[] #[vp ay]]) cx.sees (dH (cx.ou 3) (cx.sees.func _) (cx.ou 4))) ?_
   refine(Ex b _ D _ _ (CtxV.holdF cx (cx.init 0 _ rfl) rfl) (CtxV.ltF cx (cx.init 0 _ rfl) rfl) (cx.bi 1 rfl) (by have h_:=cx.ap 1 0 rfl rfl (by decide);rw[(cx.init 1 _ rfl),(cx.init 0 _ rfl)] at h_;exact h_ _ (List.mem_singleton.2 rfl)) hz).mono ?_
   rintro e W1 ⟨rfl,fp4,aM⟩
   refine⟨_,rfl,aI (E:=eDk b D fp) [eDk b (opD D 0 flD).1 fp4] (cx.init 0 _ rfl) rfl rfl aM (fun d c X' hs hb hv hN=>?_)⟩
   have aH:=(hv 5 rfl).1;have aO:=(hv 5 rfl).2
   exact⟨aH.trans rfl,cF ((List.cons.inj hN).1)⟩) fun qZ W5 aK=>?_
 refine sqp [.m 2 5] ?_
 exact aa (wp_ret (bpr (vi ((opD D 0 flD).2)) (ag results63 rpt) (bT.of rfl (aK.pick [0] (by decide) rfl))))
end
section
open Go.RowKit
def z5:H5:=⟨dQ 512,jm 512⟩
def sh0:ShT:=⟨z5,none,0,[]⟩
def kz(n:Nat):DkM:=⟨List.replicate n ⟨z5,[]⟩,⟨#[]⟩,0,false,false,0⟩
theorem EC(n:Nat):ba (dQ n)=List.replicate n 0:=by
 show ((dQ n).data.toList).map _= _
 rw[mS,List.map_replicate];rfl
theorem HH:hvC z5=List.replicate 512 (.int .u8 0):=by
 show (ba (dQ 512)).map _= _
 rw[EC,List.map_replicate]
def zSh:Value:= .agg (List.replicate 512 (Value.int .u8 0)++[Value.slice none 0 0]).toArray
theorem xh:zSh.cells.toList=shC sh0:=by
 show (List.replicate 512 (Value.int .u8 0)++[sn]).toArray.toList=hvC z5++[sn]
 rw[HH]
theorem yo:zSh.cells.size=513:=by rw[<-Array.length_toList,xh,c6]
theorem Tryz.infoSheetJ:(Tryz.prog.info? 144).map (fun i=>(i.zero,i.size,i.bytes))=some (some zSh,513,536):=by kernel_rfl
theorem He(n:Nat):(madeCells zSh.cells (n*513)).toList=(List.replicate n sh0).flatMap shC:=by
 have h:=wg shC sh0 zSh.cells xh (by rw[yo];decide) n
 rw[yo] at h;exact h
section
variable{P:Program}{o:Oper}{ρ:Operand->Value}{W:World}
theorem sQ{ts:Array TypeId}{k k':IntKind}{a b z:Int}(h:o.op= .call {callee:= .builtin .max,args:=#[x,y],argTypes:=ts})(hx:ρ x= .int k a)(hy:ρ y= .int k' b)(hz:max a b=z):(execOp ρ o).run P W= .ok (.value (.int k z)) W:=by
 subst hz
 unfold execOp;rw[h]
 simp only[resolve,invoke,builtin,List.map_toArray,List.map_cons,List.map_nil,hx,hy,Sem.run_bind,Sem.run_pure,Result.andThen_ok]
 have e:(Builtin.max_ ts o.type #[.int k a,.int k' b]).run P W= .ok (.int k (max a b)) W:=by
  unfold Builtin.max_
  show (List.foldlM Builtin.max2 (.int k a) [.int k' b]).run P W= _
  simp only[List.foldlM_cons,List.foldlM_nil,Builtin.max2]
  have h2:(if a<b then b else a)=max a b:=by omega
  rw[h2]
  rfl
 rw[e]
 rfl
end
def Ml(n:Nat)(w:World)(e:Ending)(w':World):Prop:=∃b,e= .returned (.pointer (some ⟨b,0,none⟩))/\∃fp,St w [] [eDk b (kz n) fp] w'
theorem St.dkNew{a b:Ent}(n:Nat)(h:St w0 bor [a,b] W):St w0 bor ([a,b]++[eO 5 1 (sn) 0 [],eWs (List.replicate n sh0)]) W:=by
 have h1:=fm h 5 1
 have h3:=fm h 142 512
 have h5:=h3.ok (nT sh0) (by simp[nT,sh0])
 have h2:=St.addE (R:=(List.replicate n sh0).map nT) h1 (fun e he=>by
  rw[List.map_replicate] at he
  rw[(List.mem_replicate.1 he).2]
  exact⟨rfl,h5.holds,h5.loc⟩)
 have h4:=h2.packA
 simp only[List.append_assoc] at h4 |-;exact h4
theorem yf(n:Nat)(w:World)(hn:n<=400):
  Calls P_ 19 #[.int .i64 ((n:Int))] w (Ml n w):=by
 go_enter func19,ntmps19
 have aj:=St.start w
 refine wsq [.k 2 (.pointer none)] ?_
 refine aa (wsq [.m 3 0] ?_)
 refine sql (vi ((n:Int))) aj (fun cx=>jA rfl (cx.ou 3) (cx.co _) (by omega)) ?_
 refine sql (vi ((n:Int))) aj (fun cx=>sQ rfl (cx.co _) (cx.ou 4) (by omega)) ?_
 refine d9 (fun x_=>sA x_) (fun q3=> .slice q3 n n) (fun q3=>eO 144 513 (.slice q3 n n) n ((List.replicate n sh0).flatMap shC)) aj (by
   refine svA fun ρ β W X cx=>?_
   obtain⟨i0,hi0,hz0,hz1,hz2⟩:=info_parts Tryz.infoSheetJ
   exact Ha (n:=n) (sz:=513) rfl (by kernel_rfl) hi0 hz0 hz1 hz2 (cx.ou 5) (cx.ou 5) (by omega) (by omega) (by omega) (by omega) (by simp only[maxLen];omega) (He n) rfl rfl (fun _ _ _ _ _=> .intro)) fun q3 W5 aK=>?_
 refine sqp [.k 7 (.agg #[.slice q3 n n,sn,vi 0,.bool false,.bool false,vi 0])] ?_
 refine bX #[.slice q3 n n,sn,vi 0,.bool false,.bool false,vi 0] aK fun M2 W7 aW=>?_
 refine sqp [.m 2 8] ?_
 exact aa (wp_ret (bpr (vp M2) (ag results19 rpt) (⟨_,rfl,St.dk (L:=[]) (D:=kz n) (PA:=q3) (Pc:=n) (GA:=none) (gc:=0) (Ps:=List.replicate n sh0) (Qs:=List.replicate n sh0) (by have h_:=St.dkNew n (aW.pick [1,0] (by decide) rfl);rw[show dkL M2 (kz n) q3 n none 0 (List.replicate n sh0) (List.replicate n sh0)= _ from by rw[dkL,dkC,show (kz n).pgs.length=n from List.length_replicate]];exact h_) (by rw[List.map_replicate];rfl) rfl⟩)))
end
section
open Go.RowKit
theorem Et{c size:Nat}{e:TypeId}{A:Option Addr}(h:w.ownsRow base e size (.slice A n c) n xs):n<=c:=by
 rcases h.2 with ⟨hv,h0⟩|⟨g,cap,cur,hv,_,_,hle,_⟩
 omega
 injection hv with h1 h2 h3
 omega
theorem En{c size:Nat}{e:TypeId}{A:Option Addr}(h:w.ownsRow base e size (.slice A n c) n xs)(hm:m<=n):w.ownsRow base e size (.slice A m c) m (xs.take (m*size)):=by
 obtain⟨hl,h2⟩:=h
 have hms:m*size<=n*size:=Nat.mul_le_mul_right _ hm
 refine⟨by rw[List.length_take];omega,?_⟩
 rcases h2 with ⟨hv,h0⟩|⟨g,cap,cur,hv,hb,hg,hle,hmx,hcs,htk⟩
 injection hv with h1 h3 h4
 have:m=0:=by omega
 subst this h1 h4
 exact .inl ⟨rfl,rfl⟩
 injection hv with h1 h3 h4
 subst h1 h4
 refine .inr ⟨g,c,cur,rfl,hb,hg,by omega,hmx,hcs,?_⟩
 rw[<-htk,List.take_take,Nat.min_eq_left hms]
theorem xf(s:ByteArray)(m:Nat):(ba s).take m=ba (s.extract 0 m):=by
 rw[ba,ba,eh,List.drop_zero,Nat.sub_zero,List.map_take]
def ctD(k:Nat)(D:DkM):DkM:={D with log:=D.log.extract 0 k,fl:=min D.fl k}
def ctE(D:DkM)(n:Int):Int:=if n<0\/(D.log.size:Int)<n then 1 else 0
theorem St.trunc{L1 L2:List Ent}{s:ByteArray}(h:St w bor (L1++eO 5 1 (.slice GA s.size gc) s.size ((ba s).map (Value.int .u8))::L2) W)(hm:m<=s.size):St w bor (L1++eO 5 1 (.slice GA (s.extract 0 m).size gc) (s.extract 0 m).size ((ba (s.extract 0 m)).map (Value.int .u8))::L2) W:=by
 have hz:(s.extract 0 m).size=m:=by rw[ByteArray.size_extract];omega
 rw[hz]
 refine St.repl h (by cases GA<;>rfl) (fun h2=>?_) (gg _ _ _ _ _)
 have h3:=En (m:=m) h2 hm
 rw[Nat.mul_one,<-List.map_take,xf] at h3
 exact h3
theorem Hq(b b2 b3:Nat)(D:DkM)(k:Nat)(fp:List Nat)(w:World)(hB:(eDk b D fp).holds w)(hlt:∀k∈fp,k<w.heap.size)(h2:Blk w b2 30 #[po b 0])(h3:Blk w b3 3 #[.int .i64 (k:Int)])(n2:b2∉fp)(n3:b3∉fp)(vk:b2≠b3)(hz:D.log.size<=10000000)(hk:k<=D.log.size):
  Calls P_ 128 #[po b2 0,po b3 0] w (mq b (ctD k D) fp w):=by
 have st1:=St.lend hB (dm _ _ _) hlt
 obtain⟨PA,Pc,GA,gc,Ps,Qs,hps,hsub,hfp,hap,hall⟩:=hB
 have st0:=St.unpack st1 hfp hall hap
 have hgc:D.log.size<=gc:=Et (hall (eO 5 1 (.slice GA D.log.size gc) D.log.size ((ba D.log).map (Value.int .u8))) (by simp[dkL])).1
 have st2:St w (b2::b3::fp) [eB b 100 #[.slice PA D.pgs.length Pc,.slice GA D.log.size gc,.int .i64 ((D.fl:Int)),.bool D.off,.bool D.armed,.int .i64 D.left],eO 144 513 (.slice PA D.pgs.length Pc) D.pgs.length (Ps.flatMap shC),eO 5 1 (.slice GA D.log.size gc) D.log.size ((ba D.log).map (Value.int .u8)),eWs Qs,eB b2 30 #[po b 0],eB b3 3 #[.int .i64 ((k:Int))]] w:=St.with2 st0 h2 h3 n2 n3 vk (fun e he k hk=>by rw[show fp=(eDk b D fp).fp from rfl,show (eDk b D fp).fp= _ from hfp];exact List.mem_flatMap.2 ⟨e,he,hk⟩)
 go_enter func128,ntmps128
 have aj:=st2
 refine aB [0,0,0,4,12,28,0,124,0,256,768,1792,0,7936,4093,20477,53245,131071,262143,524287] [[4],[4],[4],[],[],[0],[5],[],[4],[],[],[0],[5],[],[],[],[0],[],[],[6]] [[],[],[],[],[],[],[],[],[],[],[],[],[],[],[],[],[6],[],[],[7]] [[],[],[],[],[],[],[],[],[],[],[],[],[],[],[],[],[0],[],[],[6]] [.c 2 (vp b),.c 3 (vp b),.c 4 (vp b),.k 5 (vp b),.k 6 (po b 1),.c 7 (.slice GA D.log.size gc),.c 8 (vi ((k:Int))),.c 9 (.slice GA k gc),.c 10 (vp b),.k 11 (vp b),.k 12 (po b 2),.c 13 (vi ((D.fl:Int))),.c 14 (vi ((k:Int))),.c 15 (vi (((min D.fl k:Nat):Int))),.k 16 (vp b),.k 17 (po b 1),.n,.k 18 (vp b),.k 19 (po b 2),.n] (fun ix d β X=>match ix with|0|1|2|3|4|5|6|7|8|9|10|11|12|13|14|15=>True|16=>X 6=eB b 100 #[.slice PA D.pgs.length Pc,.slice GA k gc,vi ((D.fl:Int)),.bool D.off,.bool D.armed,vi D.left]|17|18=>True|19=>X 7=eB b 100 #[.slice PA D.pgs.length Pc,.slice GA k gc,vi (((min D.fl k:Nat):Int)),.bool D.off,.bool D.armed,vi D.left]|_=>True) [1,2,3,4,5,7] [0,1,2,5,6,7,8,11,12,13,16,19] [(2,0,19,20)] aj ?_ ?_ ?_
 exact fun ix _ _ _ _ _ _ hs hb hx h=>match ix,h with
 |16,h=>by dsimp only;rw[<-hx 6 rfl];exact h
 |19,h=>by dsimp only;rw[<-hx 7 rfl];exact h
 |0,_|1,_|2,_|3,_|4,_|5,_|6,_|7,_|8,_|9,_|10,_|11,_|12,_|13,_|14,_|15,_|17,_|18,_|_+20,_=>trivial
 refine⟨?_,?_,?_,?_,?_,?_,?_,?_,?_,?_,?_,?_,trivial⟩
 exact xs4 rfl id fun cx=>rL1 (cx.ou 0) ((cx.bi 4 rfl).cell 0)
 exact xs4 rfl id fun cx=>rL1 (cx.ou 0) ((cx.bi 4 rfl).cell 0)
 exact xs4 rfl id fun cx=>rL1 (cx.ou 0) ((cx.bi 4 rfl).cell 0)
 exact xs4 rfl id fun cx=>rL1 (cx.an 4) ((cx.bi 0 rfl).cell 1)
 exact xs4 rfl id fun cx=>rL1 (cx.ou 1) ((cx.bi 5 rfl).cell 0)
 exact xs4 rfl id fun cx=>lQ (e:=5) (sz:=1) (m:=k) rfl (by kernel_rfl) (by kernel_rfl) (cx.an 5) (cx.an 6) (by omega) (by omega)
 exact xs4 rfl id fun cx=>rL1 (cx.ou 0) ((cx.bi 4 rfl).cell 0)
 exact xs4 rfl id fun cx=>rL1 (cx.an 10) ((cx.bi 0 rfl).cell 2)
 exact xs4 rfl id fun cx=>rL1 (cx.ou 1) ((cx.bi 5 rfl).cell 0)
 exact xs4 rfl id fun cx=>jA rfl (cx.an 11) (cx.an 12) (by omega)
 refine svA fun ρ β W X cx=>?_
 exact dVS (n:=1) rfl (cx.an 15) (cx.an 7) cx (cx.init 0 _ rfl) rfl (nle rfl) rfl rfl rfl (fun _ _ _ _ _=>id)
 refine svA fun ρ β W X cx=>?_
 exact dVS (n:=1) rfl (cx.an 18) (cx.an 13) cx (dTn (cx.an 16)) rfl (nle rfl) rfl rfl rfl (fun _ _ _ _ _=>id)
 intro d β X W1 hD ax fr aC
 simp only[exq 7 ((dTn (hD 19 lq)))] at ax
 clear hD;subst aC;clear d β X
 refine bpe (.tuple #[]) (by simp[results,results128,go_sem]) ?_
 have hl_:=St.less2 (L:=[eB b 100 #[.slice PA D.pgs.length Pc,.slice GA k gc,vi (((min D.fl k:Nat):Int)),.bool D.off,.bool D.armed,vi D.left],eO 144 513 (.slice PA D.pgs.length Pc) D.pgs.length (Ps.flatMap shC),eO 5 1 (.slice GA D.log.size gc) D.log.size ((ba D.log).map (Value.int .u8)),eWs Qs]) (ax.pick [5,0,1,2,3,4] (by decide) rfl) h2 h3
 have hl2_:=St.trunc (L1:=[eB b 100 #[.slice PA D.pgs.length Pc,.slice GA k gc,vi (((min D.fl k:Nat):Int)),.bool D.off,.bool D.armed,vi D.left],eO 144 513 (.slice PA D.pgs.length Pc) D.pgs.length (Ps.flatMap shC)]) (L2:=[eWs Qs]) (m:=k) hl_ hk
 have hz_:(D.log.extract 0 k).size=k:=by rw[ByteArray.size_extract];omega
 exact⟨rfl,St.dk (L:=[]) (D:=ctD k D) (PA:=PA) (Pc:=Pc) (GA:=GA) (gc:=gc) (by rw[show dkL b (ctD k D) PA Pc GA gc Ps Qs=[eB b 100 #[.slice PA D.pgs.length Pc,.slice GA k gc,vi (((min D.fl k:Nat):Int)),.bool D.off,.bool D.armed,vi D.left],eO 144 513 (.slice PA D.pgs.length Pc) D.pgs.length (Ps.flatMap shC),eO 5 1 (.slice GA (D.log.extract 0 k).size gc) (D.log.extract 0 k).size ((ba (D.log.extract 0 k)).map (Value.int .u8)),eWs Qs] from by rw[dkL,dkC,show (ctD k D).log=D.log.extract 0 k from rfl,hz_];rfl];exact hl2_) hps hsub⟩
end
section
open Go.RowKit
theorem Mx(b b2 b3:Nat)(D:DkM)(n:Int)(PA:Option Addr)(Pc:Nat)(GA:Option Addr)(gc:Nat)(Ps:List ShT)(w:World)(hB:DkO w b D PA Pc GA gc Ps)(h2:Blk w b2 30 #[po b 0])(h3:Blk w b3 3 #[.int .i64 n])(hz:D.log.size<=10000000):
  Calls P_ 127 #[po b3 0,po b2 0] w (Ret (.int .i64 (ctE D n)) w):=by
 go_enter func127,ntmps127
 have aj:=St.start w
 refine wsq [.k 2 (vi 0)] ?_
 refine aa (wq (wq (bG [0,1,3,7,7,23,55,119,247,511,1023] [] [.c 3 (vi n),.k 4 (.bool (decide (n<0))),.k 5 (.bool (decide (n<0))),.y 6 (!(decide (n<0))) (vi n),.y 7 (!(decide (n<0))) (vp b),.z 8 (!(decide (n<0))) (vp b),.z 9 (!(decide (n<0))) (po b 1),.y 10 (!(decide (n<0))) (.slice GA D.log.size gc),.z 11 (!(decide (n<0))) (vi ((D.log.size:Int))),.z 12 (!(decide (n<0))) (.bool (decide ((D.log.size:Int)<n))),tO 13 (decide (n<0)) (decide ((D.log.size:Int)<n))] [] [0,3,4,7] [(3,0,11,14)] aj ?_ fun W2 bA=>?_)))
 refine⟨?_,?_,?_,?_,trivial⟩
 exact xs4 rfl id fun cx=>rL1 (cx.ou 0) ((Blk.ext h3 cx.upd.to_ext).cell 0)
 exact m2 rfl (fun _ _ _ h=>h) (fun cx=>(cx.an 2)) fun cx hq=>rL1 (cx.ou 0) ((Blk.ext h3 cx.upd.to_ext).cell 0)
 exact m2 rfl (fun _ _ _ h=>h) (fun cx=>(cx.an 2)) fun cx hq=>rL1 (cx.ou 1) ((Blk.ext h2 cx.upd.to_ext).cell 0)
 exact m2 rfl (fun _ _ _ h=>h) (fun cx=>(cx.an 2)) fun cx hq=>rL1 (mbv (cx.an 6) hq) ((Blk.ext hB.blkL cx.upd.to_ext).cell 1)
 refine aa (wbs (fun vl=>?_) fun vl=>?_)
 have wB:=vl
 simp only[zB] at wB
 refine wsq [.k 2 (vi 1)] ?_
 refine aa (wp_ret (ai ?_))
 exact bpr (vi 1) (ag results127 rpt) (Ret.int (by rw[ctE,if_pos (by have h_:=vl;simp at h_;omega)]) bA.ext)
 have wB:=vl
 simp only[zB] at wB
 obtain⟨SK,SL⟩:=wB
 refine wp_skip (aa (wsq [.k 2 (vi 0)] ?_))
 exact aa (wp_ret (bpr (vi 0) (ag results127 rpt) (Ret.int (by rw[ctE,if_neg (by have h_:=vl;simp at h_;omega)]) bA.ext)))
theorem Hh(b b2 b3:Nat)(D:DkM)(n:Int)(w:World)(hB:jb w b D)(h2:Blk w b2 30 #[po b 0])(h3:Blk w b3 3 #[.int .i64 n])(hz:D.log.size<=10000000):Calls P_ 127 #[po b3 0,po b2 0] w (Ret (.int .i64 (ctE D n)) w):=by
 obtain⟨PA,Pc,GA,gc,Ps,h1⟩:=hB
 exact Mx b b2 b3 D n PA Pc GA gc Ps w h1 h2 h3 hz
theorem Fv(b b2 b3:Nat)(D:DkM)(n:Int)(fp:List Nat)(w:World)(hB:(eDk b D fp).holds w)(hlt:∀k∈fp,k<w.heap.size)(h2:Blk w b2 30 #[po b 0])(h3:Blk w b3 3 #[.int .i64 n])(n2:b2∉fp)(n3:b3∉fp)(vk:b2≠b3)(hz:D.log.size<=10000000):
  Calls P_ 126 #[po b 0,.func (.func 127) #[] #[po b3 0,po b2 0],.func (.func 128) #[] #[po b2 0,po b3 0]] w (bT b (opD D (ctE D n) (ctD n.toNat)) fp w):=by
 have st1:St w fp [eDk b D fp] w:=St.lend hB (dm _ _ _) hlt
 go_enter func126,ntmps126
 have aj:=st1
 refine wsq [.k 6 (vi 0)] ?_
 refine aa (wq (wq ?_))
 obtain⟨onv,hon⟩:∃z,(!D.off)=z:=⟨_,rfl⟩
 refine sqs [.m 8 0] ?_
 refine sqk (.bool onv) aj (fun cx=>⟨_,rP hon (mj b D _ (eP (CtxV.holdF cx (cx.init 0 _ rfl) rfl))),(av (cx.ou 8))⟩) fun W3 aU=>?_
 refine sqp [.k 10 (.bool (!(onv)))] ?_
 refine aa ?_
 rcases Bool.eq_false_or_eq_true (onv) with ee|ee
 ·refine wp_cond_false (show Act.eval _ _= .bool false from(congrArg Value.bool (by rw[ee];rfl))) (wp_skip (aa (wq (wsq [.m 11 1] ?_))))
  refine sqv (vi ((ctE D n))) aU (ip rfl rfl rfl rfl rfl (fun _ _ _ h=>h) fun ρ β W X cx=>⟨_,_,cD (f:=127) (args:=#[]) (args':=#[vp b3,vp b2]) rfl rfl (cx.ou 11) (by kernel_rfl) jc rfl,Hh b b2 b3 D n _ (eP (CtxV.holdF cx (cx.init 0 _ rfl) rfl)) (h2.upd cx.upd n2) (h3.upd cx.upd n3) hz⟩) fun W7 aW=>?_
  refine sqp [.m 7 12] ?_
  refine aa (wsq [.m 13 7,.k 14 (.bool ((ctE D n) != 0))] ?_)
  refine aa (wbs (fun dq=>?_) fun dq=>?_)
  have g0:=bne_iff_ne.1 dq
  refine wsq [.m 15 7,.m 6 15] ?_
  refine aa (wp_ret (ai ?_))
  exact bpr (vi ((ctE D n))) (ag results126 rpt) (bT.of (R':=(D,ctE D n)) (by rw[opD,if_neg (by have h_:=hon.trans ee;simpa using h_),if_pos (by simpa using dq)]) aW)
  have g0:=bne_eq_false_iff_eq.1 dq
  refine wp_skip (aa (wq (wq ?_)))
  have hD_:(eDk b D fp).holds W7:=(aW.ok _ (List.mem_singleton.2 rfl)).holds
  obtain⟨PA,Pc,GA,gc,Ps,Qs,hps,hsub,hfp,hap,hall⟩:=hD_
  have gw:St w fp [eB b 100 #[.slice PA D.pgs.length Pc,.slice GA D.log.size gc,vi ((D.fl:Int)),.bool D.off,.bool D.armed,vi D.left],eO 144 513 (.slice PA D.pgs.length Pc) D.pgs.length (Ps.flatMap shC),eO 5 1 (.slice GA D.log.size gc) D.log.size ((ba D.log).map (Value.int .u8)),eWs Qs] W7:=St.unpack aW hfp hall hap
  refine sqs [.m 16 0,.k 17 (vp b),.k 18 (po b 4)] ?_
  refine am 0 gw ?_
  refine sqp [.m 20 19] ?_
  refine d3 20 [21,22,23,24,25] ?_ rfl (fun hq=>?_) ?_
  rotate_left
  refine sqp [.m 21 0,.k 22 (vp b),.k 23 (po b 5)] ?_
  refine am 0 gw ?_
  refine sqp [.k 25 (.bool (decide (D.left<=0)))] ?_
  exact sqe
  refine c7 ?_
  refine sqp [sPa 26 D.armed (decide (D.left<=0))] ?_
  refine aa (wbs (fun fk=>?_) fun fk=>?_)
  have fi:=fk
  simp only[zB] at fi
  obtain⟨zR,zS⟩:=fi
  refine wsq [.m 27 0,.k 28 (vp b),.k 29 (po b 3)] ?_
  refine aT (n:=1) 0 #[.slice PA D.pgs.length Pc,.slice GA D.log.size gc,vi ((D.fl:Int)),.bool true,.bool D.armed,vi D.left] gw fun FM jr=>?_
  refine aa (wsq [.k 6 (vi 24)] ?_)
  refine aa (wp_ret (ai ?_))
  refine bpr (vi 24) (ag results126 rpt) ?_
  obtain⟨fp2,hk_⟩:=St.dk (L:=[]) (D:={D with off:=true}) (PA:=PA) (Pc:=Pc) (GA:=GA) (gc:=gc) (jr.pick [0,1,2,3] (by decide) rfl) hps hsub
  exact bT.of (R':=({D with off:=true},24)) (by rw[opD,if_neg (by have h_:=hon.trans ee;simpa using h_),if_neg (by simpa using dq),if_pos (by simpa using fk)]) hk_
  have fi:=fk
  simp only[zB] at fi
  refine wp_skip (aa (wsq [.m 30 0,.k 31 (vp b),.k 32 (po b 5)] ?_))
  refine am 0 gw ?_
  refine sqp [.k 34 (vi ((cX D.left))),.k 35 (vp b),.k 36 (po b 5)] ?_
  refine aT (n:=1) 0 #[.slice PA D.pgs.length Pc,.slice GA D.log.size gc,vi ((D.fl:Int)),.bool D.off,.bool D.armed,vi ((cX D.left))] gw fun qU du=>?_
  refine aa (wq ?_)
  obtain⟨D1,hD1⟩:∃z,({D with left:=cX D.left}:DkM)=z:=⟨_,rfl⟩
  obtain⟨fp2,hk_40⟩:=St.dk (L:=[]) (D:={D with left:=cX D.left}) (PA:=PA) (Pc:=Pc) (GA:=GA) (gc:=gc) (du.pick [0,1,2,3] (by decide) rfl) hps hsub
  simp only[List.nil_append] at hk_40
  rw[hD1] at hk_40
  have hz1:D1.log.size<=10000000:=by rw[<-hD1];exact hz
  have hk0_:0<=n/\n<=(D.log.size:Int):=by have h_:=dq;simp only[ctE] at h_;split at h_;(simp at h_);omega
  obtain⟨k,rfl⟩:∃k:Nat,n=(k:Int):=⟨n.toNat,by omega⟩
  have hk1:k<=D1.log.size:=by rw[<-hD1];show k<=D.log.size;omega
  refine sqs [.m 37 2] ?_
  refine bF (fun X_=>X_.fp) (.tuple #[]) (fun nJ=>eDk b (ctD k D1) nJ) 0 hk_40 (by
    refine svA fun ρ β W X cx=>?_
    refine ak.call (cD (f:=128) (args:=#[]) (args':=#[vp b2,vp b3]) rfl rfl (cx.ou 37) (by kernel_rfl) jc rfl) ?_
    refine(Hq b b2 b3 D1 k _ _ (CtxV.holdF cx (cx.init 0 _ rfl) rfl) (CtxV.ltF cx (cx.init 0 _ rfl) rfl) (h2.upd cx.upd n2) (h3.upd cx.upd n3) (CtxV.notin cx (cx.init 0 _ rfl) rfl n2 h2.lt) (CtxV.notin cx (cx.init 0 _ rfl) rfl n3 h3.lt) vk hz1 hk1).mono ?_
    rintro e W1 ⟨rfl,fp4,aM⟩
    refine⟨_,rfl,aI (E:=eDk b D1 fp2) [eDk b (ctD k D1) fp4] (cx.init 0 _ rfl) rfl rfl aM (fun d c X' hs hb hv hN=>?_)⟩
    have aH:=(hv 38 rfl).1;have aO:=(hv 38 rfl).2
    exact⟨aH.trans rfl,cF ((List.cons.inj hN).1)⟩) fun nJ uX fu=>?_
  refine aa (wsq [.k 6 (vi 0)] ?_)
  exact aa (wp_ret (bpr (vi 0) (ag results126 rpt) (bT.of (R':=(ctD k D1,0)) (by rw[opD,if_neg (by have h_:=hon.trans ee;simpa using h_),if_neg (by simpa using dq),if_neg (by have h_:=fk;intro h2_;simp[h2_.1,h2_.2] at h_),hD1,Int.toNat_natCast]) fu)))
 refine wp_cond_true (show Act.eval _ _= .bool true from(congrArg Value.bool (by rw[ee];rfl))) (wsq [.k 6 (vi 24)] ?_)
 refine aa (wp_ret (ai ?_))
 exact bpr (vi 24) (ag results126 rpt) (bT.of (R':=(D,24)) (by rw[opD,if_pos (by simpa using hon.trans ee)]) aU)
theorem GK(b:Nat)(D:DkM)(n:Int)(fp:List Nat)(w:World)(hB:(eDk b D fp).holds w)(hlt:∀k∈fp,k<w.heap.size)(hz:D.log.size<=10000000):
  Calls P_ 60 #[po b 0,.int .i64 n] w (bT b (opD D (ctE D n) (ctD n.toNat)) fp w):=by
 have st1:St w fp [eDk b D fp] w:=St.lend hB (dm _ _ _) hlt
 go_enter func60,ntmps60
 have aj:=st1
 refine wq (sqr ?_)
 refine bX #[vp b] aj fun bw W1 ax=>?_
 refine bX #[vi n] ax fun cY W2 bA=>?_
 refine sqp [.k 4 (vi 0)] ?_
 refine aa (wq (sqr (am 1 bA ?_)))
 refine sqv (.func (.func 127) #[] #[vp cY,vp bw]) bA (by
   exact sv0 rfl rfl rfl rfl rfl (fun _ _ _ h=>h) fun ρ β W X cx=>by
    have fy:ρ (.tmp 3)=vp cY:=(cx.ou 3)
    have oF:ρ (.tmp 2)=vp bw:=(cx.ou 2)
    simp[go_sem,Instr.makeFunc,fy,oF]) fun W5 aK=>?_
 refine sqv (.func (.func 128) #[] #[vp bw,vp cY]) aK (by
   exact sv0 rfl rfl rfl rfl rfl (fun _ _ _ h=>h) fun ρ β W X cx=>by
    have oF:ρ (.tmp 2)=vp bw:=(cx.ou 2)
    have fy:ρ (.tmp 3)=vp cY:=(cx.ou 3)
    simp[go_sem,Instr.makeFunc,oF,fy]) fun W6 bJ=>?_
 refine bF (fun X_=>X_.fp) (vi ((opD D (ctE D n) (ctD n.toNat)).2)) (fun zT=>eDk b ((opD D (ctE D n) (ctD n.toNat)).1) zT) 0 bJ (by
   refine svA fun ρ β W X cx=>?_
   refine ak.call (rCF (args:=#[vp b,.func (.func 127) #[] #[vp cY,vp bw],.func (.func 128) #[] #[vp bw,vp cY]]) cx.sees (dH (cx.ou 5) (cx.ou 6) (cx.ou 7))) ?_
   refine(Fv b _ _ D n _ _ (CtxV.holdF cx (cx.init 0 _ rfl) rfl) (CtxV.ltF cx (cx.init 0 _ rfl) rfl) (cx.bi 1 rfl) (cx.bi 2 rfl) (by have h_:=cx.ap 1 0 rfl rfl (by decide);rw[(cx.init 1 _ rfl),(cx.init 0 _ rfl)] at h_;exact h_ _ (List.mem_singleton.2 rfl)) (by have h_:=cx.ap 2 0 rfl rfl (by decide);rw[(cx.init 2 _ rfl),(cx.init 0 _ rfl)] at h_;exact h_ _ (List.mem_singleton.2 rfl)) (by have h_:=cx.ap 1 2 rfl rfl (by decide);rw[(cx.init 1 _ rfl),(cx.init 2 _ rfl)] at h_;intro e_;exact h_ _ (List.mem_singleton.2 rfl) (List.mem_singleton.2 e_)) hz).mono ?_
   rintro e W1 ⟨rfl,fp4,aM⟩
   refine⟨_,rfl,aI (E:=eDk b D fp) [eDk b (opD D (ctE D n) (ctD n.toNat)).1 fp4] (cx.init 0 _ rfl) rfl rfl aM (fun d c X' hs hb hv hN=>?_)⟩
   have aH:=(hv 8 rfl).1;have aO:=(hv 8 rfl).2
   exact⟨aH.trans rfl,cF ((List.cons.inj hN).1)⟩) fun zT W7 aW=>?_
 refine sqp [.m 4 8] ?_
 exact aa (wp_ret (bpr (vi ((opD D (ctE D n) (ctD n.toNat)).2)) (ag results60 rpt) (bT.of rfl (aW.pick [0] (by decide) rfl))))
end
section
open Go.RowKit
theorem BY(h:H5):strOfNums ((ba h.1).take 256)++strOfNums ((ba h.1).drop 256)=h.1:=by
 have e1:(ba h.1).take 256=ba (h.1.extract 0 256):=xf _ _
 have e2:(ba h.1).drop 256=ba (h.1.extract 256 512):=by
  rw[ba,ba,eh,List.map_take,List.map_drop,List.take_of_length_le]
  rw[List.length_drop,List.length_map,bO,h.2];decide
 rw[e1,e2,sH,sH]
 apply go
 rw[cN,eh,eh,List.drop_zero,Nat.sub_zero]
 rw[List.take_of_length_le (l:=(bl h.1).drop 256) (by rw[List.length_drop,bO,h.2];decide),List.take_append_drop]
section
variable{P:Program}{o:Oper}{ρ:Operand->Value}{W:World}
theorem uh{t t' e u:TypeId}{off:Nat}{xs:List Int}{ys:List Int}(h:o.op= .convert t t' x)(ht:P.underlying t=some (.slice e))(he:P.underlying e=some (.int .u8))(ht':P.underlying t'=some .string)
  (hx:ρ x= .slice (some ⟨g,off,none⟩) 256 256) (hb:Blk W g u (xs.map (Value.int .u8)).toArray) (hy:(xs.drop off).take 256=ys) (hl:off+256<=xs.length):(execOp ρ o).run P W= .ok (.value (.string (strOfNums ys))) W:=by
 subst hy
 have hr:=run_convert_bytes_arg W t e ht he g off 256 256 ((xs.drop off).take 256) (by rw[List.length_take,List.length_drop];omega) (fun i hi=>?_) t' ht'
 unfold execOp;rw[h]
 simp only[hx,Sem.run_bind,hr,Result.andThen_ok,Sem.run_pure]
 rw[hb.cell (off+i),List.getElem?_toArray,List.getElem?_map,List.getD_eq_getElem?_getD,List.getElem?_take,if_pos hi,List.getElem?_drop]
 rw[List.getElem?_eq_getElem (by omega)];rfl
theorem jM{t e:TypeId}{off:Nat}(h:o.op= .slice t x none none none)(ht:P.underlying t=some (.array n e))(hz:szP P e=some 1)(hx:ρ x=po g off):(execOp ρ o).run P W= .ok (.value (.slice (some ⟨g,off,none⟩) n n)) W:=by
 have e1:P.arrayLen t=n:=by simp[Program.arrayLen,ht]
 have e2:P.elem t=e:=by simp[Program.elem,ht]
 have h1:=run_sliceAt_array_all (P:=P) W t ⟨g,off,none⟩ (by rw[e1,e2];exact ht)
 rw[e1,e2,c8 hz] at h1
 unfold execOp;rw[h]
 simp only[hx,Sem.run_bind,Option.map_none,h1,Result.andThen_ok,Sem.run_pure,slicedAt]
 simp[Addr.add]
end
theorem pj(h:H5)(w:World):
  Calls P_ 88 #[.agg (hvC h).toArray] w (Ret (.string h.1) w):=by
 have hzz:=congrArg ByteArray.size (BY h)
 rw[ByteArray.size_append,h.2] at hzz
 go_enter func88,ntmps88
 have aj:=St.start w
 refine wq (sqr ?_)
 refine d9 (fun x_=>pb x_) (fun ay=>vp ay) (fun ay=>eB ay 142 (hvC h).toArray) aj (by
   refine svA fun ρ β W X cx=>?_
   exact qp (cs:=(hvC h).toArray) rfl (cx.ou 0) rfl rfl rfl (fun _ _ _ _ _=> .intro)) fun ay W1 ax=>?_
 refine sqp [.k 2 (.string ⟨#[]⟩)] ?_
 refine aa (wq (bG [0,1,3,0,8,24,63,127] [[],[],[0],[],[],[0]] [.c 3 (vp ay),.c 4 (.slice ((some ⟨ay,0,none⟩)) 256 256),.c 5 (.string (strOfNums ((ba h.1).take 256))),.c 6 (po ay 256),.c 7 (.slice ((some ⟨ay,256,none⟩)) 256 256),.c 8 (.string (strOfNums ((ba h.1).drop 256))),tS 9 (strOfNums ((ba h.1).take 256)) (strOfNums ((ba h.1).drop 256)) (by omega),.k 2 (.string ((strOfNums ((ba h.1).take 256))++(strOfNums ((ba h.1).drop 256))))] [0] [0,1,2,3,4,5] [(2,7,1,3),(0,0,7,7)] ax ?_ fun W3 aU=>?_))
 refine⟨?_,?_,?_,?_,?_,?_,trivial⟩
 exact xs4 rfl id fun cx=>eE (n:=2) (sz:=256) (m:=0) (q:=0) rfl (by kernel_rfl) (cx.ou 1) (cx.co _) (by omega) (by omega) (by omega)
 exact xs4 rfl id fun cx=>jM (n:=256) (e:=5) rfl (by kernel_rfl) (by kernel_rfl) (cx.an 0)
 exact xs4 rfl id fun cx=>uh (e:=5) (off:=0) (xs:=ba h.1) (ys:=(ba h.1).take 256) rfl (by kernel_rfl) (by kernel_rfl) (by kernel_rfl) (cx.an 1) (cx.bi 0 rfl) (by rw[List.drop_zero]) (by rw[gV,h.2];decide)
 exact xs4 rfl id fun cx=>eE (n:=2) (sz:=256) (m:=1) (q:=256) rfl (by kernel_rfl) (cx.ou 1) (cx.co _) (by omega) (by omega) (by omega)
 exact xs4 rfl id fun cx=>jM (n:=256) (e:=5) rfl (by kernel_rfl) (by kernel_rfl) (cx.an 3)
 exact xs4 rfl id fun cx=>uh (e:=5) (off:=256) (xs:=ba h.1) (ys:=(ba h.1).drop 256) rfl (by kernel_rfl) (by kernel_rfl) (by kernel_rfl) (cx.an 4) (cx.bi 0 rfl) (by rw[List.take_of_length_le];rw[List.length_drop,gV,h.2];decide) (by rw[gV,h.2];decide)
 exact aa (wp_ret (bpr (.string ((strOfNums ((ba h.1).take 256))++(strOfNums ((ba h.1).drop 256)))) (ag results88 rpt) (Ret.of (by rw[BY]) aU.ext)))
end
section
open Go.RowKit
def qI(xs:List Value)(off:Nat):List Value->List Value
 | []=>xs
 |v::l=>qI (xs.set off v) (off+1) l
theorem sG:∀(vs A B C:List Value),B.length=vs.length->qI (A++(B++C)) A.length vs=A++(vs++C)
 | [],A,B,C,h=>by
   obtain rfl:B=[]:=List.eq_nil_of_length_eq_zero h
   rfl
 |v::vs,A,[],C,h=>by simp at h
 |v::vs,A,b::B,C,h=>by
  rw[qI]
  have e:(A++(b::B++C)).set A.length v=(A++[v])++(B++C):=by simp
  have e2:A.length+1=(A++[v]).length:=by simp
  rw[e,e2,sG vs (A++[v]) B C (by simpa using h)]
  simp
theorem Ee{T:Type}{f:T->List Value}(hf:∀t,(f t).length=sz){ts:List T}(h:m<ts.length)(t:T):qI (ts.flatMap f) (m*sz) (f t)=(ts.set m t).flatMap f:=by
 have hl:∀l:List T,(l.flatMap f).length=l.length*sz:=fun l=>by
  induction l with
  |nil=>simp
  |cons a l ih=>rw[List.flatMap_cons,List.length_append,ih,hf,List.length_cons,Nat.add_mul];omega
 have e:ts=ts.take m++(ts[m]::ts.drop (m+1)):=by rw[<-List.drop_eq_getElem_cons h,List.take_append_drop]
 have e2:ts.set m t=ts.take m++(t::ts.drop (m+1)):=by rw[List.set_eq_take_append_cons_drop,if_pos h]
 have e3:m*sz=((ts.take m).flatMap f).length:=by rw[hl,List.length_take,Nat.min_eq_left (by omega)]
 have e4:ts.flatMap f=(ts.take m).flatMap f++(f ts[m]++(ts.drop (m+1)).flatMap f):=by
  conv=>lhs;rw[e]
  rw[List.flatMap_append,List.flatMap_cons]
 rw[e2,e4,List.flatMap_append,List.flatMap_cons,e3,sG _ _ _ _ (by rw[hf,hf])]
section
variable{P:Program}{ops:Array Oper}{L:List Nat}{a0:Act}{w0:World}{bor:List Nat}{X0:List Ent}{us cr kl:List (List Nat)}
 {D:Nat->(Tmp->Value)->(Tmp->Value)->(Nat->Ent)->Prop}{i:Nat}{o:Oper}{ρ:Operand->Value}{β:Tmp->Value}{W:World}{X:Nat->Ent}
theorem sk{e c:Nat}:∀(vs:List Value) (m i:Nat) (xs:List Value) (W:World),W.ownsRow 0 e sz (.slice (some ⟨g,0,none⟩) n c) n xs->m+i+vs.length<=n*sz->(∀v∈vs,v.oneCell'=true)->
  ∃W',(storeCells ⟨g,m,none⟩ vs i).run P W= .ok () W'/\Upd [g] W W'/\W'.ownsRow 0 e sz (.slice (some ⟨g,0,none⟩) n c) n (qI xs (m+i) vs):=by
 intro vs
 induction vs with
 |nil=>intro m i xs W hb _ _;exact⟨W,rfl,Upd.refl _ _,hb⟩
 |cons v vs ih=>
  intro m i xs W hown hle h1
  simp only[List.length_cons] at hle
  have hlen:xs.length=n*sz:=hown.1
  have hcell:W.cell? ⟨g,m+i,none⟩=some (xs[m+i]'(by omega)):=by
   rw[hown.cellAt (m+i) (by omega)]
   exact List.getElem?_eq_getElem (by omega)
  have hfz:=hown.frozenAt (m+i)
  have bb:=(hown.stored (m+i) v).1
  obtain⟨W',h2,h3,h4⟩:=ih m (i+1) (xs.set (m+i) v) (W.setCell ⟨g,m+i,none⟩ v) bb (by omega) (fun x hx=>h1 x (by simp[hx]))
  refine⟨W',?_,((Upd.refl [g] W).set (.inl (by simp)) v).trans h3,h4⟩
  unfold storeCells
  have hv:=h1 v (by simp)
  have fQ:(store ((⟨g,m,none⟩:Addr).add i) v).run P W= .ok () (W.setCell ⟨g,m+i,none⟩ v):=by
   rw[Addr.add_lit]
   unfold store
   cases v<;>first|(simp[Value.oneCell'] at hv;done)|(simp[Sem.run,hcell,hfz])
  simp only[Sem.run_bind,fQ,Result.andThen_ok,h2]
theorem sD{t e:Nat}{A:Option Addr}{c:Nat}(h:o.op= .store t x y)(hx:ρ x= .pointer (some ((ad A).add m)))(hy:ρ y=v)(hz:szP P t=some k)(hn:v.cells.size=k)
  (h1:v.cells.toList.all Value.oneCell'=true) (cx:CtxV ops L a0 w0 bor X0 us D i ρ β W X) (hX:X q=eO e sz (.slice A n c) n xs) (hu:(atV us i).contains q=true) (hm:m+k<=n*sz) (hk0:0<k) (hd:o.dst=none){xs':List Value}(jJ:qI xs m v.cells.toList=xs')
  (hc:atV cr i=[q']) (hk:atV kl i=[q]) (hD:∀(f d:Tmp->Value) (X':Nat->Ent),(∀t,f t=ρ (.tmp t))->(∀t,d t=β t)->X' q'=eO e sz (.slice A n c) n xs'->D i f d X'):ak P o ρ W (bQ cr kl D i o.dst ρ β W X):=by
 subst jJ
 have hok:=cx.ok q hu
 rw[hX] at hok
 have hown:W.ownsRow 0 e sz (.slice A n c) n xs:=hok.holds
 obtain⟨g,rfl⟩:∃g,A=some ⟨g,0,none⟩:=by
  rcases hown.2 with ⟨hv,hm0⟩|⟨g,cap,cur,hv,_⟩
  subst hm0;rw[Nat.zero_mul] at hm;omega
  injection hv with h1 h2 h3;exact⟨g,h1⟩
 have hadd:(ad (some ⟨g,0,none⟩)).add m=⟨g,m,none⟩:=by rw[ad,Option.getD_some,Addr.add_lit,Nat.zero_add]
 obtain⟨W',h2,h3,h4⟩:=sk (P:=P) v.cells.toList m 0 xs W hown (by simp[hn];exact hm) (fun u hu=>List.all_eq_true.1 h1 u hu)
 have hrun:(execOp ρ o).run P W= .ok .skip W':=by
  unfold execOp;rw[h]
  simp only[hx,hy,hadd,Instr.storeAt,Instr.sureAddr,storeVar,Sem.run_bind,Sem.run_pure,Result.andThen_ok,c8 hz,hn,ne_eq,not_true_eq_false,if_false]
  rw[h2]
  rfl
 rw[Nat.add_zero] at h4
 refine ak.skip hrun ⟨[eO e sz (.slice (some ⟨g,0,none⟩) n c) n (qI xs m v.cells.toList)],by rw[hc];rfl,⟨?_,fun e' he=>?_,List.pairwise_singleton _ _⟩,fun f d X' hs hv hb' hbv hx' hN=>hD f d X' (fun t=>hs t (by rw[hd];simp)) (fun t=>hb' t (by rw[hd];simp)) ?_⟩
 rw[hk]
 simp only[List.flatMap_cons,List.flatMap_nil,List.append_nil,hX]
 exact h3.mono (fun k _ hk'=>by simp at hk';subst hk';simp[eO,Value.ownBlock])
 rw[List.mem_singleton] at he
 subst he
 refine⟨h4,gg _ _ _ _ _,fun k hk'=>?_⟩
 have hkg:k=g:=by simpa[eO,Value.ownBlock] using hk'
 subst hkg
 refine⟨.inl ?_,fe h4 k (by simp[Value.ownBlock])⟩
 rw[hk]
 simp[hX,eO,Value.ownBlock]
 rw[hc] at hN
 exact(List.cons.inj hN).1
end
end
section
open Go.RowKit
def rdT(x:ShD):H5:=x.ws.getLast?.getD x.safe
def fO:ShD:=⟨z5,[]⟩
def rdS(D:DkM)(n:Int):ByteArray×Int:=if D.off=true then (⟨#[]⟩,24) else if 0<=n/\n<(D.pgs.length:Int) then ((rdT (D.pgs.getD n.toNat fO)).1,0) else (⟨#[]⟩,22)
def sfS(D:DkM)(n:Int):ByteArray×Int:=if 0<=n/\n<(D.pgs.length:Int) then ((D.pgs.getD n.toNat fO).safe.1,0) else (⟨#[]⟩,22)
theorem mH(t:ShT):(shC t)[512]? =some (.slice t.A t.ws.length t.c):=by
 rw[shC,List.getElem?_append_right (by rw[cH];exact Nat.le_refl _),cH];rfl
theorem Ki(t:ShT)(h:k<512):(shC t)[k]? =(hvC t.s)[k]? :=by
 rw[shC,List.getElem?_append_left (by rw[cH];exact h)]
theorem rJ(h:H5):∀v∈hvC h,v.oneCell'=true:=fun v hv=>by
 obtain⟨x,_,rfl⟩:=List.mem_map.1 hv
 rfl
theorem KW(t:ShT):∀v∈shC t,v.oneCell'=true:=fun v hv=>by
 rcases List.mem_append.1 hv with h|h
 exact rJ _ v h
 rw[List.mem_singleton] at h;subst h;rfl
theorem xQ{Ps:List ShT}(h:k<Ps.length):∃t,Ps[k]? =some t:=⟨_,List.getElem?_eq_getElem h⟩
theorem CT{Ps:List ShT}{l:List ShD}(h:Ps.map dV=l){t:ShT}(ht:Ps[k]? =some t):l.getD k fO=dV t:=by
 rw[<-h,List.getD_eq_getElem?_getD,List.getElem?_map,ht];rfl
theorem EJ{D:DkM}{t:ShT}{Ps:List ShT}(ho:D.off=false)(h:Ps.map dV=D.pgs)(ht:Ps[k]? =some t):rdS D (k:Int)=((rdT (dV t)).1,0):=by
 have hl:D.pgs.length=Ps.length:=by rw[<-h,List.length_map]
 have hk:=(List.getElem?_eq_some_iff.1 ht).1
 rw[rdS,if_neg (by rw[ho];decide),if_pos ⟨by omega,by omega⟩,Int.toNat_natCast,CT h ht]
theorem Mn{D:DkM}{t:ShT}{Ps:List ShT}(h:Ps.map dV=D.pgs)(ht:Ps[k]? =some t):sfS D (k:Int)=(t.s.1,0):=by
 have hl:D.pgs.length=Ps.length:=by rw[<-h,List.length_map]
 have hk:=(List.getElem?_eq_some_iff.1 ht).1
 rw[sfS,if_pos ⟨by omega,by omega⟩,Int.toNat_natCast,CT h ht];rfl
theorem G8{t:ShT}(h:¬(0:Int)<(t.ws.length:Int)):rdT (dV t)=t.s:=by
 have:t.ws=[]:=List.eq_nil_of_length_eq_zero (by omega)
 rw[rdT,dV];dsimp only;rw[this];rfl
theorem yZ{t:ShT}{x:H5}(h:t.ws[k]? =some x)(hk:t.ws.length=k+1):rdT (dV t)=x:=by
 rw[rdT,dV];dsimp only;rw[List.getLast?_eq_getElem?,hk,Nat.add_sub_cancel,h];rfl
theorem JS(b:Nat)(D:DkM)(PA:Option Addr)(Pc:Nat)(GA:Option Addr)(gc:Nat)(Ps:List ShT)(n:Int)(w:World)(hB:DkO w b D PA Pc GA gc Ps)(hw:∀x∈D.pgs,x.ws.length<=1000000000):
  Calls P_ 37 #[po b 0,.int .i64 n] w (Ret (.tuple #[.string (rdS D n).1,.int .i64 (rdS D n).2]) w):=by
 go_enter func37,ntmps37
 have aj:=St.start w
 refine wsq [.k 4 (.string ⟨#[]⟩),.k 5 (vi 0)] ?_
 refine aa (wq (wp_block (wq ?_)))
 obtain⟨onv,hon⟩:∃z,(!D.off)=z:=⟨_,rfl⟩
 refine sqs [.m 9 0] ?_
 refine sqk (.bool onv) aj (fun cx=>⟨_,rP hon (Je b D PA Pc GA gc Ps _ (hB.ext cx.upd.to_ext)),(av (cx.ou 9))⟩) fun W4 aZ=>?_
 refine sqp [.k 11 (.bool (!(onv))),.m 8 11] ?_
 refine aa ?_
 rcases Bool.eq_false_or_eq_true (onv) with ea|ea
 refine wp_cond_false (show Act.eval _ _= .bool false from(congrArg Value.bool (by rw[ea];rfl))) (wsq [.m 13 0,.m 14 1] ?_)
 refine sqk (.bool ((decide (0<=n)&&decide (n<(D.pgs.length:Int))))) aZ (fun cx=>⟨_,Cz b D PA Pc GA gc Ps n _ (hB.ext cx.upd.to_ext),(aN (cx.ou 13) (cx.ou 14))⟩) fun xw dL=>?_
 refine sqp [.k 16 (.bool (!((decide (0<=n)&&decide (n<(D.pgs.length:Int)))))),.m 12 16] ?_
 refine aa ?_
 rcases Bool.eq_false_or_eq_true ((decide (0<=n)&&decide (n<(D.pgs.length:Int)))) with f9|f9
 have i8:=f9
 simp only[zB] at i8
 obtain⟨M3,M4⟩:=i8
 refine wp_cond_false (show Act.eval _ _= .bool false from(congrArg Value.bool (by rw[f9];rfl))) (wp_skip (aq (aa (wq ?_))))
 have hPl:D.pgs.length=Ps.length:=by rw[<-hB.ab,List.length_map]
 have hnn:0<=n/\n<(D.pgs.length:Int):=by have h_:=f9;simp at h_;omega
 obtain⟨k,rfl⟩:∃k:Nat,n=(k:Int):=⟨n.toNat,by omega⟩
 obtain⟨t,htk⟩:=xQ (Ps:=Ps) (k:=k) (by omega)
 have htm:=List.mem_of_getElem? htk
 have hwt:t.ws.length<=1000000000:=hw _ (by rw[<-hB.ab];exact List.mem_map.2 ⟨t,htm,rfl⟩)
 refine sqs [.m 17 0,.k 18 (vp b),.k 19 (vp b)] ?_
 refine sql (.slice PA D.pgs.length Pc) dL (fun cx=>rL1 (cx.ou 19) ((Blk.ext hB.blkL cx.upd.to_ext).cell 0)) ?_
 refine sqp [.m 21 1] ?_
 refine sql (.pointer (some ((ad PA).add (k*513)))) dL (fun cx=>aD (e:=144) (m:=k) (sz:=513) rfl (by kernel_rfl) (by kernel_rfl) (cx.ou 20) (cx.ou 21) (by omega) (by omega) (hB.at_.ext cx.upd.to_ext) (bm (sz:=513) c6 (by decide) (by omega))) ?_
 refine sql (.agg (shC t).toArray) dL (fun cx=>rLE (f:=shC) (m:=k) (sz:=513) (off:=0) (n:=513) (cx.ou 22) (List.size_toArray.trans (c6 t)) c6 (hB.at_.ext cx.upd.to_ext) htk (fun k hk=>by rw[List.getElem?_toArray,Nat.zero_add])) ?_
 refine d9 (fun x_=>pb x_) (fun fv=>vp fv) (fun fv=>eB fv 144 (shC sh0).toArray) dL (by
   refine svA fun ρ β W X cx=>?_
   exact dVA (cs:=(shC sh0).toArray) rfl rfl rfl (fun _ _ _ _ _=> .intro)) fun fv uT eN=>?_
 refine sqc (eB fv 144 (shC t).toArray) 0 eN (by
   refine svA fun ρ β W X cx=>?_
   exact wZ (n:=513) rfl (cx.ou 6) (show _=Value.agg (shC t).toArray from(cx.ou 23)) (by kernel_rfl) (by simp[c6]) (by simp[c6]) (KW t) cx (cx.init 0 _ rfl) rfl rfl rfl rfl (fun _ _ _ _ _=>id)) fun uZ dv=>?_
 refine aa (wq (wsq [.k 24 (po fv 512)] ?_))
 refine sql (.slice t.A t.ws.length t.c) dv (fun cx=>rL1 (cx.ou 24) (((cx.bi 0 rfl).cell 512).trans ((List.getElem?_toArray ..).trans (mH t)))) ?_
 refine sqp [.k 26 (vi ((t.ws.length:Int))),.m 7 26] ?_
 refine aa (wsq [.m 27 7,.k 28 (.bool (decide (0<(t.ws.length:Int))))] ?_)
 refine aa (wds (fun IT OQ=>?_) fun IT OQ=>?_)
 refine wq ?_
 obtain⟨k2,hk2⟩:∃k2:Nat,t.ws.length=k2+1:=⟨t.ws.length-1,by have h_:=IT;simp at h_;omega⟩
 obtain⟨x,hxk⟩:∃x,t.ws[k2]? =some x:=⟨_,List.getElem?_eq_getElem (by omega)⟩
 refine sqs [.k 29 (po fv 512)] ?_
 refine sql (.slice t.A t.ws.length t.c) dv (fun cx=>rL1 (cx.ou 29) (((cx.bi 0 rfl).cell 512).trans ((List.getElem?_toArray ..).trans (mH t)))) ?_
 refine sqp [.m 31 7,sJ 32 ((t.ws.length:Int)-1) (k2:Int) (by omega) (by omega)] ?_
 refine sql (.pointer (some ((ad t.A).add (k2*512)))) dv (fun cx=>aD (e:=142) (m:=k2) (sz:=512) rfl (by kernel_rfl) (by kernel_rfl) (cx.ou 30) (cx.ou 32) (by omega) (by omega) ((hB.ws t htm).ext cx.upd.to_ext) (bm (sz:=512) cH (by decide) (by omega))) ?_
 refine sql (.agg (hvC x).toArray) dv (fun cx=>rLE (f:=hvC) (m:=k2) (sz:=512) (off:=0) (n:=512) (cx.ou 33) (List.size_toArray.trans (cH _)) cH ((hB.ws t htm).ext cx.upd.to_ext) hxk (fun k hk=>by rw[List.getElem?_toArray,Nat.zero_add])) ?_
 refine sqk (.string x.1) dv (fun cx=>⟨_,pj x _,(av (cx.ou 34))⟩) fun xB dX=>?_
 refine sqp [.m 4 35,.k 5 (vi 0)] ?_
 refine aa (wp_ret (ai ?_))
 exact bpr (.tuple #[.string x.1,vi 0]) (aL results37 rpt rpt) (Ret.of (by rw[EJ (by have h_:=hon.trans ea;simpa using h_) hB.ab htk,yZ hxk hk2]) dX.ext)
 refine wp_skip (aa (wsq [.k 36 (vp fv)] ?_))
 refine sql (.agg (hvC t.s).toArray) dv (fun cx=>nG (n:=512) rfl (by kernel_rfl) (by kernel_rfl) (cx.ou 36) (cx.bi 0 rfl) (by rw[List.size_toArray,c6];decide) (by rw[List.drop_zero,shC,List.take_left' (cH _)])) ?_
 refine sqk (.string t.s.1) dv (fun cx=>⟨_,pj t.s _,(av (cx.ou 37))⟩) fun Jl ke=>?_
 refine sqp [.m 4 38,.k 5 (vi 0)] ?_
 exact aa (wp_ret (bpr (.tuple #[.string t.s.1,vi 0]) (aL results37 rpt rpt) (Ret.of (by rw[EJ (by have h_:=hon.trans ea;simpa using h_) hB.ab htk,G8 (by simpa using IT)]) ke.ext)))
 have i8:=f9
 simp only[zB] at i8
 refine wp_cond_true (show Act.eval _ _= .bool true from(congrArg Value.bool (by rw[f9];rfl))) (wsq [.k 4 (.string ⟨#[]⟩),.k 5 (vi 22)] ?_)
 refine aa (wp_ret (aY (ai ?_)))
 exact bpr (.tuple #[.string ⟨#[]⟩,vi 22]) (aL results37 rpt rpt) (Ret.of (by rw[rdS,if_neg (by have h_:=hon.trans ea;simpa using h_),if_neg (by have h_:=f9;simp at h_;omega)]) dL.ext)
 refine wp_cond_true (show Act.eval _ _= .bool true from(congrArg Value.bool (by rw[ea];rfl))) (wsq [.k 4 (.string ⟨#[]⟩),.k 5 (vi 24)] ?_)
 refine aa (wp_ret (aY (ai ?_)))
 exact bpr (.tuple #[.string ⟨#[]⟩,vi 24]) (aL results37 rpt rpt) (Ret.of (by rw[rdS,if_pos (by have h_:=hon.trans ea;simpa using h_)]) aZ.ext)
theorem Kq(b:Nat)(D:DkM)(PA:Option Addr)(Pc:Nat)(GA:Option Addr)(gc:Nat)(Ps:List ShT)(n:Int)(w:World)(hB:DkO w b D PA Pc GA gc Ps):
  Calls P_ 43 #[po b 0,.int .i64 n] w (Ret (.tuple #[.string (sfS D n).1,.int .i64 (sfS D n).2]) w):=by
 go_enter func43,ntmps43
 have aj:=St.start w
 refine wsq [.k 4 (.string ⟨#[]⟩),.k 5 (vi 0)] ?_
 refine aa (wq (wsq [.m 6 0,.m 7 1] ?_))
 refine sqk (.bool ((decide (0<=n)&&decide (n<(D.pgs.length:Int))))) aj (fun cx=>⟨_,Cz b D PA Pc GA gc Ps n _ (hB.ext cx.upd.to_ext),(aN (cx.ou 6) (cx.ou 7))⟩) fun W5 aK=>?_
 refine sqp [.k 9 (.bool (!((decide (0<=n)&&decide (n<(D.pgs.length:Int))))))] ?_
 refine aa ?_
 rcases Bool.eq_false_or_eq_true ((decide (0<=n)&&decide (n<(D.pgs.length:Int)))) with ea|ea
 have jB:=ea
 simp only[zB] at jB
 obtain⟨OS,OT⟩:=jB
 refine wp_cond_false (show Act.eval _ _= .bool false from(congrArg Value.bool (by rw[ea];rfl))) (wp_skip (aa (wq ?_)))
 have hPl:D.pgs.length=Ps.length:=by rw[<-hB.ab,List.length_map]
 have hnn:0<=n/\n<(D.pgs.length:Int):=by have h_:=ea;simp at h_;omega
 obtain⟨k,rfl⟩:∃k:Nat,n=(k:Int):=⟨n.toNat,by omega⟩
 obtain⟨t,htk⟩:=xQ (Ps:=Ps) (k:=k) (by omega)
 have htm:=List.mem_of_getElem? htk
 refine sqs [.m 10 0,.k 11 (vp b),.k 12 (vp b)] ?_
 refine sql (.slice PA D.pgs.length Pc) aK (fun cx=>rL1 (cx.ou 12) ((Blk.ext hB.blkL cx.upd.to_ext).cell 0)) ?_
 refine sqp [.m 14 1] ?_
 refine sql (.pointer (some ((ad PA).add (k*513)))) aK (fun cx=>aD (e:=144) (m:=k) (sz:=513) rfl (by kernel_rfl) (by kernel_rfl) (cx.ou 13) (cx.ou 14) (by omega) (by omega) (hB.at_.ext cx.upd.to_ext) (bm (sz:=513) c6 (by decide) (by omega))) ?_
 refine sql (.pointer (some ((ad PA).add (k*513+0)))) aK (fun cx=>bn rfl (by kernel_rfl) (cx.ou 15)) ?_
 refine sql (.agg (hvC t.s).toArray) aK (fun cx=>rLE (f:=shC) (m:=k) (sz:=513) (off:=0) (n:=512) (cx.ou 16) (List.size_toArray.trans (cH _)) c6 (hB.at_.ext cx.upd.to_ext) htk (fun k hk=>by rw[List.getElem?_toArray,Nat.zero_add];exact Ki t hk)) ?_
 refine sqk (.string t.s.1) aK (fun cx=>⟨_,pj t.s _,(av (cx.ou 17))⟩) fun p5 dl=>?_
 refine sqp [.m 4 18,.k 5 (vi 0)] ?_
 exact aa (wp_ret (bpr (.tuple #[.string t.s.1,vi 0]) (aL results43 rpt rpt) (Ret.of (by rw[Mn hB.ab htk]) dl.ext)))
 have jB:=ea
 simp only[zB] at jB
 refine wp_cond_true (show Act.eval _ _= .bool true from(congrArg Value.bool (by rw[ea];rfl))) (wsq [.k 4 (.string ⟨#[]⟩),.k 5 (vi 22)] ?_)
 refine aa (wp_ret (ai ?_))
 exact bpr (.tuple #[.string ⟨#[]⟩,vi 22]) (aL results43 rpt rpt) (Ret.of (by rw[sfS,if_neg (by have h_:=ea;simp at h_;omega)]) aK.ext)
theorem DG(b:Nat)(D:DkM)(n:Int)(w:World)(h:jb w b D)(hw:∀x∈D.pgs,x.ws.length<=1000000000):Calls P_ 37 #[po b 0,.int .i64 n] w (Ret (.tuple #[.string (rdS D n).1,.int .i64 (rdS D n).2]) w):=by
 obtain⟨PA,Pc,GA,gc,Ps,h1⟩:=h
 exact JS b D PA Pc GA gc Ps n w h1 hw
theorem Eg(b:Nat)(D:DkM)(n:Int)(w:World)(h:jb w b D):Calls P_ 43 #[po b 0,.int .i64 n] w (Ret (.tuple #[.string (sfS D n).1,.int .i64 (sfS D n).2]) w):=by
 obtain⟨PA,Pc,GA,gc,Ps,h1⟩:=h
 exact Kq b D PA Pc GA gc Ps n w h1
end
end Go.Proofs.YtcdjaepgahbhfaaGreat
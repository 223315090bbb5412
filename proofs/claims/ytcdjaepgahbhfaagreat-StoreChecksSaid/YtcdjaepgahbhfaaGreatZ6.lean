import Derived.Test.YtcdjaepgahbhfaaGreatZ5
set_option linter.unusedVariables false
set_option linter.unusedSimpArgs false
set_option maxRecDepth 100000
set_option maxHeartbeats 16000000
open Go.Proofs.Tryz
open Go.Proofs.Tryz renaming prog->P_
namespace Go.Proofs.YtcdjaepgahbhfaaGreat
variable{N:Int->PgS}{S S' S2:StM}{W w0:World}{a b er lsn n sl:Int}{bor:List Nat}{bs l:List (Int×Nat)}{c c' db i k p:Nat}{note s:ByteArray}{pg:PgR}{r:RecM}{t:BfT}{x:Int×Nat}
section
open Go.RowKit Go.Maps Go.ChangeMaps
theorem yg(h:ej S n pg S2 er)(h0:er=0):ej S n pg S2 0:=h0 ▸ h
theorem KA(sb db:Nat)(S:StM)(r:RecM)(A:Option Addr)(rc:Nat)(c:Nat)(fp:List Nat)(w:World)(hB:(eSt sb db S fp).holds w)(hlt:∀k∈fp,k<w.heap.size)(hok:SOk S c)(hc:c<=800000)(hA:∀W,Upd fp w W->At W A (r.eds.flatMap edC))(hI:r.eds.length<=100000)(hz:∀e∈r.eds,e.2.2.size<=9223372036854775807)(hns:r.note.size<=9223372036854775807):
  Calls P_ 17 #[po sb 0,.agg #[.int .i64 r.kind,.int .i64 r.xid,.int .i64 r.tbl,sn,sn,.slice A r.eds.length rc,sn,.string r.note]] w (fL sb db S r c fp w):=by
 have st1:St w fp [eSt sb db S fp] w:=St.lend hB (dx _ _ _ _) hlt
 have hpg:=hok.pgs
 go_enter func17,ntmps17
 have aj:=st1
 refine wq (sqr ?_)
 refine bX #[vp sb] aj fun bw W1 ax=>?_
 refine bX #[vi r.kind,vi r.xid,vi r.tbl,sn,sn,.slice A r.eds.length rc,sn,.string r.note] ax fun cY W2 bA=>?_
 refine sqp [.k 4 (vi 0),.k 5 (vi 0)] ?_
 refine aa (wq (wq (sqr (am 1 bA ?_))))
 refine sqv (.bool false) bA (by
   exact sv0 rfl rfl rfl rfl rfl (fun _ _ _ h=>h) fun o d W X cx=>by
    have QJ:o (.tmp 32)=vp sb:=(cx.ou 32)
    simp[go_sem,cx.sees.const,QJ]) fun W6 bJ=>?_
 refine sqp [.k 34 (.bool false)] ?_
 refine de 34 [35,36,37] rfl rfl ?_
 refine bD 2 8 bJ ?_
 refine sqk (.bool (bt r)) bJ (fun cx=>⟨_,lX r.kind r.xid r.tbl _ _ r.eds r.note _ (hA _ cx.upd) (by omega) hz hns,(av (cx.ou 35))⟩) fun W9 cw=>?_
 refine sqp [.k 37 (.bool (!(bt r)))] ?_
 refine sqp [.k 38 (.bool (!(bt r))),.m 39 38] ?_
 refine d3 39 [40,41,42] ?_ rfl (fun hq=>?_) ?_
 rotate_left
 refine sqp [.k 40 (vp cY)] ?_
 refine am 2 cw ?_
 refine sqp [.k 42 (.bool (r.kind==8))] ?_
 exact sqe
 refine c7 ?_
 refine sqp [sPo 43 (!(bt r)) (r.kind==8),.m 44 43] ?_
 refine d3 44 [45,46,47] ?_ rfl (fun hq=>?_) ?_
 rotate_left
 refine sqp [.k 45 (vp cY)] ?_
 refine am 2 cw ?_
 refine sqp [.k 47 (.bool (r.kind==9))] ?_
 exact sqe
 refine c7 ?_
 refine sqp [sPo 48 ((!(bt r))||(r.kind==8)) (r.kind==9)] ?_
 refine aa (wbs (fun Ad=>?_) fun Ad=>?_)
 have x2:=Ad
 simp only[zB] at x2
 refine wsq [.k 4 (vi 0),.k 5 (vi 1)] ?_
 refine aa (wp_ret (ai ?_))
 exact bpr (.tuple #[vi 0,vi 1]) (aL results17 rpt rpt) (fL.of (.arg (fun hh=>by have h_:=Ad;have h1:=hh.1;have h2:=hh.2.1;have h3:=hh.2.2;simp_all)) (hok.mono (by omega)) (cw.pick [0] (by decide) rfl))
 have x2:=Ad
 simp only[zB] at x2
 obtain⟨⟨RT,RU⟩,RV⟩:=x2
 refine wp_skip (aa (wq ?_))
 have hda:DoA r:=by have h_:=Ad;simp at h_;exact⟨h_.1.1,h_.1.2,h_.2⟩
 refine sqr ?_
 refine bD 2 8 cw ?_
 refine iz (fun cE cK=> .agg #[vi r.kind,vi r.xid,vi r.tbl,sn,sn,.slice cE r.eds.length cK,sn,.string r.note]) (fun cE cK=>eO 84 3 (.slice cE r.eds.length cK) r.eds.length (r.eds.flatMap edC)) cw (fun cx=>⟨_,(C1 A rc r _ (hA _ cx.upd) hI).mono (by rintro e W1 ⟨A4,c4,rfl,aM⟩;exact⟨_,_,rfl,aM⟩),(av (cx.ou 49))⟩) fun cE cK xD fD=>?_
 refine aT (n:=8) 2 #[vi r.kind,vi r.xid,vi r.tbl,sn,sn,.slice cE r.eds.length cK,sn,.string r.note] fD fun xz d6=>?_
 refine aa (wq (wq ?_))
 obtain⟨S0,fp28_,hS0,hg28_⟩:=St.rRn (r:=(⟨r,cE,cK⟩:RcT)) d6.u3
 have hok0:SOk S0 c:=hS0 ▸ hok.rr _
 have hev0:Ev S S0:=hS0 ▸ Ev.rr S _
 have hrt0:(⟨r,cE,cK⟩:RcT)∈S0.rr:=by rw[<-hS0];exact List.mem_append_right _ (List.mem_singleton.2 rfl)
 have P3:S0.D.pgs.length=S.D.pgs.length:=hev0.len
 refine sqs [.k 51 (po cY 5)] ?_
 refine am 2 hg28_ ?_
 refine sqv (.func (.func 54) #[] #[vp bw]) hg28_ (by
   exact sv0 rfl rfl rfl rfl rfl (fun _ _ _ h=>h) fun o d W X cx=>by
    have oF:o (.tmp 2)=vp bw:=(cx.ou 2)
    simp[go_sem,Instr.makeFunc,oF]) fun Nq km=>?_
 refine sqk (.bool ((r.eds.any (d8 S0.D.pgs.length)))) km (fun cx=>⟨_,DN _ _ r.eds 54 #[vp bw] (d8 S0.D.pgs.length) _ (mn (CtxV.holdF cx (cx.init 0 _ rfl) rfl) hrt0) hI (by kernel_rfl) (fun W2 k hW=>Hm k.1 k.2.1 k.2.2 bw sb db S0 W2 ((cx.bi 1 rfl).ext hW) (kE.ext (j7 (CtxV.holdF cx (cx.init 0 _ rfl) rfl)) hW)),(aN (cx.ou 52) (cx.ou 53))⟩) fun zK dc=>?_
 refine aa (wbs (fun pJ=>?_) fun pJ=>?_)
 refine wsq [.k 4 (vi 0),.k 5 (vi 22)] ?_
 refine aa (wp_ret (ai ?_))
 exact bpr (.tuple #[vi 0,vi 22]) (aL results17 rpt rpt) (fL.of (.page hda (by rw[<-P3];exact pJ) hev0) (hok0.mono (by omega)) (dc.pick [0] (by decide) rfl))
 refine wp_skip (aa (wq ?_))
 have hin:r.eds.any (d8 S.D.pgs.length)=false:=by rw[<-P3];exact pJ
 have hro:=d4 hda.1
 have hml:=hro.many
 refine sqs [.k 6 (sn)] ?_
 refine aa (wq (sqr ?_))
 refine d9 (fun x_=>pbx x_) (fun iP=> .map (some iP)) (fun iP=>eMx kcI pgX P_ 3 iP 0 (fun _=>none)) dc (by
   refine svA fun o d W X cx=>?_
   exact ln rfl rfl rfl rfl (fun _ _ _ _ _=> .intro)) fun iP Jn gY=>?_
 refine d9 (fun x_=>pbx x_) (fun ij=> .map (some ij)) (fun ij=>eMx kcI pgX P_ 3 ij 0 (fun _=>none)) gY (by
   refine svA fun o d W X cx=>?_
   exact ln rfl rfl rfl rfl (fun _ _ _ _ _=> .intro)) fun ij FP iC=>?_
 refine sqp [.m 7 55,.m 8 56] ?_
 refine aa (wq (wsq [.k 57 (po cY 5)] ?_))
 refine am 2 iC ?_
 refine sqp [.k 59 (vi ((r.eds.length:Int))),.k 60 (vi 0)] ?_
 refine aa (wp_block ?_)
 have hn45:=St.nilrow iC 3
 simp only[List.cons_append,List.nil_append] at hn45
 refine aQ (fun t_ mz az W=>∃j:Nat,∃os:List Int,∃m:Nat,∃OA:Option Addr,∃oc:Nat,∃Sj:StM,∃fpj:List Nat,∃mW:Int->Option PgV,∃nW:Nat,∃mN:Int->Option PgV,∃nN:Nat,j<=r.eds.length/\os=ck (r.eds.take j)/\m=os.length/\Ev S Sj/\SOk Sj (c+3*j)/\(⟨r,cE,cK⟩:RcT)∈Sj.rr/\cV (aF S) (r.eds.take j)=0/\DoI (aF S) (bo (aF S) (r.eds.take j)) (eH S r) os mW mN Sj.rows none/\nW<=j/\nN<=2*j/\mz=r.eds.length-j/\az=⟨(ovr (jv az) [(4,4,2,[.slice OA m oc]),(3,10,7,[]),(43,60,0,[vi ((j:Int))]),(0,61,51,[])] t_).toArray,[]⟩/\St w fp [eB bw 31 #[vp sb],eB cY 27 #[vi r.kind,vi r.xid,vi r.tbl,sn,sn,.slice cE r.eds.length cK,sn,.string r.note],eMx kcI pgX P_ 3 iP nW (mW),eMx kcI pgX P_ 3 ij nN (mN),eO 3 1 (.slice OA m oc) m (os.map (Value.int .i64)),eSt sb db Sj fpj] W) (r.eds.length-0) ?_ ?_
 exact⟨0,[],0,none,0,S0,fp28_,(fun _=>none),0,(fun _=>none),0,Nat.zero_le _,rfl,rfl,hev0,hok0,hrt0,rfl,DoI.init _ _ _,Nat.zero_le _,Nat.zero_le _,rfl,(by kernel_rfl),hn45.pk [1,2,3,4,5,0]⟩
 rintro UM a46 FN ⟨j,os,m,OA,oc,Sj,fpj,mW,nW,mN,nN,hj,hos,hm,hevj,hokj,hrtj,herr,hIj,hnW,hnN,rfl,hj_,gr⟩
 refine ovz hj_ fun Tq=>?_
 refine wsq [.k 61 (.bool (decide ((j:Int)<(r.eds.length:Int))))] ?_
 refine aa (wq (wds (fun QK Pa=>?_) fun QK Pa=>?_))
 refine wp_skip (aa (wq (wp_block (wq ?_))))
 have hmj:m<=j:=by rw[hm,hos];have h1:=jE (r.eds.take j);rw[List.length_take] at h1;omega
 have hjl:j<r.eds.length:=by omega
 obtain⟨ep,es,eb,hek⟩:=k9 (l:=r.eds) (k:=j) (by omega)
 have hke:edR (ep,es,eb)=true:=hro.eds _ (List.mem_of_getElem? hek)
 have hez:eb.size<=9223372036854775807:=by have:=dn hke;dsimp only at this;omega
 have hkn:kcI.ok ep:=by have:=(ll hke).1;dsimp only at this;constructor<;>omega
 have hpr:0<=ep/\ep<(S.D.pgs.length:Int):=ld hin (List.mem_of_getElem? hek)
 refine sqr ?_
 refine sql (.pointer (some ((ad cE).add (j*3)))) gr (fun cx=>aD (e:=84) (m:=j) (sz:=3) rfl (by kernel_rfl) (by kernel_rfl) (cx.ou 58) (cx.ou 60) (by omega) (by omega) (show At _ _ (r.eds.flatMap edC) from mn (CtxV.holdF cx (cx.init 5 _ rfl) rfl) hrtj) (bm (sz:=3) bE (by decide) (by omega))) ?_
 refine sql (.agg #[vi ep,vi es,.string eb]) gr (fun cx=>bS (f:=edC) (m:=j) (sz:=3) (off:=0) (n:=3) rfl (by kernel_rfl) (by kernel_rfl) (cx.ou 62) rfl bE (show At _ _ (r.eds.flatMap edC) from mn (CtxV.holdF cx (cx.init 5 _ rfl) rfl) hrtj) hek (fun k hk=>match k,hk with|0,_=>rfl|1,_=>rfl|2,_=>rfl|k+3,hk=>absurd hk (by omega))) ?_
 refine bW #[vi 0,vi 0,.string ByteArray.empty] gr fun lx Jm kU=>?_
 refine aT (n:=3) 6 #[vi ep,vi es,.string eb] kU fun B1 cJ=>?_
 refine aa ?_
 refine mu (fun t_ az W=>∃mW2:Int->Option PgV,∃nW2:Nat,∃mN2:Int->Option PgV,∃nN2:Nat,∃os2:List Int,∃m2:Nat,∃OA2:Option Addr,∃oc2:Nat,∃S2:StM,∃fp2:List Nat,os2=ju os (ep,es,eb)/\m2=os2.length/\Ev S S2/\SOk S2 (c+3*j+3)/\(⟨r,cE,cK⟩:RcT)∈S2.rr/\DoI (aF S) (bo (aF S) (r.eds.take j)) (eH S r) os2 mW2 mN2 S2.rows (some ep)/\nW2<=j+1/\nN2<=2*j+1/\az=⟨(ovr (jv az) [(4,4,2,[.slice OA2 m2 oc2]),(4,11,4,[]),(49,64,31,[])] t_).toArray,[]⟩/\St w fp [eB bw 31 #[vp sb],eB cY 27 #[vi r.kind,vi r.xid,vi r.tbl,sn,sn,.slice cE r.eds.length cK,sn,.string r.note],eB lx 84 #[vi ep,vi es,.string eb],eMx kcI pgX P_ 3 iP nW2 (mW2),eMx kcI pgX P_ 3 ij nN2 (mN2),eO 3 1 (.slice OA2 m2 oc2) m2 (os2.map (Value.int .i64)),eSt sb db S2 fp2] W) ?_ ?_
 refine wsq [.m 65 7,.k 66 (vp lx)] ?_
 refine am 6 cJ ?_
 refine sql (.tuple #[.agg #[vi (((mW ep).getD ((0:Int),(0:Int),(none:Option Addr),(0:Nat),(0:Nat))).1),vi (((mW ep).getD ((0:Int),(0:Int),(none:Option Addr),(0:Nat),(0:Nat))).2.1),.slice (((mW ep).getD ((0:Int),(0:Int),(none:Option Addr),(0:Nat),(0:Nat))).2.2.1) (((mW ep).getD ((0:Int),(0:Int),(none:Option Addr),(0:Nat),(0:Nat))).2.2.2.1) (((mW ep).getD ((0:Int),(0:Int),(none:Option Addr),(0:Nat),(0:Nat))).2.2.2.2)],.bool ((mW ep).isSome)]) cJ (fun cx=>zm (e:=48) (C:=pgX) (K:=kcI) (x:=ep) rfl (cx.ou 65) (cx.ou 67) (CtxV.mx cx (cx.init 2 _ rfl) rfl) (h0:=(by rfl)) (hx:=hkn) (hk:=show Program.underlying _ _= _ from by kernel_rfl)) ?_
 refine sqp [.m 64 68,.k 69 (.agg #[vi (((mW ep).getD ((0:Int),(0:Int),(none:Option Addr),(0:Nat),(0:Nat))).1),vi (((mW ep).getD ((0:Int),(0:Int),(none:Option Addr),(0:Nat),(0:Nat))).2.1),.slice (((mW ep).getD ((0:Int),(0:Int),(none:Option Addr),(0:Nat),(0:Nat))).2.2.1) (((mW ep).getD ((0:Int),(0:Int),(none:Option Addr),(0:Nat),(0:Nat))).2.2.2.1) (((mW ep).getD ((0:Int),(0:Int),(none:Option Addr),(0:Nat),(0:Nat))).2.2.2.2)]),.k 70 (.bool ((mW ep).isSome))] ?_
 refine bW #[vi 0,vi 0,sn] cJ fun RW BZ fw=>?_
 refine aT (n:=3) 7 #[vi (((mW ep).getD ((0:Int),(0:Int),(none:Option Addr),(0:Nat),(0:Nat))).1),vi (((mW ep).getD ((0:Int),(0:Int),(none:Option Addr),(0:Nat),(0:Nat))).2.1),.slice (((mW ep).getD ((0:Int),(0:Int),(none:Option Addr),(0:Nat),(0:Nat))).2.2.1) (((mW ep).getD ((0:Int),(0:Int),(none:Option Addr),(0:Nat),(0:Nat))).2.2.2.1) (((mW ep).getD ((0:Int),(0:Int),(none:Option Addr),(0:Nat),(0:Nat))).2.2.2.2)] fw fun UN JB=>?_
 refine sqp [.m 12 70] ?_
 refine aa (wsq [.m 71 12,.k 72 (.bool (!((mW ep).isSome)))] ?_)
 refine aa ?_
 rcases Bool.eq_false_or_eq_true ((mW ep).isSome) with rd|rd
 refine wp_cond_false (show Act.eval _ _= .bool false from(congrArg Value.bool (by rw[rd];rfl))) (wp_skip (aa ?_))
 exact⟨mW,nW,mN,nN,os,m,OA,oc,Sj,fpj,(mJ (e:=(ep,es,eb)) (hIj.mem.1 (by have h_:=rd;simpa using h_))).symm,hm,hevj,hokj.mono (by omega),hrtj,(mJ (e:=(ep,es,eb)) (hIj.mem.1 (by have h_:=rd;simpa using h_))) ▸ hIj.old (ep,es,eb) (by have h_:=rd;simpa using h_),by omega,by omega,(by kernel_rfl),JB.pk [0,1,6,2,3,4,5]⟩
 refine wp_cond_true (show Act.eval _ _= .bool true from(congrArg Value.bool (by rw[rd];rfl))) (wq (aB [0,0,2,7,15,31,31,0,191,511] [[0],[],[6],[5],[],[],[],[],[10]] [[],[],[],[8,9],[],[],[],[10],[11]] [[],[],[],[5],[],[],[],[],[10]] [.c 74 (vp sb),.k 75 (vp lx),.c 76 (vi ep),.a 77,.a 73,.a 78,.a 79,.a 13,.n,.a 14] (fun ix q d X=>match ix with|0|1|2=>True|3=>q 77= .tuple #[.agg #[vi ((pgF Sj ep (tB1 (d 77))).1),vi ((pgF Sj ep (tB1 (d 77))).2.1),.slice (sA (tg (tg (d 77) 0) 2)) ((pgF Sj ep (tB1 (d 77))).2.2.length) (sC (tg (tg (d 77) 0) 2))],.bool (tB1 (d 77))]/\X 8=eSx sb db (fun S2=>PaQ Sj ep S2 (tB1 (d 77))) ((X 8).fp)/\X 9=eO 9 1 (.slice (sA (tg (tg (d 77) 0) 2)) ((pgF Sj ep (tB1 (d 77))).2.2.length) (sC (tg (tg (d 77) 0) 2))) ((pgF Sj ep (tB1 (d 77))).2.2.length) ((pgF Sj ep (tB1 (d 77))).2.2.map Value.string)|4=>q 73= .tuple #[.agg #[vi ((pgF Sj ep (tB1 (d 77))).1),vi ((pgF Sj ep (tB1 (d 77))).2.1),.slice (sA (tg (tg (d 77) 0) 2)) ((pgF Sj ep (tB1 (d 77))).2.2.length) (sC (tg (tg (d 77) 0) 2))],.bool (tB1 (d 77))]|5=>q 78= .agg #[vi ((pgF Sj ep (tB1 (d 77))).1),vi ((pgF Sj ep (tB1 (d 77))).2.1),.slice (sA (tg (tg (d 77) 0) 2)) ((pgF Sj ep (tB1 (d 77))).2.2.length) (sC (tg (tg (d 77) 0) 2))]|6=>q 79= .bool (tB1 (d 77))|7=>q 13=vp (pb (d 13))/\X 10=eB (pb (d 13)) 48 #[vi 0,vi 0,sn]|8=>X 11=eB (pb (d 13)) 48 #[vi ((pgF Sj ep (tB1 (d 77))).1),vi ((pgF Sj ep (tB1 (d 77))).2.1),.slice (sA (tg (tg (d 77) 0) 2)) ((pgF Sj ep (tB1 (d 77))).2.2.length) (sC (tg (tg (d 77) 0) 2))]|9=>q 14= .bool (tB1 (d 77))|_=>True) [0,1,2,3,4,6,7,8,9,11] [0,2,3,4,5,6,7,8,9] [(13,7,3,15),(58,4,1,59),(0,0,4,4),(0,5,2,2)] JB ?_ ?_ ?_))
 exact fun ix _ _ _ _ _ _ hs hb hx h=>match ix,h with
 |3,h=>by dsimp only;rw[<-hs 77 rfl,<-hb 77 rfl,<-hx 8 rfl,<-hx 9 rfl];exact h
 |4,h=>by dsimp only;rw[<-hs 73 rfl,<-hb 77 rfl];exact h
 |5,h=>by dsimp only;rw[<-hs 78 rfl,<-hb 77 rfl];exact h
 |6,h=>by dsimp only;rw[<-hs 79 rfl,<-hb 77 rfl];exact h
 |7,h=>by dsimp only;rw[<-hs 13 rfl,<-hb 13 rfl,<-hx 10 rfl];exact h
 |8,h=>by dsimp only;rw[<-hb 13 rfl,<-hb 77 rfl,<-hx 11 rfl];exact h
 |9,h=>by dsimp only;rw[<-hs 14 rfl,<-hb 77 rfl];exact h
 |0,_|1,_|2,_|_+10,_=>trivial
 refine⟨?_,?_,?_,?_,?_,?_,?_,?_,?_,trivial⟩
 exact xs4 rfl id fun cx=>rL1 (cx.ou 2) ((cx.bi 0 rfl).cell 0)
 exact xs4 rfl id fun cx=>rL1 (cx.an 1) ((cx.bi 6 rfl).cell 0)
 refine svA fun o d W X cx=>?_
 refine ak.call (rCF (args:=#[vp sb,vi ep]) cx.sees (aN (cx.an 0) (cx.an 2))) ?_
 refine(qi sb db Sj ep (c+3*j) _ _ (CtxV.holdF cx (cx.init 5 _ rfl) rfl) (CtxV.ltF cx (cx.init 5 _ rfl) rfl) hokj (by omega) hkn).mono ?_
 rintro e W1 ⟨ok4,A4,c4,rfl,fp4,aM⟩
 refine⟨_,rfl,aI (E:=eSt sb db Sj fpj) [eSx sb db (fun S2=>PaQ Sj ep S2 ok4) fp4,eO 9 1 (.slice A4 ((pgF Sj ep ok4).2.2.length) c4) ((pgF Sj ep ok4).2.2.length) ((pgF Sj ep ok4).2.2.map Value.string)] (cx.init 5 _ rfl) rfl rfl aM (fun q y X' hs hb hv hN=>?_)⟩
 have aH:=(hv 77 rfl).1;have aO:=(hv 77 rfl).2
 exact⟨aH.trans (by rw[aO];exact rfl),(by rw[aO];exact eY ((List.cons.inj hN).1)),(by rw[aO];exact(List.cons.inj (List.cons.inj hN).2).1)⟩
 exact sv rfl rfl rfl rfl rfl _ (fun _ _ _ h=>h) (fun d y h=>by rw[h 77 (by decide)]) fun o d W X cx=>cM rfl (dTn (cx.an 3)).1
 exact sv rfl rfl rfl rfl rfl _ (fun _ _ _ h=>h) (fun d y h=>by rw[h 77 (by decide)]) fun o d W X cx=>bH rfl (dTn (cx.an 4)) rfl
 exact sv rfl rfl rfl rfl rfl _ (fun _ _ _ h=>h) (fun d y h=>by rw[h 77 (by decide)]) fun o d W X cx=>bH rfl (dTn (cx.an 4)) rfl
 refine svA fun o d W X cx=>?_
 exact dVA (cs:=#[vi 0,vi 0,sn]) rfl rfl rfl (fun _ _ _ _ _=> .intro)
 refine svA fun o d W X cx=>?_
 exact dVS (n:=3) rfl (dTn (cx.an 7)).1 (dTn (cx.an 5)) cx (dTn (cx.an 7)).2 rfl (nle rfl) rfl rfl rfl (fun q y X' hs hb hx=>by rw[hb 13,hb 77];exact hx)
 exact sv rfl rfl rfl rfl rfl _ (fun _ _ _ h=>h) (fun d y h=>by rw[h 77 (by decide)]) fun o d W X cx=>cS rfl (dTn (cx.an 6))
 intro q d X P4 hD pS fr aC
 obtain⟨ok77_67,pT⟩:∃z,tB1 (d 77)=z:=⟨_,rfl⟩
 obtain⟨ik,re⟩:∃z,sA (tg (tg (d 77) 0) 2)=z:=⟨_,rfl⟩
 obtain⟨il,rj⟩:∃z,sC (tg (tg (d 77) 0) 2)=z:=⟨_,rfl⟩
 obtain⟨RX,rk⟩:∃z,pb (d 13)=z:=⟨_,rfl⟩
 have Nr:X 8= _:=(dTn (hD 3 lq)).2.1
 obtain⟨SU,Ae⟩:∃z,(X 8).fp=z:=⟨_,rfl⟩
 rw[Ae] at Nr
 clear Ae
 simp only[Nr,exq 9 ((dTn (hD 3 lq)).2.2),exq 11 ((dTn (hD 8 lq))),pT,re,rj,rk] at pS
 simp only[ed 77 ((dTn (hD 3 lq)).1),ed 73 ((dTn (hD 4 lq))),ed 78 ((dTn (hD 5 lq))),ed 79 ((dTn (hD 6 lq))),ed 13 ((dTn (hD 7 lq)).1),ed 14 ((dTn (hD 9 lq))),pT,re,rj,rk] at aC
 clear hD Nr pT re rj rk;subst aC;clear q d X
 refine aa (wq (wq ?_))
 obtain⟨S1,hP,hy68_⟩:=pS.u7.unx
 have hok1:=hP.ok hokj
 have hev1:=hP.ev hokj
 have hrt1:(⟨r,cE,cK⟩:RcT)∈S1.rr:=by obtain⟨er_,h_,_⟩:=hP;rw[h_.rr];exact hrtj
 refine sqs [.m 80 14,.k 81 (.bool (!(ok77_67)))] ?_
 refine aa ?_
 rcases Bool.eq_false_or_eq_true (ok77_67) with oe|oe
 refine wp_cond_false (show Act.eval _ _= .bool false from(congrArg Value.bool (by rw[oe];rfl))) (wp_skip (aa (wq ?_)))
 have hpc:pgF Sj ep ok77_67=aF S ep:=by rw[oe,pgF,if_pos rfl];exact hevj.cur ep hpr.1
 refine sqs [.m 82 6,.k 83 (vp lx)] ?_
 refine am 6 hy68_ ?_
 refine d9 (fun x_=>sA x_) (fun vu=> .slice vu 1 1) (fun vu=>eO 3 1 (.slice vu 1 1) 1 ([vi ep])) hy68_ (by
   refine svA fun o d W X cx=>?_
   have QL:o (.tmp 84)=vi ep:=(cx.ou 84)
   exact dA (e:=3) (xs:=[vi ep]) rfl (by simp[go_sem,QL]) rfl (by decide) rfl rfl (fun _ _ _ _ _=> .intro)) fun vu M6 kX=>?_
 refine ti (fun x_=>sA x_) (fun x_=>sC x_) (fun rn ro=> .slice rn (m+1) ro) (fun rn ro=>eO 3 1 (.slice rn (m+1) ro) (m+1) ((os++[ep]).map (Value.int .i64))) 5 kX (by
   refine svA fun o d W X cx=>?_
   obtain⟨i0,hi0,hz0,hz1,hz2⟩:=info_parts Tryz.infoIntJ
   refine fj (n:=m) (m:=1) (nm:=m+1) (xs:=os.map (Value.int .i64)) (news:=[vi ep]) (xs':=(os++[ep]).map (Value.int .i64)) rfl (ty:=25) rfl (by kernel_rfl) hi0 hz0 hz1 hz2 rfl (cx.ou 82) cx (cx.init 5 _ rfl) rfl (cx.ou 85) (by first|(simp;done)|(simp;omega)) (At.of_own (cx.ri 10 rfl)) (by simp[Value.oneCell']) (by simp only[maxLen];omega) (by omega) rfl rfl rfl (by omega) ((BU _ _)) (fun q y X' hs hb hv hx=>?_)
   exact⟨hv,hx⟩) fun rn ro PV pH=>?_
 refine sqp [.m 6 86] ?_
 refine aa (aB [0,0,2,0,0,16,0,0,71,511] [[],[],[6],[],[],[6],[9],[9],[3],[4]] [[],[],[],[],[],[],[],[],[11],[12]] [[],[],[],[],[],[],[],[],[3],[4]] [.k 87 (.map (some iP)),.k 88 (vp lx),.c 89 (vi ep),.k 90 (.map (some ij)),.k 91 (vp lx),.c 92 (vi ep),.c 93 (.agg #[vi ((pgF Sj ep ok77_67).1),vi ((pgF Sj ep ok77_67).2.1),.slice ik ((pgF Sj ep ok77_67).2.2.length) il]),.c 94 (.agg #[vi ((pgF Sj ep ok77_67).1),vi ((pgF Sj ep ok77_67).2.1),.slice ik ((pgF Sj ep ok77_67).2.2.length) il]),.n,.n] (fun ix q d X=>match ix with|0|1|2|3|4|5|6|7=>True|8=>X 11=eMx kcI pgX P_ 3 iP ((mzP mW ep nW)) (cd mW ep (some ((pgF Sj ep ok77_67).1,(pgF Sj ep ok77_67).2.1,ik,(pgF Sj ep ok77_67).2.2.length,il)))|9=>X 12=eMx kcI pgX P_ 3 ij ((mzP mN ep nN)) (cd mN ep (some ((pgF Sj ep ok77_67).1,(pgF Sj ep ok77_67).2.1,ik,(pgF Sj ep ok77_67).2.2.length,il)))|_=>True) [0,1,2,5,6,7,8,9,10,11,12] [2,5,6,7,8,9] [(87,0,8,95)] pH ?_ ?_ ?_)
 exact fun ix _ _ _ _ _ _ hs hb hx h=>match ix,h with
 |8,h=>by dsimp only;rw[<-hx 11 rfl];exact h
 |9,h=>by dsimp only;rw[<-hx 12 rfl];exact h
 |0,_|1,_|2,_|3,_|4,_|5,_|6,_|7,_|_+10,_=>trivial
 refine⟨?_,?_,?_,?_,?_,?_,trivial⟩
 exact xs4 rfl id fun cx=>rL1 (cx.an 1) ((cx.bi 6 rfl).cell 0)
 exact xs4 rfl id fun cx=>rL1 (cx.an 4) ((cx.bi 6 rfl).cell 0)
 exact xs4 rfl id fun cx=>rLB (n:=3) (cx.ou 13) (cx.bi 9 rfl) (nle rfl) rfl
 exact xs4 rfl id fun cx=>rLB (n:=3) (cx.ou 13) (cx.bi 9 rfl) (nle rfl) rfl
 refine svA fun o d W X cx=>?_
 exact gy (e:=48) (v:=((pgF Sj ep ok77_67).1,(pgF Sj ep ok77_67).2.1,ik,(pgF Sj ep ok77_67).2.2.length,il)) (.inl rfl) (cx.an 0) (show o _=Kc.enc kcI ep from(cx.an 2)) (show o _=Ec.enc pgX ((pgF Sj ep ok77_67).1,(pgF Sj ep ok77_67).2.1,ik,(pgF Sj ep ok77_67).2.2.length,il) from(cx.an 6)) cx (cx.init 3 _ rfl) rfl (trivial) (by omega) (hkn) rfl rfl rfl (fun _ _ _ _ _=>id) (hk:=show Program.underlying _ _= _ from by kernel_rfl)
 refine svA fun o d W X cx=>?_
 exact gy (e:=48) (v:=((pgF Sj ep ok77_67).1,(pgF Sj ep ok77_67).2.1,ik,(pgF Sj ep ok77_67).2.2.length,il)) (.inl rfl) (cx.an 3) (show o _=Kc.enc kcI ep from(cx.an 5)) (show o _=Ec.enc pgX ((pgF Sj ep ok77_67).1,(pgF Sj ep ok77_67).2.1,ik,(pgF Sj ep ok77_67).2.2.length,il) from(cx.an 7)) cx (cx.init 4 _ rfl) rfl (trivial) (by omega) (hkn) rfl rfl rfl (fun _ _ _ _ _=>id) (hk:=show Program.underlying _ _= _ from by kernel_rfl)
 intro q d X UO hD JC fr aC
 simp only[exq 11 ((dTn (hD 8 lq))),exq 12 ((dTn (hD 9 lq)))] at JC
 clear hD;subst aC;clear q d X
 refine aa ?_
 obtain⟨fp79_,hg79_⟩:=St.rPf (r:=(⟨(pgF Sj ep ok77_67),ik,il⟩:PgR)) JC.u6
 have hnm:(ep,es,eb).1∉os:=fun hh=>by have h_:=hIj.mem.2 hh;have h2:=rd;simp[h_] at h2
 exact⟨cd mW ep (some ((pgF Sj ep ok77_67).1,(pgF Sj ep ok77_67).2.1,ik,(pgF Sj ep ok77_67).2.2.length,il)),(mzP mW ep nW),cd mN ep (some ((pgF Sj ep ok77_67).1,(pgF Sj ep ok77_67).2.1,ik,(pgF Sj ep ok77_67).2.2.length,il)),(mzP mN ep nN),(os++[ep]),m+1,rn,ro,(j4 S1 (⟨(pgF Sj ep ok77_67),ik,il⟩:PgR)),fp79_,(kv hnm).symm,by rw[List.length_append,List.length_singleton];omega,(hevj.trans hev1.1 hok.fl).trans (Ev.rows' _ _) hok.fl,hok1.rows _,hrt1,(kv hnm) ▸ (hIj.mono hev1.1.rows).new (ep,es,eb) (by have h_:=rd;simpa using h_) hpc _ _,by have:=qv mW ep nW;omega,by have:=qv mN ep nN;omega,(by kernel_rfl),hg79_.pk [1,2,4,8,9,3,0]⟩
 refine wp_cond_true (show Act.eval _ _= .bool true from(congrArg Value.bool (by rw[oe];rfl))) (wsq [.k 4 (vi 0),.k 5 (vi 24)] ?_)
 refine aa (wp_ret (ai (ai (aY (ai (ai (aY (ai ?_))))))))
 exact bpr (.tuple #[vi 0,vi 24]) (aL results17 rpt rpt) (fL.of (.pow hda hin (hevj.trans hev1.1 hok.fl) ((hev1.2.1 oe).elim id fun h=>absurd (by rw[hevj.len];exact hpr) h)) (hok1.mono (by omega)) (hy68_.pick [0] (by decide) rfl))
 rintro a53 PS ⟨mW2,nW2,mN2,nN2,os2,m2,OA2,oc2,S2,fp2,hos2,hm2,hev2,hok2,hrt2,hI2,hnW2,hnN2,hj_,kV⟩
 refine ovz hj_ fun Tr=>?_
 refine wq ?_
 have hme:ep∈os2:=by rw[hos2];exact Fg os (ep,es,eb)
 obtain⟨pg,hpm,hmN,hpi,_⟩:=hI2.n ep hme
 obtain⟨pp,hpp⟩:∃z,(bo (aF S) (r.eds.take j)) ep=z:=⟨_,rfl⟩
 rw[hpp] at hmN hpi
 have hri:bI pp:=hpp ▸ jI (fun m=>iG hok m) herr ep
 refine sqs [.m 96 8,.k 97 (vp lx)] ?_
 refine am 2 kV ?_
 refine sql (.agg #[vi pp.1,vi pp.2.1,.slice pg.A pp.2.2.length pg.c]) kV (fun cx=>(da (e:=48) (C:=pgX) (K:=kcI) (x:=ep) rfl (cx.ou 96) (cx.ou 98) (CtxV.mx cx (cx.init 4 _ rfl) rfl) (h0:=by kernel_rfl) (hx:=hkn) (hk:=show Program.underlying _ _= _ from by kernel_rfl)).trans (by rw[hmN];rfl)) ?_
 refine bD 2 3 kV ?_
 refine iz (fun ey ez=> .tuple #[.agg #[vi ((doR pp (ep,es,eb) 1).1),vi ((doR pp (ep,es,eb) 1).2.1),.slice ey ((doR pp (ep,es,eb) 1).2.2.length) ez],vi ((doE pp (ep,es,eb) 1))]) (fun ey ez=>eO 9 1 (.slice ey ((doR pp (ep,es,eb) 1).2.2.length) ez) ((doR pp (ep,es,eb) 1).2.2.length) ((doR pp (ep,es,eb) 1).2.2.map Value.string)) kV (fun cx=>⟨_,(Fp (zA pp.1 pp.2.1 _ _ pp.2.2 ep es eb 1 _ (hpi ▸ HM (CtxV.holdF cx (cx.init 6 _ rfl) rfl) hpm) hri.1 (ef hri.1) hez)).mono (by rintro e W1 ⟨A4,c4,rfl,ho,hx⟩;exact⟨_,_,rfl,St.one hx (cf ho)⟩),(dH (cx.ou 99) (cx.ou 100) (cx.co _))⟩) fun ey ez PZ pL=>?_
 refine sqp [.m 95 101,.k 102 (.agg #[vi ((doR pp (ep,es,eb) 1).1),vi ((doR pp (ep,es,eb) 1).2.1),.slice ey ((doR pp (ep,es,eb) 1).2.2.length) ez]),.k 103 (vi ((doE pp (ep,es,eb) 1)))] ?_
 refine bW #[vi 0,vi 0,sn] pL fun RY UQ Pb=>?_
 refine aT (n:=3) 8 #[vi ((doR pp (ep,es,eb) 1).1),vi ((doR pp (ep,es,eb) 1).2.1),.slice ey ((doR pp (ep,es,eb) 1).2.2.length) ez] Pb fun M0 md=>?_
 refine sqp [.m 16 103] ?_
 refine aa (wq (wsq [.m 104 16,.k 105 (.bool ((doE pp (ep,es,eb) 1) != 0))] ?_))
 refine aa (wbs (fun kJ=>?_) fun kJ=>?_)
 have Dq:=bne_iff_ne.1 kJ
 refine wsq [.m 106 16,.k 4 (vi 0),.m 5 106] ?_
 refine aa (wp_ret (ai (aY (ai (ai (aY (ai ?_)))))))
 exact bpr (.tuple #[vi 0,vi ((doE pp (ep,es,eb) 1))]) (aL results17 rpt rpt) (fL.of (by have h_:=DoQ.err (S:=S) (r:=r) hda hin hev2 (by rw[tu hek herr (by rw[hpp];simpa using kJ)];rw[hpp];simpa using kJ);rw[tu hek herr (by rw[hpp];simpa using kJ),hpp] at h_;exact h_) (hok2.mono (by omega)) (md.pick [6] (by decide) rfl))
 have Dq:=bne_eq_false_iff_eq.1 kJ
 refine wp_skip (aa ?_)
 have hd0:doE pp (ep,es,eb) 1=0:=by simpa using kJ
 have hd1:doE ((bo (aF S) (r.eds.take j)) (ep,es,eb).1) (ep,es,eb) 1=0:=by rw[hpp];exact hd0
 obtain⟨fp100_,hg100_⟩:=St.rPf (r:=(⟨iy (eH S r) (doR pp (ep,es,eb) 1),ey,ez⟩:PgR)) md.u6.u7
 refine sqs [.m 107 8,.k 108 (vp lx)] ?_
 refine am 3 hg100_ ?_
 refine bD 7 3 hg100_ ?_
 refine sqc (eMx kcI pgX P_ 3 ij ((mzP mN2 ep nN2)) (cd mN2 ep (some ((doR pp (ep,es,eb) 1).1,(doR pp (ep,es,eb) 1).2.1,ey,(doR pp (ep,es,eb) 1).2.2.length,ez)))) 5 hg100_ (by
   refine svA fun o d W X cx=>?_
   exact gy (e:=48) (v:=((doR pp (ep,es,eb) 1).1,(doR pp (ep,es,eb) 1).2.1,ey,(doR pp (ep,es,eb) 1).2.2.length,ez)) (.inl rfl) (cx.ou 107) (show o _=Kc.enc kcI ep from(cx.ou 109)) (show o _=Ec.enc pgX ((doR pp (ep,es,eb) 1).1,(doR pp (ep,es,eb) 1).2.1,ey,(doR pp (ep,es,eb) 1).2.2.length,ez) from(cx.ou 110)) cx (cx.init 5 _ rfl) rfl (trivial) (by omega) (hkn) rfl rfl rfl (fun _ _ _ _ _=>id) (hk:=show Program.underlying _ _= _ from by kernel_rfl)) fun Ts Ns=>?_
 refine aq (aa (sqs [sI 111 ((j:Int)+1) (by omega),.m 60 111] ?_))
 refine aa ?_
 have hev3:Ev S (j4 S2 (⟨iy (eH S r) (doR pp (ep,es,eb) 1),ey,ez⟩:PgR)):=hev2.trans (Ev.rows' _ _) hok.fl
 have hok3:=hok2.rows (⟨iy (eH S r) (doR pp (ep,es,eb) 1),ey,ez⟩:PgR)
 have hI3:DoI (aF S) (bo (aF S) (r.eds.take (j+1))) (eH S r) os2 (mW2) (cd mN2 ep (some ((doR pp (ep,es,eb) 1).1,(doR pp (ep,es,eb) 1).2.1,ey,(doR pp (ep,es,eb) 1).2.2.length,ez))) (j4 S2 (⟨iy (eH S r) (doR pp (ep,es,eb) 1),ey,ez⟩:PgR)).rows none:=by rw[iq hek,yI];exact hI2.edit hme (by rw[hpp];exact rK hd0) _ _
 refine⟨r.eds.length-((j+1)),by omega,?_⟩
 exact⟨(j+1),os2,m2,OA2,oc2,(j4 S2 (⟨iy (eH S r) (doR pp (ep,es,eb) 1),ey,ez⟩:PgR)),fp100_,mW2,nW2,cd mN2 ep (some ((doR pp (ep,es,eb) 1).1,(doR pp (ep,es,eb) 1).2.1,ey,(doR pp (ep,es,eb) 1).2.2.length,ez)),(mzP mN2 ep nN2),by omega,by rw[iq hek,tq,<-hos];exact hos2,hm2,hev3,hok3.mono (by omega),hrt2,yz hek herr hd1,hI3,by omega,by have:=qv mN2 ep nN2;omega,rfl,(by kernel_rfl),Ns.pk [1,2,4,5,6,0]⟩
 refine wp_exit (al (al (bf (aa (wq ?_)))))
 have hje:j=r.eds.length:=by omega
 have hI9:DoI (aF S) (bo (aF S) r.eds) (eH S r) os mW mN Sj.rows none:=by have h_:=hIj;rw[hje,List.take_length] at h_;exact h_
 have hosF:os=ck r.eds:=by rw[hos,hje,List.take_length]
 have her9:cV (aF S) r.eds=0:=by have h_:=herr;rw[hje,List.take_length] at h_;exact h_
 have hmo:m<=64:=by have h1:=jE r.eds;rw[hm,hosF];omega
 have aC:=eV hda.1
 have hlzj:Sj.D.log.size<=1048576:=hokj.lsz
 have hpro:∀n∈os,0<=n/\n<(S.D.pgs.length:Int):=fun n hn=>by rw[hosF] at hn;obtain⟨x,hx,rfl⟩:=kr.1 hn;exact ld hin hx
 refine sqr ?_
 refine bD 1 8 gr ?_
 refine sqk (.string (aA r)) gr (fun cx=>⟨_,j9 r.kind r.xid r.tbl _ _ r.eds r.note _ (mn (CtxV.holdF cx (cx.init 5 _ rfl) rfl) hrtj) (by omega) hz hns,(av (cx.ou 112))⟩) fun Ng q8=>?_
 refine sqp [.k 114 (vi (((aA r).size:Int))),.m 17 114] ?_
 refine aa (wsq [.k 18 (sn)] ?_)
 refine aa (wq (wsq [.m 115 6,.k 116 (vi ((m:Int))),.k 117 (vi 0)] ?_))
 refine aa (wp_block ?_)
 have hn116:=fm q8 27 8
 simp only[List.cons_append,List.nil_append] at hn116
 refine aQ (fun t_ mz az W=>∃i:Nat,∃g:Nat,∃GA:Option Addr,∃gc:Nat,∃z:Int,∃fpi:List Nat,i<=m/\g=(eI S (os.take i)).length/\z=((aA r).size:Int)+(szF (fq S (os.take i)):Int)/\(0<=z/\z<=200000*((i:Int)+1))/\mz=m-i/\az=⟨(ovr (jv az) [(17,17,0,[vi z,.slice GA g gc]),(1,20,4,[]),(93,117,0,[vi ((i:Int))]),(0,118,30,[])] t_).toArray,[]⟩/\St w fp [eB bw 31 #[vp sb],eB cY 27 #[vi r.kind,vi r.xid,vi r.tbl,sn,sn,.slice cE r.eds.length cK,sn,.string r.note],eMx kcI pgX P_ 3 iP nW (mW),eMx kcI pgX P_ 3 ij nN (mN),eO 3 1 (.slice OA m oc) m (os.map (Value.int .i64)),eO 27 8 (.slice GA g gc) g ((eI S (os.take i)).flatMap (icC S)),eSt sb db Sj fpi] W) (m-0) ?_ ?_
 exact⟨0,0,none,0,((aA r).size:Int),fpj,Nat.zero_le _,rfl,by show _= _+((0:Nat):Int);omega,by omega,rfl,(by kernel_rfl),hn116.pk [0,1,2,3,4,6,5]⟩
 rintro Tt a117 Tu ⟨i,g,GA,gc,z,fpi,hi,hg,hz1,hz2,rfl,hj_,rp⟩
 refine ovz hj_ fun SV=>?_
 refine wsq [.k 118 (.bool (decide ((i:Int)<(m:Int))))] ?_
 refine aa (wq (wds (fun vw Af=>?_) fun vw Af=>?_))
 refine wp_skip (aa (wq (wp_block (wq ?_))))
 obtain⟨nn,hnn⟩:∃n,os[i]? =some n:=⟨_,List.getElem?_eq_getElem (by omega)⟩
 have hno:nn∈os:=List.mem_of_getElem? hnn
 have hpn:=hpro nn hno
 have hkn:kcI.ok nn:=by constructor<;>omega
 have htk:os.take (i+1)=os.take i++[nn]:=by rw[List.take_add_one,hnn];rfl
 refine sqr ?_
 refine sql (.pointer (some ((ad OA).add i))) rp (fun cx=>bz (e:=3) (m:=i) rfl (by kernel_rfl) (by kernel_rfl) (cx.ou 115) (cx.ou 117) (by omega) (by omega) (At.of_own (cx.ri 4 rfl)) (by rw[List.length_map];omega)) ?_
 refine sql (vi nn) rp (fun cx=>ce rfl (by kernel_rfl) (cx.ou 119) (At.cellAd (At.of_own (cx.ri 4 rfl)) ((List.getElem?_map ..).trans (by rw[hnn];rfl)))) ?_
 refine sqp [.m 20 120] ?_
 refine aa (wq ?_)
 obtain⟨⟨hrw1,hrr1⟩,mb1,RA1,rc1,EA1,ec1,ib1,tb1,fpd1,hv123_⟩:=rp.u6.unf
 refine sqr (am 10 hv123_ ?_)
 refine sqp [.k 122 (vp sb),.k 123 (po sb 6)] ?_
 refine am 0 hv123_ ?_
 refine sqp [.m 125 20] ?_
 refine sql (.bool (((Sj.im nn).getD false))) hv123_ (fun cx=>da (e:=4) (C:=ecB) (K:=kcI) (x:=nn) rfl (cx.ou 124) (cx.ou 125) (CtxV.mx cx (cx.init 7 _ rfl) rfl) (h0:=(by rfl)) (hx:=hkn) (hk:=show Program.underlying _ _= _ from by kernel_rfl)) ?_
 refine sqp [.k 127 (.bool (!(((Sj.im nn).getD false))))] ?_
 refine aa ?_
 rcases Bool.eq_false_or_eq_true (((Sj.im nn).getD false)) with vx|vx
 refine wp_cond_false (show Act.eval _ _= .bool false from(congrArg Value.bool (by rw[vx];rfl))) (wp_skip (aq (aa (sqs [sI 147 ((i:Int)+1) (by omega),.m 117 147] ?_))))
 refine aa ?_
 obtain⟨fp134_,hk134_⟩:=St.stf (S:=Sj) (hv123_) (hrw1) (hrr1)
 have him:(S.im nn).getD false=true:=by rw[<-hevj.im];simpa using vx
 have hnd1:eI S (os.take (i+1))=eI S (os.take i):=by rw[htk];exact DM S _ _ him
 rw[<-hnd1] at hk134_
 refine⟨m-((i+1)),by omega,?_⟩
 exact⟨(i+1),g,GA,gc,z,fp134_,by omega,by rw[hnd1];exact hg,by rw[fq,hnd1];exact hz1,by omega,rfl,(by kernel_rfl),hk134_.pk [1,2,3,4,5,6,0]⟩
 refine wp_cond_true (show Act.eval _ _= .bool true from(congrArg Value.bool (by rw[vx];rfl))) (wq ?_)
 have him:(S.im nn).getD false=false:=by rw[<-hevj.im];simpa using vx
 have hnd1:eI S (os.take (i+1))=eI S (os.take i)++[nn]:=by rw[htk];exact HW S _ _ him
 obtain⟨pg,hpm,hmW,hpi⟩:=hI9.w nn hno
 have hri:=iG hok nn
 have hbz:=cR hri
 have hgi:g<=i:=by rw[hg];have h1:=o4 S (os.take i);rw[List.length_take] at h1;omega
 have hfi:=eV (nw hok hpn)
 refine sqs [.m 129 7,.m 130 20] ?_
 refine sql (.agg #[vi ((aF S nn).1),vi ((aF S nn).2.1),.slice pg.A ((aF S nn).2.2.length) pg.c]) hv123_ (fun cx=>(da (e:=48) (C:=pgX) (K:=kcI) (x:=nn) rfl (cx.ou 129) (cx.ou 130) (CtxV.mx cx (cx.init 12 _ rfl) rfl) (h0:=by kernel_rfl) (hx:=hkn) (hk:=show Program.underlying _ _= _ from by kernel_rfl)).trans (by rw[hmW];rfl)) ?_
 refine sqk (.tuple #[.string (aG (aF S nn)),vi 0]) hv123_ (fun cx=>⟨_,nq (mP hri) _ _ _ (hpi ▸ iw (CtxV.holdF cx (cx.init 3 _ rfl) rfl) hpm) (ef hri.1),(av (cx.ou 131))⟩) fun Tv Nt=>?_
 refine sqp [.m 128 132,.k 133 (.string (aG (aF S nn))),.k 134 (vi 0),.m 21 133,.m 22 134] ?_
 refine aa (wsq [.m 135 20,.m 136 21,.k 137 (.agg #[vi 8,vi 0,vi nn,sn,sn,sn,sn,.string (aG (aF S nn))])] ?_)
 refine bW #[vi 0,vi 0,vi 0,sn,sn,sn,sn,.string ByteArray.empty] Nt fun Re Tw Nu=>?_
 refine aT (n:=8) 16 #[vi 8,vi 0,vi nn,sn,sn,sn,sn,.string (aG (aF S nn))] Nu fun Tx F0=>?_
 refine aa (wsq [.m 138 18] ?_)
 refine bD 16 8 F0 ?_
 refine mX 27 8 1 [vi 8,vi 0,vi nn,sn,sn,sn,sn,.string (aG (aF S nn))] F0 (@fun o d W X cx=>by have Pe:o (.tmp 139)= .agg #[vi 8,vi 0,vi nn,sn,sn,sn,sn,.string (aG (aF S nn))]:=(cx.ou 139);simp[go_sem,Pe]) fun QM QN m8=>?_
 refine v8 (g+1) ((eI S (os.take (i+1))).flatMap (icC S)) 15 m8 Tryz.infoRecJ (fun cx=>(At.of_ownN (cx.ri 17 rfl))) (jJ:=(by rw[hnd1];exact Ke _ _ _)) fun IY IZ QI vt=>?_
 refine sqp [.m 18 141] ?_
 refine aa (sqs [.m 142 17] ?_)
 refine bD 16 8 vt ?_
 refine sqk (.string (aA (f8 S nn))) vt (fun cx=>⟨_,j9 8 0 nn none 0 [] (aG (aF S nn)) _ (fun j u h=>by cases j<;>cases h) (by decide) (fun e he=>by cases he) (by omega),(av (cx.ou 143))⟩) fun Ty Nv=>?_
 refine sqp [.k 145 (vi (((aA (f8 S nn)).size:Int))),sI 146 (z+((aA (f8 S nn)).size:Int)) (by omega),.m 17 146] ?_
 refine aq (aa (sqs [sI 147 ((i:Int)+1) (by omega),.m 117 147] ?_))
 refine aa ?_
 obtain⟨fp162_,hk162_⟩:=St.stf (S:=Sj) (Nv) (hrw1) (hrr1)
 refine⟨m-((i+1)),by omega,?_⟩
 exact⟨(i+1),(g+1),IY,IZ,(z+((aA (f8 S nn)).size:Int)),fp162_,by omega,by rw[hnd1,List.length_append,hg];rfl,by rw[htk,D8 S _ _ him];omega,by omega,rfl,(by kernel_rfl),hk162_.pk [1,2,3,4,5,6,0]⟩
 refine wp_exit (al (al (bf (aa (wq (wq ?_))))))
 have hie:i=m:=by omega
 have hto:os.take i=os:=List.take_of_length_le (by omega)
 rw[hto] at hg hz1 rp
 have hgm:g<=64:=by have h1:=o4 S os;omega
 have hnz:jU S r=Sj.D.log.size+z.toNat:=by rw[jU,<-hosF,hevj.log,hz1];omega
 obtain⟨⟨hrw1,hrr1⟩,mb1,RA1,rc1,EA1,ec1,ib1,tb1,fpd1,hv163_⟩:=rp.u6.unf
 refine sqr (am 10 hv163_ ?_)
 refine sqp [.k 149 (vp sb),.k 150 (vp sb)] ?_
 refine am 0 hv163_ ?_
 refine sqk (.string Sj.D.log) hv163_ (fun cx=>⟨_,ks db Sj.D _ (eP (CtxV.holdF cx (cx.init 9 _ rfl) rfl)),(av (cx.ou 151))⟩) fun QO vy=>?_
 refine sqp [.k 153 (vi ((Sj.D.log.size:Int))),.m 154 17,sI 155 ((Sj.D.log.size:Int)+z) (by omega),.k 156 (.bool (decide (1048576<(Sj.D.log.size:Int)+z)))] ?_
 refine aa (wds (fun Dr Nw=>?_) fun Dr Nw=>?_)
 refine wsq [.k 4 (vi 0),.k 5 (vi 31)] ?_
 refine aa (wp_ret (ai ?_))
 refine bpr (.tuple #[vi 0,vi 31]) (aL results17 rpt rpt) ?_
 obtain⟨fp176_,hk176_⟩:=St.stf (S:=Sj) (vy) (hrw1) (hrr1)
 exact fL.of (.full hda hin hevj her9 (by have h_:=Dr;simp at h_;omega)) (hokj.mono (by omega)) (hk176_.pick [0] (by decide) rfl)
 refine wp_skip (aa (wq (wq ?_)))
 have hfit:jU S r<=1048576:=by have h_:=Dr;simp at h_;omega
 obtain⟨fp177_,hk177_⟩:=St.stf (S:=Sj) (vy) (hrw1) (hrr1)
 refine sqs [.m 157 18,.k 158 (vi ((g:Int))),.k 159 (vi 0)] ?_
 refine aa (wp_block ?_)
 refine aQ (fun t_ mz az W=>∃k:Nat,∃Sk:StM,∃fpk:List Nat,k<=g/\(∀S9 er,ApI Sk ((fq S os).drop k) S9 er->ApI Sj (fq S os) S9 er)/\SOk Sk (c+200+k)/\(⟨r,cE,cK⟩:RcT)∈Sk.rr/\Sk.rows=Sj.rows/\Sk.recs.length=S.recs.length+k/\Sk.D.pgs.length=S.D.pgs.length/\mz=g-k/\az=⟨(ovr (jv az) [(4,4,2,[]),(19,25,2,[]),(132,159,0,[vi ((k:Int))]),(0,160,16,[])] t_).toArray,[]⟩/\St w fp [eB bw 31 #[vp sb],eB cY 27 #[vi r.kind,vi r.xid,vi r.tbl,sn,sn,.slice cE r.eds.length cK,sn,.string r.note],eMx kcI pgX P_ 3 iP nW (mW),eMx kcI pgX P_ 3 ij nN (mN),eO 3 1 (.slice OA m oc) m (os.map (Value.int .i64)),eO 27 8 (.slice GA g gc) g ((eI S os).flatMap (icC S)),eSt sb db Sk fpk] W) (g-0) ?_ ?_
 exact⟨0,Sj,fp177_,Nat.zero_le _,fun S9 er h=>h,hokj.mono (by omega),hrtj,rfl,by rw[hevj.recs];rfl,hevj.len,rfl,(by kernel_rfl),hk177_.pk [1,2,3,4,5,6,0]⟩
 rintro Tz a181 TB ⟨k,Sk,fpk,hk,hcont,hokk,hrtk,hrowk,hreck,hpk,rfl,hj_,oK⟩
 refine ovz hj_ fun SW=>?_
 refine wsq [.k 160 (.bool (decide ((k:Int)<(g:Int))))] ?_
 refine aa (wq (wds (fun Pf Nx=>?_) fun Pf Nx=>?_))
 refine wp_skip (aa (wq (wp_block (wq ?_))))
 obtain⟨nn,hnn⟩:∃n,(eI S os)[k]? =some n:=⟨_,List.getElem?_eq_getElem (by omega)⟩
 have hno:nn∈os:=tf (List.mem_of_getElem? hnn)
 have hpn:=hpro nn hno
 have hkn:kcI.ok nn:=by constructor<;>omega
 have hdr:(fq S os).drop k=f8 S nn::(fq S os).drop (k+1):=by rw[List.drop_eq_getElem_cons (by rw[fq,List.length_map];omega)];congr 1;exact(List.getElem?_eq_some_iff.1 ((List.getElem?_map ..).trans (by rw[hnn];rfl))).2
 have hir:=nw hok hpn
 refine sqr ?_
 refine sql (.pointer (some ((ad GA).add (k*8)))) oK (fun cx=>aD (e:=27) (m:=k) (sz:=8) rfl (by kernel_rfl) (by kernel_rfl) (cx.ou 157) (cx.ou 159) (by omega) (by omega) (At.of_ownN (cx.ri 5 rfl)) (bm (sz:=8) (Bw S) (by decide) (by omega))) ?_
 refine sql (.agg #[vi 8,vi 0,vi nn,sn,sn,sn,sn,.string ((aG (aF S nn)))]) oK (fun cx=>bS (f:=(icC S)) (m:=k) (sz:=8) (off:=0) (n:=8) rfl (by kernel_rfl) (by kernel_rfl) (cx.ou 161) rfl (Bw S) (At.of_ownN (cx.ri 5 rfl)) hnn (fun k hk=>match k,hk with|0,_=>rfl|1,_=>rfl|2,_=>rfl|3,_=>rfl|4,_=>rfl|5,_=>rfl|6,_=>rfl|7,_=>rfl|k+8,hk=>absurd hk (by omega))) ?_
 refine bW #[vi 0,vi 0,vi 0,sn,sn,sn,sn,.string ByteArray.empty] oK fun Ly TC Ny=>?_
 refine aT (n:=8) 7 #[vi 8,vi 0,vi nn,sn,sn,sn,sn,.string ((aG (aF S nn)))] Ny fun TD Nz=>?_
 refine aa (wq (wq ?_))
 have hn188:=fm Nz 84 3
 simp only[List.cons_append,List.nil_append] at hn188
 obtain⟨Sq,fp189_,hSq,hg189_⟩:=St.rRn (r:=(rcI (f8 S nn))) hn188.u6.u8
 have hokq:SOk Sq (c+200+k):=hSq ▸ hokk.rr _
 have hrtq:rcI (f8 S nn)∈Sq.rr:=by rw[<-hSq];exact List.mem_append_right _ (List.mem_singleton.2 rfl)
 refine sqr (am 1 hg189_ ?_)
 refine bD 7 8 hg189_ ?_
 refine bF (fun X_=>X_.fp) (vi ((br Sq (rcI (f8 S nn))).2)) (fun F1=>eSt sb db ((br Sq (rcI (f8 S nn))).1) F1) 0 hg189_ (by
   refine svA fun o d W X cx=>?_
   refine ak.call (gl (args:=#[vp sb,.agg #[vi 8,vi 0,vi nn,sn,sn,sn,sn,.string ((aG (aF S nn)))]]) rfl cx.sees rfl (by kernel_rfl) (aN (cx.ou 163) (cx.ou 164))) ?_
   refine(ob sb db Sq (rcI (f8 S nn)) (c+200+k) _ _ (CtxV.holdF cx (cx.init 0 _ rfl) rfl) (CtxV.ltF cx (cx.init 0 _ rfl) rfl) hokq hir hrtq).mono ?_
   rintro e W1 ⟨rfl,fp4,aM⟩
   refine⟨_,rfl,aI (E:=eSt sb db Sq fp189_) [eSt sb db (br Sq (rcI (f8 S nn))).1 fp4] (cx.init 0 _ rfl) rfl rfl aM (fun q y X' hs hb hv hN=>?_)⟩
   have aH:=(hv 165 rfl).1;have aO:=(hv 165 rfl).2
   exact⟨aH.trans rfl,gR ((List.cons.inj hN).1)⟩) fun F1 QP oL=>?_
 refine sqp [.m 26 165] ?_
 refine aa (wsq [.m 166 26,.k 167 (.bool (((br Sq (rcI (f8 S nn))).2) != 0))] ?_)
 refine aa (wbs (fun sa=>?_) fun sa=>?_)
 have NB:=bne_iff_ne.1 sa
 refine wsq [.m 168 26,.k 4 (vi 0),.m 5 168] ?_
 refine aa (wp_ret (ai (aY (ai (ai (aY (ai ?_)))))))
 exact bpr (.tuple #[vi 0,vi ((br Sq (rcI (f8 S nn))).2)]) (aL results17 rpt rpt) (fL.of (.img hda hin hevj ⟨_,hokj⟩ her9 hfit (by rw[<-hosF];refine hcont _ _ ?_;rw[hdr];have h_:=ApI.bad (S:=Sk) (l:=(fq S os).drop (k+1)) (Sk.rr++[rcI (f8 S nn)]) (by rw[hSq];simpa using sa);rw[hSq] at h_;exact h_) (by simpa using sa)) ((hokq.append hir).mono (by omega)) (oL.pick [0] (by decide) rfl))
 have NB:=bne_eq_false_iff_eq.1 sa
 refine wp_skip (aa ?_)
 have he0:(br Sq (rcI (f8 S nn))).2=0:=by simpa using sa
 obtain⟨S3,hS3⟩:∃z,(br Sq (rcI (f8 S nn))).1=z:=⟨_,rfl⟩
 rw[hS3] at oL
 have hok3:SOk S3 (c+200+k):=hS3 ▸ hokq.append hir
 have hni3:=hok3.ni
 obtain⟨⟨hrw3,hrr3⟩,mb3,RA3,rc3,EA3,ec3,ib3,tb3,fpd3,hv200_⟩:=oL.unf
 refine aB [0,1,3,7,0,16,63] [[10],[],[],[0],[],[16],[7]] [[],[],[],[],[],[],[17]] [[],[],[],[],[],[],[7]] [.c 169 (vp sb),.k 170 (vp sb),.k 171 (po sb 6),.c 172 (.map (some ib3)),.k 173 (po Ly 2),.c 174 (vi nn),.n] (fun ix q d X=>match ix with|0|1|2|3|4|5=>True|6=>X 17=eMx kcI ecB P_ 3 ib3 ((mzP S3.im nn S3.ni)) (cd S3.im nn (some true))|_=>True) [0,1,2,3,4,5,6,8,9,10,11,12,13,14,15,16,17] [0,3,5,6] [(169,0,6,175)] hv200_ ?_ ?_ ?_
 exact fun ix _ _ _ _ _ _ hs hb hx h=>match ix,h with
 |6,h=>by dsimp only;rw[<-hx 17 rfl];exact h
 |0,_|1,_|2,_|3,_|4,_|5,_|_+7,_=>trivial
 refine⟨?_,?_,?_,?_,trivial⟩
 exact xs4 rfl id fun cx=>rL1 (cx.ou 2) ((cx.bi 10 rfl).cell 0)
 exact xs4 rfl id fun cx=>rL1 (cx.an 2) ((cx.bi 0 rfl).cell 6)
 exact xs4 rfl id fun cx=>rL1 (cx.an 4) ((cx.bi 16 rfl).cell 2)
 refine svA fun o d W X cx=>?_
 exact gy (e:=4) (v:=true) (.inl rfl) (cx.an 3) (show o _=Kc.enc kcI nn from(cx.an 5)) (show o _=Ec.enc ecB true from(cx.co _)) cx (cx.init 7 _ rfl) rfl (trivial) (by omega) (hkn) rfl rfl rfl (fun _ _ _ _ _=>id) (hk:=show Program.underlying _ _= _ from by kernel_rfl)
 intro q d X TF hD F2 fr aC
 simp only[exq 17 ((dTn (hD 6 lq)))] at F2
 clear hD;subst aC;clear q d X
 refine aq (aa (sqs [sI 175 ((k:Int)+1) (by omega),.m 159 175] ?_))
 refine aa ?_
 obtain⟨fp204_,hk204_⟩:=St.stf (S:=(imS S3 nn)) (F2.u16.u7.u7.u7.u7.u7.u7.u7) (hrw3) (hrr3)
 refine⟨g-((k+1)),by omega,?_⟩
 exact⟨(k+1),(imS S3 nn),fp204_,by omega,fun S9 er h=>hcont S9 er (by rw[hdr];exact ApI.cons (Sk.rr++[rcI (f8 S nn)]) (by rw[hSq];exact he0) (by rw[hSq,hS3];exact h)),(hok3.im nn).mono (by omega),by show _∈S3.rr;rw[<-hS3,(jH _ _).2.1,<-hSq];exact List.mem_append_left _ hrtk,by show S3.rows= _;rw[<-hS3,(jH _ _).1,<-hSq];exact hrowk,by show S3.recs.length= _;rw[<-hS3,xq he0,List.length_append,<-hSq];show Sk.recs.length+1= _;omega,by show S3.D.pgs.length= _;rw[<-hS3,(jH _ _).2.2.2.2.2.1,<-hSq];exact hpk,rfl,(by kernel_rfl),hk204_.pk [1,2,3,4,5,6,0]⟩
 refine wp_exit (al (al (bf (aa (wq (wq ?_))))))
 have hai:ApI Sj (fq S os) Sk 0:=hcont _ _ (by rw[List.drop_of_length_le (by rw[fq,List.length_map];omega)];exact ApI.nil _)
 refine sqr (am 0 oK ?_)
 refine bD 1 8 oK ?_
 refine bF (fun X_=>X_.fp) (vi ((br Sk (⟨r,cE,cK⟩:RcT)).2)) (fun Ag=>eSt sb db ((br Sk (⟨r,cE,cK⟩:RcT)).1) Ag) 6 oK (by
   refine svA fun o d W X cx=>?_
   refine ak.call (rCF (args:=#[vp sb,.agg #[vi r.kind,vi r.xid,vi r.tbl,sn,sn,.slice cE r.eds.length cK,sn,.string r.note]]) cx.sees (aN (cx.ou 176) (cx.ou 177))) ?_
   refine(ob sb db Sk (⟨r,cE,cK⟩:RcT) (c+200+k) _ _ (CtxV.holdF cx (cx.init 6 _ rfl) rfl) (CtxV.ltF cx (cx.init 6 _ rfl) rfl) hokk hda.1 hrtk).mono ?_
   rintro e W1 ⟨rfl,fp4,aM⟩
   refine⟨_,rfl,aI (E:=eSt sb db Sk fpk) [eSt sb db (br Sk (⟨r,cE,cK⟩:RcT)).1 fp4] (cx.init 6 _ rfl) rfl rfl aM (fun q y X' hs hb hv hN=>?_)⟩
   have aH:=(hv 178 rfl).1;have aO:=(hv 178 rfl).2
   exact⟨aH.trans rfl,gR ((List.cons.inj hN).1)⟩) fun Ag TG Ah=>?_
 refine sqp [.m 27 178] ?_
 refine aa (wsq [.m 179 27,.k 180 (.bool (((br Sk (⟨r,cE,cK⟩:RcT)).2) != 0))] ?_)
 refine aa (wbs (fun vz=>?_) fun vz=>?_)
 have NC:=bne_iff_ne.1 vz
 refine wsq [.m 181 27,.k 4 (vi 0),.m 5 181] ?_
 refine aa (wp_ret (ai ?_))
 exact bpr (.tuple #[vi 0,vi ((br Sk (⟨r,cE,cK⟩:RcT)).2)]) (aL results17 rpt rpt) (fL.of (.app (rt:=(⟨r,cE,cK⟩:RcT)) hda hin hevj ⟨_,hokj⟩ her9 hfit (by rw[<-hosF];exact hai) rfl (by simpa using vz)) ((hokk.append hda.1).mono (by omega)) (Ah.pick [6] (by decide) rfl))
 have NC:=bne_eq_false_iff_eq.1 vz
 refine wp_skip (aa (wq (wq ?_)))
 have he5:(br Sk (⟨r,cE,cK⟩:RcT)).2=0:=by simpa using vz
 obtain⟨S5,hS5⟩:∃z,(br Sk (⟨r,cE,cK⟩:RcT)).1=z:=⟨_,rfl⟩
 rw[hS5] at Ah
 have hok5:SOk S5 (c+300):=hS5 ▸ ((hokk.append hda.1).mono (by omega))
 have hlsn:(S5.recs.length:Int)=(eH S r):=by rw[<-hS5,xq he5,List.length_append,hreck,eH,<-hosF];simp only[List.length_singleton];omega
 have hrow5:S5.rows=Sj.rows:=by rw[<-hS5,(jH _ _).1];exact hrowk
 refine sqs [.m 182 6,.k 183 (vi ((m:Int))),.k 184 (vi 0)] ?_
 refine aa (wp_block ?_)
 refine aQ (fun t_ mz az W=>∃ii:Nat,∃Sl:StM,∃fpl:List Nat,ii<=m/\(∀S9 er,PuA (aF S) (bo (aF S) r.eds) (eH S r) Sl (os.drop ii) S9 er->PuA (aF S) (bo (aF S) r.eds) (eH S r) S5 os S9 er)/\SOk Sl (c+300+4*ii)/\Sl.recs=S5.recs/\(∀p∈Sj.rows,p∈Sl.rows)/\mz=m-ii/\az=⟨(ovr (jv az) [(4,4,2,[]),(23,29,3,[]),(152,184,0,[vi ((ii:Int))]),(0,185,35,[])] t_).toArray,[]⟩/\St w fp [eB bw 31 #[vp sb],eMx kcI pgX P_ 3 iP nW (mW),eMx kcI pgX P_ 3 ij nN (mN),eO 3 1 (.slice OA m oc) m (os.map (Value.int .i64)),eSt sb db Sl fpl] W) (m-0) ?_ ?_
 exact⟨0,S5,Ag,Nat.zero_le _,fun S9 er h=>h,hok5.mono (by omega),rfl,fun p hp=>by rw[hrow5];exact hp,rfl,(by kernel_rfl),Ah.pk [0,2,3,4,6]⟩
 rintro TH a218 TI ⟨ii,Sl,fpl,hii,hcon4,hokl,hrecl,hrowl,rfl,hj_,ru⟩
 refine ovz hj_ fun SX=>?_
 refine wsq [.k 185 (.bool (decide ((ii:Int)<(m:Int))))] ?_
 refine aa (wq (wds (fun Pg ND=>?_) fun Pg ND=>?_))
 ·refine wp_skip (aa (wq (wp_block (wq ?_))))
  obtain⟨nn,hnn⟩:∃n,os[ii]? =some n:=⟨_,List.getElem?_eq_getElem (by omega)⟩
  have hno:nn∈os:=List.mem_of_getElem? hnn
  have hpn:=hpro nn hno
  have hkn:kcI.ok nn:=by constructor<;>omega
  have htk:os.take (ii+1)=os.take ii++[nn]:=by rw[List.take_add_one,hnn];rfl
  obtain⟨pg,hpm,hmN,hpi,hps⟩:=hI9.n nn hno
  obtain⟨pgw,hpmw,hmW,hpiw⟩:=hI9.w nn hno
  have hdr:os.drop ii=nn::os.drop (ii+1):=by rw[List.drop_eq_getElem_cons (by omega)];congr 1;exact(List.getElem?_eq_some_iff.1 hnn).2
  have hlsl:(Sl.recs.length:Int)=(eH S r):=by rw[hrecl];exact hlsn
  have hgl:(⟨(((bo (aF S) r.eds) nn).1,(Sl.recs.length:Int),((bo (aF S) r.eds) nn).2.2),pg.A,pg.c⟩:PgR)∈Sj.rows:=by rw[hlsl];have h_:=hps (by simp);obtain⟨p1,p2,p3⟩:=pg;dsimp only at h_;subst h_;exact hpm
  refine sqr ?_
  refine sql (.pointer (some ((ad OA).add ii))) ru (fun cx=>bz (e:=3) (m:=ii) rfl (by kernel_rfl) (by kernel_rfl) (cx.ou 182) (cx.ou 184) (by omega) (by omega) (At.of_own (cx.ri 3 rfl)) (by rw[List.length_map];omega)) ?_
  refine sql (vi nn) ru (fun cx=>ce rfl (by kernel_rfl) (cx.ou 186) (At.cellAd (At.of_own (cx.ri 3 rfl)) ((List.getElem?_map ..).trans (by rw[hnn];rfl)))) ?_
  refine sqp [.m 29 187] ?_
  refine aa (wsq [.m 188 8,.m 189 29] ?_)
  refine sql (.agg #[vi (((bo (aF S) r.eds) nn).1),vi (((bo (aF S) r.eds) nn).2.1),.slice pg.A (((bo (aF S) r.eds) nn).2.2.length) pg.c]) ru (fun cx=>(da (e:=48) (C:=pgX) (K:=kcI) (x:=nn) rfl (cx.ou 188) (cx.ou 189) (CtxV.mx cx (cx.init 2 _ rfl) rfl) (h0:=by kernel_rfl) (hx:=hkn) (hk:=show Program.underlying _ _= _ from by kernel_rfl)).trans (by rw[hmN];rfl)) ?_
  refine bW #[vi 0,vi 0,sn] ru fun B3 TJ NF=>?_
  refine aT (n:=3) 5 #[vi (((bo (aF S) r.eds) nn).1),vi (((bo (aF S) r.eds) nn).2.1),.slice pg.A (((bo (aF S) r.eds) nn).2.2.length) pg.c] NF fun TK NG=>?_
  refine aa (wq ?_)
  obtain⟨⟨hrw4,hrr4⟩,mb4,RA4,rc4,EA4,ec4,ib4,tb4,fpd4,hv229_⟩:=NG.u4.unf
  have hntl:=hokl.nt
  refine sqr (am 10 hv229_ ?_)
  refine sqp [.k 192 (vp sb),.k 193 (po sb 4)] ?_
  refine am 0 hv229_ ?_
  refine sqp [.k 195 (vi ((Sl.recs.length:Int))),.k 196 (po B3 1)] ?_
  refine aT (n:=1) 14 #[vi (((bo (aF S) r.eds) nn).1),vi ((Sl.recs.length:Int)),.slice pg.A (((bo (aF S) r.eds) nn).2.2.length) pg.c] hv229_ fun TL m9=>?_
  refine aa (wq (wsq [.m 197 7,.m 198 29] ?_))
  refine sql (.agg #[vi ((aF S nn).1),vi ((aF S nn).2.1),.slice pgw.A ((aF S nn).2.2.length) pgw.c]) m9 (fun cx=>(da (e:=48) (C:=pgX) (K:=kcI) (x:=nn) rfl (cx.ou 197) (cx.ou 198) (CtxV.mx cx (cx.init 11 _ rfl) rfl) (h0:=by kernel_rfl) (hx:=hkn) (hk:=show Program.underlying _ _= _ from by kernel_rfl)).trans (by rw[hmW];rfl)) ?_
  refine sql (vi ((aF S nn).1)) m9 (fun cx=>l5 rfl (cx.ou 199) (fun _=>by kernel_rfl)) ?_
  refine sqp [.k 201 (.bool (((aF S nn).1) != 0)),.m 202 201] ?_
  refine d3 202 [203,204,205] ?_ rfl (fun hq=>?_) ?_
  rotate_left
  refine sqp [.k 203 (vp B3)] ?_
  refine am 14 m9 ?_
  refine sqp [.k 205 (.bool ((((bo (aF S) r.eds) nn).1)==0))] ?_
  exact sqe
  refine c7 ?_
  refine sqp [sPa 206 (((aF S nn).1) != 0) ((((bo (aF S) r.eds) nn).1)==0)] ?_
  refine aa (wbs (fun vA=>?_) fun vA=>?_)
  have vC:=vA
  simp only[zB] at vC
  obtain⟨Rf,Rg⟩:=vC
  refine sqr (am 10 m9 ?_)
  refine sqp [.k 208 (vp sb),.k 209 (po sb 7)] ?_
  refine am 0 m9 ?_
  refine sqp [.m 211 29] ?_
  refine sqc (eMx kcI ecB P_ 3 tb4 ((mzP Sl.told nn Sl.nt)) (cd Sl.told nn (some false))) 8 m9 (by
    refine svA fun o d W X cx=>?_
    exact gy (e:=4) (v:=false) (.inl rfl) (cx.ou 210) (show o _=Kc.enc kcI nn from(cx.ou 211)) (show o _=Ec.enc ecB false from(cx.co _)) cx (cx.init 8 _ rfl) rfl (trivial) (by omega) (hkn) rfl rfl rfl (fun _ _ _ _ _=>id) (hk:=show Program.underlying _ _= _ from by kernel_rfl)) fun TM NH=>?_
  refine aa (wq ?_)
  obtain⟨fp254_,hk254_⟩:=St.stf (S:=(eK Sl nn false)) (NH) (hrw4) (hrr4)
  obtain⟨Sx,hSx⟩:∃z,(eK Sl nn false)=z:=⟨_,rfl⟩
  have hxi:(if (aF S nn).1≠0/\((bo (aF S) r.eds) nn).1=0 then eK Sl nn false else Sl)=Sx:=by rw[<-hSx];exact if_pos (by have h_:=vA;simpa using h_)
  have hokx:SOk Sx (c+300+4*ii+1):=hSx ▸ hokl.told nn false
  have hxrec:Sx.recs=Sl.recs:=by cases hSx;rfl
  have hxrow:∀p∈Sl.rows,p∈Sx.rows:=fun p hp=>by rw[<-hSx];exact hp
  rw[show eSt sb db (eK Sl nn false)=eSt sb db Sx by rw[hSx]] at hk254_
  refine sqr (am 1 hk254_ ?_)
  refine sqp [.m 213 29] ?_
  refine bD 5 3 hk254_ ?_
  refine nv (fun x_=>tZ x_) (fun X_=>X_.fp) (fun er215_258=>vi er215_258) (fun er215_258 Ai=>eSx sb db (fun S2=>ej Sx nn (⟨(((bo (aF S) r.eds) nn).1,(Sl.recs.length:Int),((bo (aF S) r.eds) nn).2.2),pg.A,pg.c⟩:PgR) S2 er215_258) Ai) 0 hk254_ (by
    refine svA fun o d W X cx=>?_
    refine ak.call (rCF (args:=#[vp sb,vi nn,.agg #[vi (((bo (aF S) r.eds) nn).1),vi ((Sl.recs.length:Int)),.slice pg.A (((bo (aF S) r.eds) nn).2.2.length) pg.c]]) cx.sees (dH (cx.ou 212) (cx.ou 213) (cx.ou 214))) ?_
    refine(td sb db Sx nn (⟨(((bo (aF S) r.eds) nn).1,(Sl.recs.length:Int),((bo (aF S) r.eds) nn).2.2),pg.A,pg.c⟩:PgR) (c+300+4*ii+1) _ _ (CtxV.holdF cx (cx.init 0 _ rfl) rfl) (CtxV.ltF cx (cx.init 0 _ rfl) rfl) hokx (by omega) hkn (hxrow _ (hrowl _ hgl))).mono ?_
    rintro e W1 ⟨er4,rfl,fp4,aM⟩
    refine⟨_,rfl,aI (E:=eSt sb db Sx fp254_) [eSx sb db (fun S2=>ej Sx nn (⟨(((bo (aF S) r.eds) nn).1,(Sl.recs.length:Int),((bo (aF S) r.eds) nn).2.2),pg.A,pg.c⟩:PgR) S2 er4) fp4] (cx.init 0 _ rfl) rfl rfl aM (fun q y X' hs hb hv hN=>?_)⟩
    have aH:=(hv 215 rfl).1;have aO:=(hv 215 rfl).2
    exact⟨aH.trans (by rw[aO];exact rfl),(by rw[aO];exact eY ((List.cons.inj hN).1))⟩) fun er215_258 Ai TN NI=>?_
  refine sqp [.m 31 215] ?_
  refine aa (wq ?_)
  obtain⟨S7,hP7,hy260_⟩:=NI.unx
  have hpl:(⟨(((bo (aF S) r.eds) nn).1,(Sl.recs.length:Int),((bo (aF S) r.eds) nn).2.2),pg.A,pg.c⟩:PgR).p=iy (eH S r) ((bo (aF S) r.eds) nn):=by show (_,_,_)=(_,_,_);rw[hlsl]
  have hri:=jI (fun n=>iG hok n) her9 nn
  have hok7:SOk S7 (c+300+4*(ii+1)):=(hokx.put (by rw[hpl];exact lY hri (by have h1:=hokl.recs_len;omega)) hP7).mono (by omega)
  refine sqs [.m 216 31,.k 217 (.bool (er215_258 != 0))] ?_
  refine aa (wbs (fun sd=>?_) fun sd=>?_)
  have NJ:=bne_iff_ne.1 sd
  refine wsq [.m 218 31,.k 4 (vi 0),.m 5 218] ?_
  refine aa (wp_ret (aY (ai (ai (aY (ai ?_))))))
  exact bpr (.tuple #[vi 0,vi er215_258]) (aL results17 rpt rpt) (fL.of (by have h_:=DoQ.put (rt:=(⟨r,cE,cK⟩:RcT)) hda hin hevj ⟨_,hokj⟩ her9 hfit (by rw[<-hosF];exact hai) rfl he5 (by rw[hS5,<-hosF];exact hcon4 _ _ (by rw[hdr];exact PuA.bad hpl (by rw[hxi];exact hP7) (by simpa using sd)));rw[if_neg (by simpa using sd)] at h_;exact h_) (hok7.mono (by omega)) (hy260_.pick [0] (by decide) rfl))
  have NJ:=bne_eq_false_iff_eq.1 sd
  refine wp_skip (aq (aa ?_))
  have hpu0:ej (if (aF S nn).1≠0/\((bo (aF S) r.eds) nn).1=0 then eK Sl nn false else Sl) nn (⟨(((bo (aF S) r.eds) nn).1,(Sl.recs.length:Int),((bo (aF S) r.eds) nn).2.2),pg.A,pg.c⟩:PgR) S7 0:=by rw[hxi];exact yg hP7 (by simpa using sd)
  refine sqs [sI 219 ((ii:Int)+1) (by omega),.m 184 219] ?_
  refine aa ?_
  refine⟨m-((ii+1)),by omega,?_⟩
  exact⟨(ii+1),S7,Ai,by omega,fun S9 er h=>hcon4 S9 er (by rw[hdr];exact PuA.cons hpl hpu0 h),hok7,by rw[hP7.rr.2.1,hxrec];exact hrecl,fun p hp=>hP7.rows p (hxrow p (hrowl p hp)),rfl,(by kernel_rfl),hy260_.pk [1,2,3,4,0]⟩
  have vC:=vA
  simp only[zB] at vC
  refine wp_skip (aa (wq ?_))
  obtain⟨fp269_,hk269_⟩:=St.stf (S:=Sl) (m9) (hrw4) (hrr4)
  obtain⟨Sx,hSx⟩:∃z,Sl=z:=⟨_,rfl⟩
  have hxi:(if (aF S nn).1≠0/\((bo (aF S) r.eds) nn).1=0 then eK Sl nn false else Sl)=Sx:=by rw[<-hSx];exact if_neg (by have h_:=vA;simpa using h_)
  have hokx:SOk Sx (c+300+4*ii+1):=hSx ▸ hokl.mono (by omega)
  have hxrec:Sx.recs=Sl.recs:=by cases hSx;rfl
  have hxrow:∀p∈Sl.rows,p∈Sx.rows:=fun p hp=>by rw[<-hSx];exact hp
  rw[show eSt sb db Sl=eSt sb db Sx by rw[hSx]] at hk269_
  refine sqr (am 1 hk269_ ?_)
  refine sqp [.m 213 29] ?_
  refine bD 5 3 hk269_ ?_
  refine nv (fun x_=>tZ x_) (fun X_=>X_.fp) (fun er215_273=>vi er215_273) (fun er215_273 Aj=>eSx sb db (fun S2=>ej Sx nn (⟨(((bo (aF S) r.eds) nn).1,(Sl.recs.length:Int),((bo (aF S) r.eds) nn).2.2),pg.A,pg.c⟩:PgR) S2 er215_273) Aj) 0 hk269_ (by
    refine svA fun o d W X cx=>?_
    refine ak.call (rCF (args:=#[vp sb,vi nn,.agg #[vi (((bo (aF S) r.eds) nn).1),vi ((Sl.recs.length:Int)),.slice pg.A (((bo (aF S) r.eds) nn).2.2.length) pg.c]]) cx.sees (dH (cx.ou 212) (cx.ou 213) (cx.ou 214))) ?_
    refine(td sb db Sx nn (⟨(((bo (aF S) r.eds) nn).1,(Sl.recs.length:Int),((bo (aF S) r.eds) nn).2.2),pg.A,pg.c⟩:PgR) (c+300+4*ii+1) _ _ (CtxV.holdF cx (cx.init 0 _ rfl) rfl) (CtxV.ltF cx (cx.init 0 _ rfl) rfl) hokx (by omega) hkn (hxrow _ (hrowl _ hgl))).mono ?_
    rintro e W1 ⟨er4,rfl,fp4,aM⟩
    refine⟨_,rfl,aI (E:=eSt sb db Sx fp269_) [eSx sb db (fun S2=>ej Sx nn (⟨(((bo (aF S) r.eds) nn).1,(Sl.recs.length:Int),((bo (aF S) r.eds) nn).2.2),pg.A,pg.c⟩:PgR) S2 er4) fp4] (cx.init 0 _ rfl) rfl rfl aM (fun q y X' hs hb hv hN=>?_)⟩
    have aH:=(hv 215 rfl).1;have aO:=(hv 215 rfl).2
    exact⟨aH.trans (by rw[aO];exact rfl),(by rw[aO];exact eY ((List.cons.inj hN).1))⟩) fun er215_273 Aj TO NK=>?_
  refine sqp [.m 31 215] ?_
  refine aa (wq ?_)
  obtain⟨S7,hP7,hy275_⟩:=NK.unx
  have hpl:(⟨(((bo (aF S) r.eds) nn).1,(Sl.recs.length:Int),((bo (aF S) r.eds) nn).2.2),pg.A,pg.c⟩:PgR).p=iy (eH S r) ((bo (aF S) r.eds) nn):=by show (_,_,_)=(_,_,_);rw[hlsl]
  have hri:=jI (fun n=>iG hok n) her9 nn
  have hok7:SOk S7 (c+300+4*(ii+1)):=(hokx.put (by rw[hpl];exact lY hri (by have h1:=hokl.recs_len;omega)) hP7).mono (by omega)
  refine sqs [.m 216 31,.k 217 (.bool (er215_273 != 0))] ?_
  refine aa (wbs (fun se=>?_) fun se=>?_)
  have NL:=bne_iff_ne.1 se
  refine wsq [.m 218 31,.k 4 (vi 0),.m 5 218] ?_
  refine aa (wp_ret (aY (ai (ai (aY (ai ?_))))))
  exact bpr (.tuple #[vi 0,vi er215_273]) (aL results17 rpt rpt) (fL.of (by have h_:=DoQ.put (rt:=(⟨r,cE,cK⟩:RcT)) hda hin hevj ⟨_,hokj⟩ her9 hfit (by rw[<-hosF];exact hai) rfl he5 (by rw[hS5,<-hosF];exact hcon4 _ _ (by rw[hdr];exact PuA.bad hpl (by rw[hxi];exact hP7) (by simpa using se)));rw[if_neg (by simpa using se)] at h_;exact h_) (hok7.mono (by omega)) (hy275_.pick [0] (by decide) rfl))
  have NL:=bne_eq_false_iff_eq.1 se
  refine wp_skip (aq (aa ?_))
  have hpu0:ej (if (aF S nn).1≠0/\((bo (aF S) r.eds) nn).1=0 then eK Sl nn false else Sl) nn (⟨(((bo (aF S) r.eds) nn).1,(Sl.recs.length:Int),((bo (aF S) r.eds) nn).2.2),pg.A,pg.c⟩:PgR) S7 0:=by rw[hxi];exact yg hP7 (by simpa using se)
  refine sqs [sI 219 ((ii:Int)+1) (by omega),.m 184 219] ?_
  refine aa ?_
  refine⟨m-((ii+1)),by omega,?_⟩
  exact⟨(ii+1),S7,Aj,by omega,fun S9 er h=>hcon4 S9 er (by rw[hdr];exact PuA.cons hpl hpu0 h),hok7,by rw[hP7.rr.2.1,hxrec];exact hrecl,fun p hp=>hP7.rows p (hxrow p (hrowl p hp)),rfl,(by kernel_rfl),hy275_.pk [1,2,3,4,0]⟩
 refine wp_exit (al (al (bf (aa (wq ?_)))))
 obtain⟨⟨hrw5,hrr5⟩,mb5,RA5,rc5,EA5,ec5,ib5,tb5,fpd5,hv284_⟩:=ru.u4.unf
 refine sqr (am 10 hv284_ ?_)
 refine sqp [.k 221 (vp sb),.k 222 (po sb 4)] ?_
 refine am 0 hv284_ ?_
 refine sqp [.k 224 (vi ((Sl.recs.length:Int))),.m 4 224,.k 5 (vi 0)] ?_
 refine aa (wp_ret ?_)
 refine bpr (.tuple #[vi ((Sl.recs.length:Int)),vi 0]) (aL results17 rpt rpt) ?_
 obtain⟨fp292_,hk292_⟩:=St.stf (S:=Sl) (hv284_) (hrw5) (hrr5)
 exact fL.of (by have h_:=DoQ.put (rt:=(⟨r,cE,cK⟩:RcT)) hda hin hevj ⟨_,hokj⟩ her9 hfit (by rw[<-hosF];exact hai) rfl he5 (by rw[hS5,<-hosF];exact hcon4 _ _ (by rw[List.drop_of_length_le (by omega)];exact PuA.nil _));rw[if_pos rfl,<-hlsn,<-hrecl] at h_;exact h_) (hokl.mono (by omega)) (hk292_.pick [0] (by decide) rfl)
end
section
open Go.RowKit Go.Maps Go.ChangeMaps
def kB(x:Int×Nat):Ent:=eB x.2 3 #[.int .i64 x.1]
theorem Mr(h:(eA (l.map kB)).holds W)(hx:x∈l):Blk W x.2 3 #[.int .i64 x.1]:=(h.1 (kB x) (List.mem_map.2 ⟨x,hx,rfl⟩)).1
theorem St.addN{L:List Ent}(h:St w0 bor (L++[eA (l.map kB),kB x]) W):St w0 bor (L++[eA ((x::l).map kB)]) W:=by
 rw[List.map_cons]
 exact St.inA (A:=[]) h
theorem St.anf{L:List Ent}(h:St w0 bor (eA (List.map kB l)::kB x::L) W):St w0 bor (eA (List.map kB (x::l))::L) W:=St.fr (R:=[_,_]) h St.addN
def clV(q:Nat)(x:Int×Nat):Value:= .func (.func 71) #[] #[.pointer (some ⟨q,0,none⟩),.pointer (some ⟨x.2,0,none⟩)]
inductive ClA:StM->List Int->StM->Int->Prop where
 |nil (S:StM):ClA S [] S 0
 |bad {S:StM}{t:BfT}{l:List Int}(ht:t∈S.pool) (he:(aJ S t).2≠0):ClA S (t.n::l) (aJ S t).1 (aJ S t).2
 |cons {S S2:StM}{t:BfT}{l:List Int}{er:Int}(ht:t∈S.pool) (he:(aJ S t).2=0) (hr:ClA (aJ S t).1 l S2 er):ClA S (t.n::l) S2 er
def dB(S:StM)(D:DkM):StM:={S with D:=D}
def ckE(S:StM):StM:={S with frm:=(S.recs.length:Int),ni:=0,im:=fun _=>none}
inductive CkQ (S:StM) (note:ByteArray):StM->Int->Prop where
 |arg (h:60000<note.size):CkQ S note S 1
 |full {q:List RcT}(h:note.size<=60000) (hf:1048576<S.D.log.size+(aA (au note)).size):CkQ S note {S with rr:=q} 31
 |cl {q:List RcT}{ns:List Int}{S1:StM}{er:Int}(h:note.size<=60000) (hf:S.D.log.size+(aA (au note)).size<=1048576) (hns:∀n,n∈ns<->∃t∈S.pool,t.n=n) (hc:ClA {S with rr:=q} ns S1 er) (he:er≠0):CkQ S note S1 er
 |sync {q:List RcT}{ns:List Int}{S1:StM}(h:note.size<=60000) (hf:S.D.log.size+(aA (au note)).size<=1048576) (hns:∀n,n∈ns<->∃t∈S.pool,t.n=n) (hc:ClA {S with rr:=q} ns S1 0) (he:(opD S1.D 0 syD).2≠0):CkQ S note (dB S1 (opD S1.D 0 syD).1) (opD S1.D 0 syD).2
 |app {q:List RcT}{ns:List Int}{S1:StM}(h:note.size<=60000) (hf:S.D.log.size+(aA (au note)).size<=1048576) (hns:∀n,n∈ns<->∃t∈S.pool,t.n=n) (hc:ClA {S with rr:=q} ns S1 0) (h1:(opD S1.D 0 syD).2=0)
   (he:(br (dB S1 (opD S1.D 0 syD).1) (rcI (au note))).2≠0):CkQ S note (br (dB S1 (opD S1.D 0 syD).1) (rcI (au note))).1 (br (dB S1 (opD S1.D 0 syD).1) (rcI (au note))).2
 |flush {q:List RcT}{ns:List Int}{S1 S2:StM}(h:note.size<=60000) (hf:S.D.log.size+(aA (au note)).size<=1048576) (hns:∀n,n∈ns<->∃t∈S.pool,t.n=n) (hc:ClA {S with rr:=q} ns S1 0) (h1:(opD S1.D 0 syD).2=0)
   (h2:br (dB S1 (opD S1.D 0 syD).1) (rcI (au note))=(S2,0)) (he:(opD S2.D 0 flD).2≠0):CkQ S note (dB S2 (opD S2.D 0 flD).1) (opD S2.D 0 flD).2
 |ok {q:List RcT}{ns:List Int}{S1 S2:StM}(h:note.size<=60000) (hf:S.D.log.size+(aA (au note)).size<=1048576) (hns:∀n,n∈ns<->∃t∈S.pool,t.n=n) (hc:ClA {S with rr:=q} ns S1 0) (h1:(opD S1.D 0 syD).2=0)
   (h2:br (dB S1 (opD S1.D 0 syD).1) (rcI (au note))=(S2,0)) (he:(opD S2.D 0 flD).2=0):CkQ S note (ckE (dB S2 (opD S2.D 0 flD).1)) 0
theorem AZ(q2 q5 sb db:Nat)(S:StM)(rt:RcT)(c:Nat)(fp:List Nat)(w:World)(hB:(eSt sb db S fp).holds w)(hlt:∀k∈fp,k<w.heap.size)(h2:Blk w q2 31 #[po sb 0])(n2:q2∉fp)(n5:q5∉fp)(h5:Blk w q5 27 #[.int .i64 rt.r.kind,.int .i64 rt.r.xid,.int .i64 rt.r.tbl,sn,sn,.slice rt.A rt.r.eds.length rt.c,sn,.string rt.r.note])(hok:SOk S c)(hr:bt rt.r=true)(hrt:rt∈S.rr):
  Calls P_ 70 #[po q2 0,po q5 0] w (d5 sb db (br S rt) fp w):=by
 have st1:St w fp [eSt sb db S fp] w:=St.lend hB (dx _ _ _ _) hlt
 go_enter func70,ntmps70
 have aj:=st1
 refine wsq [.k 2 (vi 0)] ?_
 refine aa (wq (sqr ?_))
 refine sql (vp sb) aj (fun cx=>rL1 (cx.ou 0) (Blk.cell (h2.upd cx.upd n2) 0)) ?_
 refine sql (.agg #[vi rt.r.kind,vi rt.r.xid,vi rt.r.tbl,sn,sn,.slice rt.A rt.r.eds.length rt.c,sn,.string rt.r.note]) aj (fun cx=>rLB (n:=8) (cx.ou 1) (h5.upd cx.upd n5) (nle rfl) rfl) ?_
 refine bF (fun X_=>X_.fp) (vi ((br S rt).2)) (fun Ak=>eSt sb db ((br S rt).1) Ak) 0 aj (by
   refine svA fun g h W X cx=>?_
   refine ak.call (rCF (args:=#[vp sb,.agg #[vi rt.r.kind,vi rt.r.xid,vi rt.r.tbl,sn,sn,.slice rt.A rt.r.eds.length rt.c,sn,.string rt.r.note]]) cx.sees (aN (cx.ou 3) (cx.ou 4))) ?_
   refine(ob sb db S rt c _ _ (CtxV.holdF cx (cx.init 0 _ rfl) rfl) (CtxV.ltF cx (cx.init 0 _ rfl) rfl) hok hr hrt).mono ?_
   rintro e W1 ⟨rfl,fp4,aM⟩
   refine⟨_,rfl,aI (E:=eSt sb db S fp) [eSt sb db (br S rt).1 fp4] (cx.init 0 _ rfl) rfl rfl aM (fun f d X' hs hb hv hN=>?_)⟩
   have aH:=(hv 5 rfl).1;have aO:=(hv 5 rfl).2
   exact⟨aH.trans rfl,gR ((List.cons.inj hN).1)⟩) fun Ak W4 aZ=>?_
 refine sqp [.m 2 5] ?_
 exact aa (wp_ret (bpr (vi ((br S rt).2)) (ag results70 rpt) (d5.of (R':=(br S rt)) rfl (aZ.pick [0] (by decide) rfl))))
theorem Ba(q2 q7 sb db:Nat)(S:StM)(A B:List BfT)(t:BfT)(c:Nat)(fp:List Nat)(w:World)(hB:(eSt sb db S fp).holds w)(hlt:∀k∈fp,k<w.heap.size)(h2:Blk w q2 31 #[po sb 0])(n2:q2∉fp)(n7:q7∉fp)(h7:Blk w q7 3 #[.int .i64 t.n])(hok:SOk S c)(hc:c<=900000000)(hAB:S.pool=A++t::B):
  Calls P_ 71 #[po q2 0,po q7 0] w (d5 sb db (aJ S t) fp w):=by
 have st1:St w fp [eSt sb db S fp] w:=St.lend hB (dx _ _ _ _) hlt
 go_enter func71,ntmps71
 have aj:=st1
 refine wsq [.k 2 (vi 0)] ?_
 refine aa (wq (sqr ?_))
 refine sql (vp sb) aj (fun cx=>rL1 (cx.ou 0) (Blk.cell (h2.upd cx.upd n2) 0)) ?_
 refine sql (vi t.n) aj (fun cx=>rL1 (cx.ou 1) (Blk.cell (h7.upd cx.upd n7) 0)) ?_
 refine bF (fun X_=>X_.fp) (vi ((aJ S t).2)) (fun Ak=>eSt sb db ((aJ S t).1) Ak) 0 aj (by
   refine svA fun g h W X cx=>?_
   refine ak.call (rCF (args:=#[vp sb,vi t.n]) cx.sees (aN (cx.ou 3) (cx.ou 4))) ?_
   refine(uu sb db S A B t c _ _ (CtxV.holdF cx (cx.init 0 _ rfl) rfl) (CtxV.ltF cx (cx.init 0 _ rfl) rfl) hok hc hAB).mono ?_
   rintro e W1 ⟨rfl,fp4,aM⟩
   refine⟨_,rfl,aI (E:=eSt sb db S fp) [eSt sb db (aJ S t).1 fp4] (cx.init 0 _ rfl) rfl rfl aM (fun f d X' hs hb hv hN=>?_)⟩
   have aH:=(hv 5 rfl).1;have aO:=(hv 5 rfl).2
   exact⟨aH.trans rfl,gR ((List.cons.inj hN).1)⟩) fun Ak W4 aZ=>?_
 refine sqp [.m 2 5] ?_
 exact aa (wp_ret (bpr (vi ((aJ S t).2)) (ag results71 rpt) (d5.of (R':=(aJ S t)) rfl (aZ.pick [0] (by decide) rfl))))
end
section
open Go.RowKit Go.Maps Go.ChangeMaps
theorem CtxV.apF{ops:Array Oper}{L:List Nat}{a0:Act}{X0:List Ent}{us:List (List Nat)}{D:Nat->(Tmp->Value)->(Tmp->Value)->(Nat->Ent)->Prop}{d:Operand->Value}{e:Tmp->Value}{X:Nat->Ent}{q q':Nat}{E F:Ent}(cx:CtxV ops L a0 w0 bor X0 us D i d e W X)(hX:X q=E)(hX':X q'=F)(hk:k∈E.fp)(hu:(atV us i).contains q=true)(hu':(atV us i).contains q'=true)(hne:q≠q'):k∉F.fp:=by
 subst hX hX'
 exact cx.ap q q' hu hu' hne k hk
theorem xT(b:Nat)(t:TypeId)(c:Array Value):b∈(eB b t c).fp:=List.mem_singleton.2 rfl
theorem Ot(h:x∈l):x.2∈(eA (l.map kB)).fp:=List.mem_flatMap.2 ⟨kB x,List.mem_map.2 ⟨x,h,rfl⟩,xT _ _ _⟩
def ckT(q2 q5 db:Nat):List Value:=[.func (.func 69) #[.pointer (some ⟨db,0,none⟩)] #[],.func (.func 70) #[] #[.pointer (some ⟨q2,0,none⟩),.pointer (some ⟨q5,0,none⟩)],.func (.func 63) #[.pointer (some ⟨db,0,none⟩)] #[]]
def lH(q2 q5 db:Nat)(bs:List (Int×Nat)):List Value:=bs.map (clV q2)++ckT q2 q5 db
theorem ow(q2 q5 db:Nat)(bs:List (Int×Nat)):(lH q2 q5 db bs).length=bs.length+3:=by simp[lH,ckT]
theorem J6(q2 q5 db:Nat)(bs:List (Int×Nat)):∀u∈lH q2 q5 db bs,u.oneCell'=true:=fun u hu=>by
 rcases List.mem_append.1 hu with h|h
 obtain⟨x,_,rfl⟩:=List.mem_map.1 h;rfl
 simp only[ckT,List.mem_cons,List.not_mem_nil,or_false] at h
 rcases h with rfl|rfl|rfl<;>rfl
theorem LU{q2 q5:Nat}(h:bs[i]? =some x):(lH q2 q5 db bs)[i]? =some (clV q2 x):=by
 obtain⟨hi,rfl⟩:=List.getElem?_eq_some_iff.1 h
 rw[lH,List.getElem?_append_left (by simpa using hi),List.getElem?_map,List.getElem?_eq_getElem hi];rfl
theorem Cf{q2 q5:Nat}{j:Nat}(h:i=bs.length+j):(lH q2 q5 db bs)[i]? =(ckT q2 q5 db)[j]? :=by
 subst h
 rw[lH,List.getElem?_append_right (by simp)];simp
theorem Lb{l A B:List BfT}(hd:(l.map BfT.n).Nodup)(h:l=A++t::B)(hn:t.n=n):atM l n=some (some t.blk):=by
 subst h hn;exact lk hd
theorem K0{l:List BfT}{n:Nat}(h:∀x,x∈bs.map Prod.fst<->(∃t∈l,t.n=x)/\x<(n:Int)){t:BfT}(ht:t∈l)(hn:t.n=(n:Int))(b:Nat):∀x,x∈(((n:Int),b)::bs).map Prod.fst<->(∃t∈l,t.n=x)/\x<((n+1:Nat):Int):=fun x=>by
 rw[List.map_cons,List.mem_cons,h x]
 constructor
 rintro(rfl|⟨h1,h2⟩)
 exact⟨⟨t,ht,hn⟩,by omega⟩
 exact⟨h1,by omega⟩
 rintro⟨h1,h2⟩
 by_cases e:x=(n:Int)
 exact .inl e
 exact .inr ⟨h1,by omega⟩
theorem Ko{l:List BfT}{n:Nat}(h:∀x,x∈bs.map Prod.fst<->(∃t∈l,t.n=x)/\x<(n:Int))(hno:∀t∈l,t.n≠(n:Int)):∀x,x∈bs.map Prod.fst<->(∃t∈l,t.n=x)/\x<((n+1:Nat):Int):=fun x=>by
 rw[h x]
 constructor
 rintro⟨h1,h2⟩;exact⟨h1,by omega⟩
 rintro⟨⟨t,h1,h3⟩,h2⟩
 refine⟨⟨t,h1,h3⟩,?_⟩
 have:=hno t h1
 omega
def CkI(S0:StM)(ns:List Int)(note:ByteArray)(i:Nat)(Si:StM):Prop:=
 (i<=ns.length/\∀S2 er,ClA Si (ns.drop i) S2 er->ClA S0 ns S2 er)\/
 (i=ns.length+1/\∃S1,ClA S0 ns S1 0/\(opD S1.D 0 syD).2=0/\Si=dB S1 (opD S1.D 0 syD).1)\/
 (i=ns.length+2/\∃S1,ClA S0 ns S1 0/\(opD S1.D 0 syD).2=0/\br (dB S1 (opD S1.D 0 syD).1) (rcI (au note))=(Si,0))\/
 (i=ns.length+3/\∃S1 S2,ClA S0 ns S1 0/\(opD S1.D 0 syD).2=0/\br (dB S1 (opD S1.D 0 syD).1) (rcI (au note))=(S2,0)/\(opD S2.D 0 flD).2=0/\Si=dB S2 (opD S2.D 0 flD).1)
theorem CkI.ways{S0 Si:StM}{ns:List Int}(h:CkI S0 ns note i Si):
  (i<ns.length/\∀S2 er,ClA Si (ns.drop i) S2 er->ClA S0 ns S2 er)\/(i=ns.length+0/\ClA S0 ns Si 0)\/
  (i=ns.length+1/\∃S1,ClA S0 ns S1 0/\(opD S1.D 0 syD).2=0/\Si=dB S1 (opD S1.D 0 syD).1)\/
  (i=ns.length+2/\∃S1,ClA S0 ns S1 0/\(opD S1.D 0 syD).2=0/\br (dB S1 (opD S1.D 0 syD).1) (rcI (au note))=(Si,0))\/
  (i=ns.length+3/\∃S1 S2,ClA S0 ns S1 0/\(opD S1.D 0 syD).2=0/\br (dB S1 (opD S1.D 0 syD).1) (rcI (au note))=(S2,0)/\(opD S2.D 0 flD).2=0/\Si=dB S2 (opD S2.D 0 flD).1):=by
 rcases h with ⟨h1,h2⟩|h|h|h
 rcases Nat.lt_or_ge i ns.length with h3|h3
 exact .inl ⟨h3,h2⟩
 exact .inr (.inl ⟨by omega,h2 _ _ (by rw[List.drop_of_length_le h3];exact .nil _)⟩)
 exact .inr (.inr (.inl h))
 exact .inr (.inr (.inr (.inl h)))
 exact .inr (.inr (.inr (.inr h)))
theorem ui(S:StM)(t:BfT):(aJ S t).1.pool.map BfT.n=S.pool.map BfT.n/\(aJ S t).1.rr=S.rr/\(aJ S t).1.recs=S.recs:=by
 have hs:∀(l:List BfT) (n:Int),(dh l n clB).map BfT.n=l.map BfT.n:=fun l n=>by
  rw[dh,List.map_map]
  refine List.map_congr_left fun u _=>?_
  show (if u.n=n then clB u else u).n=u.n
  split<;>rfl
 unfold aJ
 split
 unfold bL
 split
 exact⟨rfl,rfl,rfl⟩
 refine⟨?_,rfl,rfl⟩
 show (if _ then dh S.pool t.n clB else S.pool).map BfT.n= _
 split
 exact hs _ _
 rfl
 exact⟨rfl,rfl,rfl⟩
theorem SOk.sync(h:SOk S c):SOk (dB S (opD S.D 0 syD).1) (c+0):=by
 have hsh:∀n,shP (opD S.D 0 syD).1 n=shP S.D n:=fun n=>c5 (P:=fun D'=>shP D' n=shP S.D n) rfl rfl fun _=>by
  show rdP (rdT ((S.D.pgs.map syS).getD n.toNat fO)).1= _
  have e:(S.D.pgs.map syS).getD n.toNat fO=syS (S.D.pgs.getD n.toNat fO):=by
   rw[List.getD,List.getD,List.getElem?_map]
   cases S.D.pgs[n.toNat]? <;>rfl
  rw[e];rfl
 have hws:∀x∈(opD S.D 0 syD).1.pgs,x.ws.length<=c:=c5 (P:=fun D'=>∀x∈D'.pgs,x.ws.length<=c) h.ws h.ws fun _ x hx=>by
  obtain⟨y,_,rfl⟩:=List.mem_map.1 hx
  exact Nat.zero_le _
 have hl:(opD S.D 0 syD).1.pgs.length=S.D.pgs.length:=c5 (P:=fun D'=>D'.pgs.length=S.D.pgs.length) rfl rfl fun _=>List.length_map ..
 have hlog:(opD S.D 0 syD).1.log=S.D.log:=c5 (P:=fun D'=>D'.log=S.D.log) rfl rfl fun _=>rfl
 have hfl:(opD S.D 0 syD).1.fl=S.D.fl:=c5 (P:=fun D'=>D'.fl=S.D.fl) rfl rfl fun _=>rfl
 exact⟨h.bufs,by show (opD S.D 0 syD).1.pgs.length<=400;rw[hl];exact h.pgs,hws,h.time,h.ni,h.nt,h.right,h.nodup,h.len,fun t ht=>by show 0<=t.n/\t.n<((opD S.D 0 syD).1.pgs.length:Int);rw[hl];exact h.keys t ht,h.recs,by show (opD S.D 0 syD).1.log= _;rw[hlog];exact h.log,by show (opD S.D 0 syD).1.log.size<= _;rw[hlog];exact h.lsz,by show (opD S.D 0 syD).1.fl<=(opD S.D 0 syD).1.log.size;rw[hlog,hfl];exact h.fl,fun t ht hd=>by show _=shP (opD S.D 0 syD).1 t.n;rw[hsh];exact h.cl t ht hd⟩
theorem SOk.ckE(h:SOk S c):SOk (ckE S) c:=⟨h.bufs,h.pgs,h.ws,h.time,Nat.zero_le _,h.nt,h.right,h.nodup,h.len,h.keys,h.recs,h.log,h.lsz,h.fl,h.cl⟩
theorem SOk.flush(h:SOk S c):SOk (dB S (opD S.D 0 flD).1) c:=by
 have hp:(opD S.D 0 flD).1.pgs=S.D.pgs:=c5 (P:=fun D'=>D'.pgs=S.D.pgs) rfl rfl fun _=>rfl
 have hlog:(opD S.D 0 flD).1.log=S.D.log:=c5 (P:=fun D'=>D'.log=S.D.log) rfl rfl fun _=>rfl
 have hfl:(opD S.D 0 flD).1.fl<=S.D.log.size:=c5 (P:=fun D'=>D'.fl<=S.D.log.size) h.fl h.fl fun _=>Nat.le_refl _
 exact⟨h.bufs,by show (opD S.D 0 flD).1.pgs.length<=400;rw[hp];exact h.pgs,by show ∀x∈(opD S.D 0 flD).1.pgs,_;rw[hp];exact h.ws,h.time,h.ni,h.nt,h.right,h.nodup,h.len,fun t ht=>by show 0<=t.n/\t.n<((opD S.D 0 flD).1.pgs.length:Int);rw[hp];exact h.keys t ht,h.recs,by show (opD S.D 0 flD).1.log= _;rw[hlog];exact h.log,by show (opD S.D 0 flD).1.log.size<= _;rw[hlog];exact h.lsz,by show (opD S.D 0 flD).1.fl<=(opD S.D 0 flD).1.log.size;rw[hlog];exact hfl,fun t ht hd=>by show _=shP (opD S.D 0 flD).1 t.n;rw[ie hp];exact h.cl t ht hd⟩
theorem Hd{l l':List BfT}(h:l.map BfT.n=l'.map BfT.n)(hn:∃t∈l',t.n=n):∃t∈l,t.n=n:=by
 obtain⟨t,ht,e⟩:=hn
 have h1:n∈l.map BfT.n:=by rw[h];exact List.mem_map.2 ⟨t,ht,e⟩
 exact List.mem_map.1 h1
theorem D4{rt:RcT}(h:(br S rt).2=0)(h2:(br S rt).1=S2):br S rt=(S2,0):=Prod.ext h2 h
def jg(sb db:Nat)(S:StM)(note:ByteArray)(c:Nat)(fp:List Nat)(w:World)(e:Ending)(w':World):Prop:=∃er,e= .returned (.int .i64 er)/\∃fp',St w fp [eSx sb db (fun S2=>CkQ S note S2 er/\SOk S2 (c+500)) fp'] w'
theorem jg.of{sb:Nat}{fp fp':List Nat}{w w':World}(h:CkQ S note S2 er)(ho:SOk S2 (c+500))(hs:St w fp ([]++[eSt sb db S2 fp']) w'):jg sb db S note c fp w (.returned (.int .i64 er)) w':=⟨er,rfl,fp',St.sx (L:=[]) hs ⟨h,ho⟩⟩
end
section
open Go.RowKit Go.Maps Go.ChangeMaps
theorem Tryz.infoFnJ:(Tryz.prog.info? 52).map (fun i=>(i.zero,i.size,i.bytes))=some (some Value.nilFunc,1,8):=by kernel_rfl
theorem tU(sb db:Nat)(S:StM)(note:ByteArray)(c:Nat)(fp:List Nat)(w:World)(hB:(eSt sb db S fp).holds w)(hlt:∀k∈fp,k<w.heap.size)(hok:SOk S c)(hc:c<=800000)(hns:note.size<=9000000):
  Calls P_ 28 #[po sb 0,.string note] w (jg sb db S note c fp w):=by
 have st1:St w fp [eSt sb db S fp] w:=St.lend hB (dx _ _ _ _) hlt
 have hpg:=hok.pgs
 go_enter func28,ntmps28
 have aj:=st1
 refine wq (sqr ?_)
 refine bX #[vp sb] aj fun bw W1 ax=>?_
 refine sqp [.k 4 (vi 0)] ?_
 refine aa (wq (wq (sqr (am 1 ax ?_))))
 refine sqv (.bool false) ax (by
   exact sv0 rfl rfl rfl rfl rfl (fun _ _ _ h=>h) fun g o W X cx=>by
    have IP:g (.tmp 11)=vp sb:=(cx.ou 11)
    simp[go_sem,cx.sees.const,IP]) fun W4 aZ=>?_
 refine sqp [.k 13 (.bool false)] ?_
 refine de 13 [14,15,16] rfl rfl ?_
 refine sqp [.m 14 1,.k 15 (vi ((note.size:Int))),.k 16 (.bool (decide (60000<(note.size:Int))))] ?_
 refine sqp [.k 17 (.bool (decide (60000<(note.size:Int))))] ?_
 refine aa (wds (fun kK pU=>?_) fun kK pU=>?_)
 refine wsq [.k 4 (vi 1)] ?_
 refine aa (wp_ret (ai ?_))
 exact bpr (vi 1) (ag results28 rpt) (jg.of (.arg (by have h_:=kK;simp at h_;omega)) (hok.mono (by omega)) (aZ.pick [0] (by decide) rfl))
 refine wp_skip (aa (wq ?_))
 have hn6:note.size<=60000:=by have h_:=kK;simp at h_;omega
 have hfs:=eV (dz hn6)
 have hn12:=fm aZ 84 3
 simp only[List.cons_append,List.nil_append] at hn12
 obtain⟨S0,fp13_,hS0,hg13_⟩:=St.rRn (r:=(rcI (au note))) hn12.u2
 have hok0:SOk S0 c:=hS0 ▸ hok.rr _
 have hrt0:(rcI (au note))∈S0.rr:=by rw[<-hS0];exact List.mem_append_right _ (List.mem_singleton.2 rfl)
 have hD0:S0.D=S.D:=by rw[<-hS0]
 have hP0:S0.pool=S.pool:=by rw[<-hS0]
 have hlz:=hok0.lsz
 have hpg0:=hok0.pgs
 refine sqs [.m 18 1,.k 19 (.agg #[vi 9,vi 0,vi 0,sn,sn,sn,sn,.string note])] ?_
 refine bW #[vi 0,vi 0,vi 0,sn,sn,sn,sn,.string ByteArray.empty] hg13_ fun hH p5 dl=>?_
 refine aT (n:=8) 2 #[vi 9,vi 0,vi 0,sn,sn,sn,sn,.string note] dl fun qT dt=>?_
 refine aa (wq (wq ?_))
 obtain⟨⟨hrw1,hrr1⟩,mb1,RA1,rc1,EA1,ec1,ib1,tb1,fpd1,hv18_⟩:=dt.unf
 refine bG [0,1,3,7,15,31,0,95,223,511,1023] [[10],[],[],[0],[9],[],[11]] [.c 20 (vp sb),.k 21 (vp sb),.k 22 (vp sb),.c 23 (vp db),.c 24 (.string S0.D.log),.k 25 (vi ((S0.D.log.size:Int))),.c 26 (.agg #[vi 9,vi 0,vi 0,sn,sn,sn,sn,.string note]),.c 27 (.string (aA (au note))),.k 28 (vi (((aA (au note)).size:Int))),tI 29 ((S0.D.log.size:Int)+((aA (au note)).size:Int)) (by omega),.k 30 (.bool (decide (1048576<(S0.D.log.size:Int)+((aA (au note)).size:Int))))] [0,1,2,3,4,5,6,7,8,9,10,11] [0,3,4,6,7] [(20,0,11,31)] hv18_ ?_ fun qV cU=>?_
 refine⟨?_,?_,?_,?_,?_,trivial⟩
 exact xs4 rfl id fun cx=>rL1 (cx.ou 2) ((cx.bi 10 rfl).cell 0)
 exact xs4 rfl id fun cx=>rL1 (cx.an 2) ((cx.bi 0 rfl).cell 0)
 exact xsc rfl id rfl rfl fun cx=>⟨_,ks db S0.D _ (eP (CtxV.holdF cx (cx.init 9 _ rfl) rfl)),(av (cx.an 3))⟩
 exact xs4 rfl id fun cx=>rLB (n:=8) (cx.ou 5) (cx.bi 11 rfl) (nle rfl) rfl
 exact xsc rfl id rfl rfl fun cx=>⟨_,j9 9 0 0 none 0 [] note _ (fun j u h=>by cases j<;>cases h) (by decide) (fun e he=>by cases he) (by omega),(av (cx.an 6))⟩
 refine aa (wds (fun I0 Ph=>?_) fun I0 Ph=>?_)
 refine wsq [.k 4 (vi 31)] ?_
 refine aa (wp_ret (ai ?_))
 refine bpr (vi 31) (ag results28 rpt) ?_
 obtain⟨fp22_,hk22_⟩:=St.stf (S:=S0) (cU) (hrw1) (hrr1)
 exact jg.of (by have h_:=CkQ.full (S:=S) (note:=note) (q:=S.rr++[(rcI (au note))]) hn6 (by rw[<-hD0];have h_:=I0;simp at h_;omega);rw[hS0] at h_;exact h_) (hok0.mono (by omega)) (hk22_.pick [0] (by decide) rfl)
 refine wp_skip (aa (wq ?_))
 have hfit:S.D.log.size+(aA (au note)).size<=1048576:=by rw[<-hD0];have h_:=I0;simp at h_;omega
 refine aB [0,1,3,7,15,0,0,64,192,448,960,2047,4095] [[10],[],[],[0],[],[],[10],[],[],[0]] [[],[],[],[],[],[],[],[],[],[],[],[12]] [] [.c 31 (vp sb),.k 32 (vp sb),.k 33 (vp sb),.c 34 (vp db),.c 35 (.func (.func 69) #[vp db] #[]),.c 36 (.func (.func 70) #[] #[vp bw,vp hH]),.c 37 (vp sb),.k 38 (vp sb),.k 39 (vp sb),.c 40 (vp db),.c 41 (.func (.func 63) #[vp db] #[]),.a 42,.a 6] (fun ix v o X=>match ix with|0|1|2|3|4|5|6|7|8|9|10=>True|11=>v 42= .slice (sA (o 42)) 3 3/\X 12=eO 52 1 (.slice (sA (o 42)) 3 3) 3 ([.func (.func 69) #[vp db] #[],.func (.func 70) #[] #[vp bw,vp hH],.func (.func 63) #[vp db] #[]])|12=>v 6= .slice (sA (o 42)) 3 3|_=>True) [0,1,2,3,4,5,6,7,8,9,10,11,12] [0,3,4,5,6,9,10,11,12] [(6,12,1,7),(24,0,12,36)] cU ?_ ?_ ?_
 exact fun ix _ _ _ _ _ _ hs hb hx h=>match ix,h with
 |11,h=>by dsimp only;rw[<-hs 42 rfl,<-hb 42 rfl,<-hx 12 rfl];exact h
 |12,h=>by dsimp only;rw[<-hs 6 rfl,<-hb 42 rfl];exact h
 |0,_|1,_|2,_|3,_|4,_|5,_|6,_|7,_|8,_|9,_|10,_|_+13,_=>trivial
 refine⟨?_,?_,?_,?_,?_,?_,?_,?_,?_,trivial⟩
 exact xs4 rfl id fun cx=>rL1 (cx.ou 2) ((cx.bi 10 rfl).cell 0)
 exact xs4 rfl id fun cx=>rL1 (cx.an 2) ((cx.bi 0 rfl).cell 0)
 exact sv0 rfl rfl rfl rfl rfl (fun _ _ _ h=>h) fun g o W X cx=>by
  have QQ:g (.tmp 34)=vp db:=(cx.an 3)
  simp[go_sem,Instr.makeFunc,QQ]
 exact sv0 rfl rfl rfl rfl rfl (fun _ _ _ h=>h) fun g o W X cx=>by
  have oF:g (.tmp 2)=vp bw:=(cx.ou 2)
  have qY:g (.tmp 5)=vp hH:=(cx.ou 5)
  simp[go_sem,Instr.makeFunc,oF,qY]
 exact xs4 rfl id fun cx=>rL1 (cx.ou 2) ((cx.bi 10 rfl).cell 0)
 exact xs4 rfl id fun cx=>rL1 (cx.an 8) ((cx.bi 0 rfl).cell 0)
 exact sv0 rfl rfl rfl rfl rfl (fun _ _ _ h=>h) fun g o W X cx=>by
  have QR:g (.tmp 40)=vp db:=(cx.an 9)
  simp[go_sem,Instr.makeFunc,QR]
 refine svA fun g o W X cx=>?_
 have I1:g (.tmp 35)= .func (.func 69) #[vp db] #[]:=(cx.an 4)
 have QS:g (.tmp 36)= .func (.func 70) #[] #[vp bw,vp hH]:=(cx.an 5)
 have zO:g (.tmp 41)= .func (.func 63) #[vp db] #[]:=(cx.an 10)
 exact dA (e:=52) (xs:=[.func (.func 69) #[vp db] #[],.func (.func 70) #[] #[vp bw,vp hH],.func (.func 63) #[vp db] #[]]) rfl (by simp[go_sem,I1,QS,zO]) rfl (by decide) rfl rfl (fun _ _ _ _ _=> .intro)
 exact sv rfl rfl rfl rfl rfl _ (fun _ _ _ h=>h) (fun o y h=>by rw[h 42 (by decide)]) fun g o W X cx=>cS rfl (dTn (cx.an 11)).1
 intro v o X sE hD cu fr aC
 simp only[exq 12 ((dTn (hD 11 lq)).2)] at cu
 simp only[ed 42 ((dTn (hD 11 lq)).1),ed 6 ((dTn (hD 12 lq)))] at aC
 generalize sA (o 42)=NM at cu aC
 clear hD;subst aC;clear v o X
 refine aa (wq (wq ?_))
 obtain⟨fp24_,hk24_⟩:=St.stf (S:=S0) (cu) (hrw1) (hrr1)
 refine sqr (am 1 hk24_ ?_)
 refine sqk (vi ((S0.D.pgs.length:Int))) hk24_ (fun cx=>⟨_,oW sb db S0 _ (j7 (CtxV.holdF cx (cx.init 0 _ rfl) rfl)),(av (cx.ou 43))⟩) fun xD fD=>?_
 refine sqp [.k 45 (vi 0)] ?_
 refine aa (wp_block ?_)
 obtain⟨⟨hrw2,hrr2⟩,mb2,RA2,rc2,EA2,ec2,ib2,tb2,fpd2,hv28_⟩:=fD.unf
 have hA29_:=hv28_.nA kB
 refine aQ (fun t_ mz az W=>∃k:Nat,∃bs:List (Int×Nat),∃m:Nat,∃SA:Option Addr,∃sc:Nat,k<=S0.D.pgs.length/\(∀x,x∈bs.map Prod.fst<->(∃t∈S0.pool,t.n=x)/\x<(k:Int))/\m=bs.length+3/\bs.length<=k/\mz=S0.D.pgs.length-k/\az=⟨(ovr (jv az) [(6,6,0,[.slice SA m sc]),(0,7,1,[]),(37,45,0,[vi ((k:Int))]),(0,46,14,[])] t_).toArray,[]⟩/\St w fp [eB bw 31 #[vp sb],eB hH 27 #[vi 9,vi 0,vi 0,sn,sn,sn,sn,.string note],eB sb 109 #[vp db,vi S0.bufs,.map (some mb2),vi S0.time,.slice RA2 S0.recs.length rc2,.slice EA2 S0.recs.length ec2,.map (some ib2),.map (some tb2),vi S0.frm],eMx kcI ptX P_ 3 mb2 S0.pool.length (atM S0.pool),eA (List.map fx S0.pool),eM (List.map dw S0.rows),eO 27 8 (.slice RA2 S0.recs.length rc2) S0.recs.length (S0.recs.flatMap rcC),eO 3 1 (.slice EA2 S0.recs.length ec2) S0.recs.length ((cL S0.L S0.recs.length).map (Value.int .i64)),eRc S0.rr,eMx kcI ecB P_ 3 ib2 S0.ni (S0.im),eMx kcI ecB P_ 3 tb2 S0.nt (S0.told),eDk db S0.D fpd2,eO 52 1 (.slice SA m sc) m ((lH bw hH db bs)),eA (bs.map kB)] W) (S0.D.pgs.length-0) ?_ ?_
 exact⟨0,[],3,NM,3,Nat.zero_le _,fun x=>⟨fun h=>(by cases h),fun h=>by obtain⟨⟨t,ht,rfl⟩,h2⟩:=h;have:=hok0.keys t ht;omega⟩,rfl,Nat.le_refl _,rfl,(by kernel_rfl),hA29_.pk [11,12,1,2,3,4,5,6,7,8,9,10,13,0]⟩
 rintro UR a30 FM ⟨k,bs,m,SA,sc,hk,hbs,hm,hbk,rfl,hj_,jr⟩
 refine ovz hj_ fun TP=>?_
 refine wsq [.k 46 (.bool (decide ((k:Int)<(S0.D.pgs.length:Int))))] ?_
 refine aa (wq (wds (fun gX kT=>?_) fun gX kT=>?_))
 refine wp_skip (aa (wq (wp_block (wsq [.m 47 45] ?_))))
 refine bW #[vi 0] jr fun ja xA ek=>?_
 refine aT (n:=1) 14 #[vi ((k:Int))] ek fun zH em=>?_
 refine aa (wq ?_)
 have hkn:kcI.ok (k:Int):=by have:=hok0.pgs;constructor<;>omega
 rcases BC S0.pool (k:Int) with hno|⟨A,t,B,hAB,hnt⟩
 refine bG [0,1,3,7,0,31,63] [[0],[],[],[2],[14],[3]] [.c 48 (vp sb),.k 49 (vp sb),.k 50 (po sb 2),.c 51 (.map (some mb2)),.c 52 (vi ((k:Int))),.c 53 (.pointer none),.c 54 (.bool false)] [0,1,2,3,4,5,6,7,8,9,10,11,12,13,14] [0,3,4,5,6] [(48,0,7,55)] em ?_ fun xB dX=>?_
 refine⟨?_,?_,?_,?_,?_,trivial⟩
 exact xs4 rfl id fun cx=>rL1 (cx.ou 2) ((cx.bi 0 rfl).cell 0)
 exact xs4 rfl id fun cx=>rL1 (cx.an 2) ((cx.bi 2 rfl).cell 2)
 exact xs4 rfl id fun cx=>rL1 (cx.ou 7) ((cx.bi 14 rfl).cell 0)
 exact xs4 rfl id fun cx=>(da (e:=115) (C:=ptX) (K:=kcI) (x:=(k:Int)) rfl (cx.an 3) (cx.an 4) (CtxV.mx cx (cx.init 3 _ rfl) rfl) (h0:=by rfl) (hx:=hkn) (hk:=show Program.underlying _ _= _ from by kernel_rfl)).trans (by rw[kG hno];rfl)
 exact sv0 rfl rfl rfl rfl rfl (fun _ _ _ h=>h) fun g o W X cx=>by
  have I2:g (.tmp 53)= .pointer none:=(cx.an 5)
  simp[go_sem,cx.sees.const,I2]
 refine aa (wcf rfl (wp_skip (aq (aa (sqs [sI 59 ((k:Int)+1) (by omega),.m 45 59] ?_)))))
 refine aa ?_
 refine⟨S0.D.pgs.length-((k+1)),by omega,?_⟩
 exact⟨(k+1),bs,m,SA,sc,by omega,Ko hbs hno,hm,by omega,rfl,(by kernel_rfl),dX.pk [0,1,2,3,4,5,6,7,8,9,10,11,12,13]⟩
 refine bG [0,1,3,7,0,31,63] [[0],[],[],[2],[14],[3]] [.c 48 (vp sb),.k 49 (vp sb),.k 50 (po sb 2),.c 51 (.map (some mb2)),.c 52 (vi ((k:Int))),.c 53 (po t.blk 0),.c 54 (.bool true)] [0,1,2,3,4,5,6,7,8,9,10,11,12,13,14] [0,3,4,5,6] [(48,0,7,55)] em ?_ fun qU du=>?_
 refine⟨?_,?_,?_,?_,?_,trivial⟩
 exact xs4 rfl id fun cx=>rL1 (cx.ou 2) ((cx.bi 0 rfl).cell 0)
 exact xs4 rfl id fun cx=>rL1 (cx.an 2) ((cx.bi 2 rfl).cell 2)
 exact xs4 rfl id fun cx=>rL1 (cx.ou 7) ((cx.bi 14 rfl).cell 0)
 exact xs4 rfl id fun cx=>(da (e:=115) (C:=ptX) (K:=kcI) (x:=(k:Int)) rfl (cx.an 3) (cx.an 4) (CtxV.mx cx (cx.init 3 _ rfl) rfl) (h0:=by rfl) (hx:=hkn) (hk:=show Program.underlying _ _= _ from by kernel_rfl)).trans (by rw[Lb hok0.nodup hAB hnt];rfl)
 exact sv0 rfl rfl rfl rfl rfl (fun _ _ _ h=>h) fun g o W X cx=>by
  have I2:g (.tmp 53)=po t.blk 0:=(cx.an 5)
  simp[go_sem,cx.sees.const,I2]
 refine aa (wct rfl (sqr ?_))
 refine sqv (.func (.func 71) #[] #[vp bw,vp ja]) du (by
   exact sv0 rfl rfl rfl rfl rfl (fun _ _ _ h=>h) fun g o W X cx=>by
    have oF:g (.tmp 2)=vp bw:=(cx.ou 2)
    have FY:g (.tmp 7)=vp ja:=(cx.ou 7)
    simp[go_sem,Instr.makeFunc,oF,FY]) fun xC d7=>?_
 refine d9 (fun x_=>sA x_) (fun vD=> .slice vD 1 1) (fun vD=>eO 52 1 (.slice vD 1 1) 1 ([.func (.func 71) #[] #[vp bw,vp ja]])) d7 (by
   refine svA fun g o W X cx=>?_
   have IN:g (.tmp 55)= .func (.func 71) #[] #[vp bw,vp ja]:=(cx.ou 55)
   exact dA (e:=52) (xs:=[.func (.func 71) #[] #[vp bw,vp ja]]) rfl (by simp[go_sem,IN]) rfl (by decide) rfl rfl (fun _ _ _ _ _=> .intro)) fun vD Jl ke=>?_
 refine sqp [.m 57 6] ?_
 refine ti (fun x_=>sA x_) (fun x_=>sC x_) (fun rv ry=> .slice rv (1+m) ry) (fun rv ry=>eO 52 1 (.slice rv (1+m) ry) (1+m) ((lH bw hH db (((k:Int),ja)::bs)))) 15 ke (by
   refine svA fun g o W X cx=>?_
   obtain⟨i0,hi0,hz0,hz1,hz2⟩:=info_parts Tryz.infoFnJ
   refine fj (n:=1) (m:=m) (nm:=1+m) (xs:=[.func (.func 71) #[] #[vp bw,vp ja]]) (news:=(lH bw hH db bs)) (xs':=(lH bw hH db (((k:Int),ja)::bs))) rfl (ty:=123) rfl (by kernel_rfl) hi0 hz0 hz1 hz2 rfl (cx.ou 56) cx (cx.init 15 _ rfl) rfl (cx.ou 57) ((ow _ _ _ _).trans (by omega)) (At.of_own (cx.ri 12 rfl)) (J6 _ _ _ _) (by simp only[maxLen];omega) (by omega) rfl rfl rfl (by omega) (rfl) (fun v y X' hs hb hv hx=>?_)
   exact⟨hv,hx⟩) fun rv ry MO l9=>?_
 refine sqp [.m 6 58] ?_
 refine aq (aa (sqs [sI 59 ((k:Int)+1) (by omega),.m 45 59] ?_))
 refine aa ?_
 have hN47_:=St.anf (x:=((k:Int),ja)) l9.u14.u14
 refine⟨S0.D.pgs.length-((k+1)),by omega,?_⟩
 exact⟨(k+1),(((k:Int),ja)::bs),1+m,rv,ry,by omega,K0 hbs (by rw[hAB];simp) hnt _,by rw[hm];simp only[List.length_cons];omega,by simp only[List.length_cons];omega,rfl,(by kernel_rfl),hN47_.pk [1,2,3,4,5,6,7,8,9,10,11,12,14,0]⟩
 refine wp_exit (al (al (bf (aa (wq (wq ?_))))))
 have hnsS0:∀x,x∈bs.map Prod.fst<->∃t∈S0.pool,t.n=x:=fun x=>⟨fun h=>((hbs x).1 h).1,fun⟨t,ht,hx⟩=>(hbs x).2 ⟨⟨t,ht,hx⟩,by have:=(hok0.keys t ht).2;omega⟩⟩
 have hnsS:∀x,x∈bs.map Prod.fst<->∃t∈S.pool,t.n=x:=by rw[<-hP0];exact hnsS0
 have hbl:(bs.map Prod.fst).length=bs.length:=List.length_map ..
 have hbk4:bs.length<=400:=by have:=hok0.pgs;omega
 obtain⟨fp48_,hk48_⟩:=St.stf (S:=S0) (jr.u11.u11.u11.u11.u11.u11.u11.u11.u11.u11) (hrw2) (hrr2)
 refine sqs [.m 60 6,.k 61 (vi ((m:Int))),.k 62 (vi 0)] ?_
 refine aa (wp_block ?_)
 refine aQ (fun t_ mz az W=>∃i:Nat,∃Si:StM,∃fpi:List Nat,i<=m/\CkI S0 (bs.map Prod.fst) note i Si/\SOk Si (c+i)/\(rcI (au note))∈Si.rr/\Si.pool.map BfT.n=S0.pool.map BfT.n/\mz=m-i/\az=⟨(ovr (jv az) [(4,4,1,[]),(4,9,2,[]),(51,62,0,[vi ((i:Int))]),(0,63,9,[])] t_).toArray,[]⟩/\St w fp [eB bw 31 #[vp sb],eB hH 27 #[vi 9,vi 0,vi 0,sn,sn,sn,sn,.string note],eO 52 1 (.slice SA m sc) m ((lH bw hH db bs)),eA (bs.map kB),eSt sb db Si fpi] W) (m-0) ?_ ?_
 exact⟨0,S0,fp48_,Nat.zero_le _,.inl ⟨Nat.zero_le _,fun S2 er h=>h⟩,hok0,hrt0,rfl,rfl,(by kernel_rfl),hk48_.pk [1,2,3,4,0]⟩
 rintro RZ a52 B1 ⟨i,Si,fpi,hi,hCk,hokI,hrtI,hplI,rfl,hj_,cJ⟩
 refine ovz hj_ fun QT=>?_
 rcases hCk.ways with ⟨hlt_,hcn⟩|⟨hie,hcl⟩|⟨hie,S1,hcl,fQ,hSi⟩|⟨hie,S1,hcl,fQ,hap⟩|⟨hie,S1,S2,hcl,fQ,hap,hf0,hSi⟩
 obtain⟨x,hx⟩:∃x,bs[i]? =some x:=⟨_,List.getElem?_eq_getElem (by omega)⟩
 have hxm:x∈bs:=List.mem_of_getElem? hx
 obtain⟨t,hti,htx⟩:∃t∈Si.pool,t.n=x.1:=Hd hplI ((hnsS0 x.1).1 (List.mem_map.2 ⟨x,hxm,rfl⟩))
 obtain⟨A,B,hAB⟩:=List.append_of_mem hti
 have hdr:(bs.map Prod.fst).drop i=t.n::(bs.map Prod.fst).drop (i+1):=by rw[List.drop_eq_getElem_cons (by omega)];congr 1;rw[htx];exact(List.getElem?_eq_some_iff.1 ((List.getElem?_map ..).trans (by rw[hx];rfl))).2
 refine wq (sqr ?_)
 have hd54:(decide ((i:Int)<(m:Int)))=true:=decide_eq_true (by omega)
 refine sqp [.e 63 (.bool (decide ((i:Int)<(m:Int)))) (.bool true) (congrArg Value.bool hd54)] ?_
 refine aa (wq (wct rfl (wp_skip (aa (wq (wp_block (wq (sqr ?_))))))))
 refine sql (.pointer (some ((ad SA).add i))) cJ (fun cx=>bz (e:=52) (m:=i) rfl (by kernel_rfl) (by kernel_rfl) (cx.ou 60) (cx.ou 62) (by omega) (by omega) (At.of_own (cx.ri 2 rfl)) (by rw[ow];omega)) ?_
 refine sql (.func (.func 71) #[] #[vp bw,po x.2 0]) cJ (fun cx=>rL1 (cx.ou 64) (At.cellAd (At.of_own (cx.ri 2 rfl)) (LU hx))) ?_
 refine sqp [.m 9 65] ?_
 refine aa (wsq [.m 66 9] ?_)
 refine bF (fun X_=>X_.fp) (vi ((aJ Si t).2)) (fun Ds=>eSt sb db ((aJ Si t).1) Ds) 4 cJ (by
   refine svA fun g o W X cx=>?_
   refine ak.call (cD (f:=71) (args:=#[]) (args':=#[vp bw,po x.2 0]) rfl rfl (cx.ou 66) (by kernel_rfl) jc rfl) ?_
   refine(Ba bw x.2 sb db Si A B t (c+i) _ _ (CtxV.holdF cx (cx.init 4 _ rfl) rfl) (CtxV.ltF cx (cx.init 4 _ rfl) rfl) (cx.bi 0 rfl) (CtxV.apF cx (cx.init 0 _ rfl) (cx.init 4 _ rfl) (xT _ _ _) rfl rfl (by decide)) (CtxV.apF cx (cx.init 3 _ rfl) (cx.init 4 _ rfl) (Ot hxm) rfl rfl (by decide)) (by rw[htx];exact Mr (CtxV.holdF cx (cx.init 3 _ rfl) rfl) hxm) hokI (by omega) hAB).mono ?_
   rintro e W1 ⟨rfl,fp4,aM⟩
   refine⟨_,rfl,aI (E:=eSt sb db Si fpi) [eSt sb db (aJ Si t).1 fp4] (cx.init 4 _ rfl) rfl rfl aM (fun v y X' hs hb hv hN=>?_)⟩
   have aH:=(hv 67 rfl).1;have aO:=(hv 67 rfl).2
   exact⟨aH.trans rfl,gR ((List.cons.inj hN).1)⟩) fun Ds FO f6=>?_
 refine sqp [.m 10 67] ?_
 refine aa (wsq [.m 68 10,.k 69 (.bool (((aJ Si t).2) != 0))] ?_)
 refine aa (wbs (fun wD=>?_) fun wD=>?_)
 have Pi:=bne_iff_ne.1 wD
 refine wsq [.m 70 10,.m 4 70] ?_
 refine aa (wp_ret (aY (ai (ai (aY (ai ?_))))))
 exact bpr (vi ((aJ Si t).2)) (ag results28 rpt) (jg.of (CkQ.cl (q:=S.rr++[(rcI (au note))]) (ns:=bs.map Prod.fst) hn6 hfit hnsS (by rw[hS0];exact hcn _ _ (by rw[hdr];exact ClA.bad hti (by simpa using wD))) (by simpa using wD)) ((hokI.clean t hti).mono (by omega)) (f6.pick [4] (by decide) rfl))
 have Pi:=bne_eq_false_iff_eq.1 wD
 refine wp_skip (aq (aa (sqs [sI 71 ((i:Int)+1) (by omega),.m 62 71] ?_)))
 refine aa ?_
 refine⟨m-((i+1)),by omega,?_⟩
 exact⟨(i+1),(aJ Si t).1,Ds,by omega,.inl ⟨by omega,fun S9 er h=>hcn S9 er (by rw[hdr];exact ClA.cons hti (by simpa using wD) h)⟩,(hokI.clean t hti).mono (by omega),by rw[(ui _ _).2.1];exact hrtI,(ui _ _).1.trans hplI,rfl,(by kernel_rfl),f6.pk [0,1,2,3,4]⟩
 refine wq (sqr ?_)
 have hd69:(decide ((i:Int)<(m:Int)))=true:=decide_eq_true (by omega)
 refine sqp [.e 63 (.bool (decide ((i:Int)<(m:Int)))) (.bool true) (congrArg Value.bool hd69)] ?_
 refine aa (wq (wct rfl (wp_skip (aa (wq (wp_block (wq (sqr ?_))))))))
 refine sql (.pointer (some ((ad SA).add i))) cJ (fun cx=>bz (e:=52) (m:=i) rfl (by kernel_rfl) (by kernel_rfl) (cx.ou 60) (cx.ou 62) (by omega) (by omega) (At.of_own (cx.ri 2 rfl)) (by rw[ow];omega)) ?_
 refine sql (.func (.func 69) #[vp db] #[]) cJ (fun cx=>ce rfl (by kernel_rfl) (cx.ou 64) (At.cellAd (At.of_own (cx.ri 2 rfl)) (Cf (j:=0) (by omega)))) ?_
 refine sqp [.m 9 65] ?_
 refine aa (wq ?_)
 obtain⟨⟨hrw1,hrr1⟩,mb1,RA1,rc1,EA1,ec1,ib1,tb1,fpd1,hv73_⟩:=cJ.u4.unf
 have hlzi:=hokI.lsz
 have hpgi:=hokI.pgs
 refine sqs [.m 66 9] ?_
 refine bF (fun X_=>X_.fp) (vi ((opD Si.D 0 syD).2)) (fun F3=>eDk db ((opD Si.D 0 syD).1) F3) 9 hv73_ (by
   refine svA fun g o W X cx=>?_
   refine ak.call (cD (f:=69) (args:=#[]) (args':=#[vp db]) rfl rfl (cx.ou 66) (by kernel_rfl) jc rfl) ?_
   refine(Ei db Si.D _ _ (CtxV.holdF cx (cx.init 9 _ rfl) rfl) (CtxV.ltF cx (cx.init 9 _ rfl) rfl) (fun x hx=>Nat.le_trans (hokI.ws x hx) (by omega)) hpgi).mono ?_
   rintro e W1 ⟨rfl,fp4,aM⟩
   refine⟨_,rfl,aI (E:=eDk db Si.D fpd1) [eDk db (opD Si.D 0 syD).1 fp4] (cx.init 9 _ rfl) rfl rfl aM (fun v y X' hs hb hv hN=>?_)⟩
   have aH:=(hv 67 rfl).1;have aO:=(hv 67 rfl).2
   exact⟨aH.trans rfl,cF ((List.cons.inj hN).1)⟩) fun F3 M6 kX=>?_
 refine sqp [.m 10 67] ?_
 refine aa (wsq [.m 68 10,.k 69 (.bool (((opD Si.D 0 syD).2) != 0))] ?_)
 refine aa (wbs (fun Al=>?_) fun Al=>?_)
 have Pj:=bne_iff_ne.1 Al
 refine wsq [.m 70 10,.m 4 70] ?_
 refine aa (wp_ret (aY (ai (ai (aY (ai ?_))))))
 refine bpr (vi ((opD Si.D 0 syD).2)) (ag results28 rpt) ?_
 obtain⟨fp82_,hk82_⟩:=St.stf (S:=(dB Si (opD Si.D 0 syD).1)) (kX) (hrw1) (hrr1)
 exact jg.of (CkQ.sync (q:=S.rr++[(rcI (au note))]) (ns:=bs.map Prod.fst) hn6 hfit hnsS (by rw[hS0];exact hcl) (by simpa using Al)) (hokI.sync.mono (by omega)) (hk82_.pick [0] (by decide) rfl)
 have Pj:=bne_eq_false_iff_eq.1 Al
 refine wp_skip (aq (aa (sqs [sI 71 ((i:Int)+1) (by omega),.m 62 71] ?_)))
 refine aa ?_
 obtain⟨fp85_,hk85_⟩:=St.stf (S:=(dB Si (opD Si.D 0 syD).1)) (kX) (hrw1) (hrr1)
 refine⟨m-((i+1)),by omega,?_⟩
 exact⟨(i+1),(dB Si (opD Si.D 0 syD).1),fp85_,by omega,.inr (.inl ⟨by omega,Si,hcl,by simpa using Al,rfl⟩),hokI.sync.mono (by omega),hrtI,hplI,rfl,(by kernel_rfl),hk85_.pk [1,2,3,4,0]⟩
 refine wq (sqr ?_)
 have hd87:(decide ((i:Int)<(m:Int)))=true:=decide_eq_true (by omega)
 refine sqp [.e 63 (.bool (decide ((i:Int)<(m:Int)))) (.bool true) (congrArg Value.bool hd87)] ?_
 refine aa (wq (wct rfl (wp_skip (aa (wq (wp_block (wq (sqr ?_))))))))
 refine sql (.pointer (some ((ad SA).add i))) cJ (fun cx=>bz (e:=52) (m:=i) rfl (by kernel_rfl) (by kernel_rfl) (cx.ou 60) (cx.ou 62) (by omega) (by omega) (At.of_own (cx.ri 2 rfl)) (by rw[ow];omega)) ?_
 refine sql (.func (.func 70) #[] #[vp bw,vp hH]) cJ (fun cx=>ce rfl (by kernel_rfl) (cx.ou 64) (At.cellAd (At.of_own (cx.ri 2 rfl)) (Cf (j:=1) (by omega)))) ?_
 refine sqp [.m 9 65] ?_
 refine aa (wsq [.m 66 9] ?_)
 refine bF (fun X_=>X_.fp) (vi ((br Si (rcI (au note))).2)) (fun Dt=>eSt sb db ((br Si (rcI (au note))).1) Dt) 4 cJ (by
   refine svA fun g o W X cx=>?_
   refine ak.call (cD (f:=70) (args:=#[]) (args':=#[vp bw,vp hH]) rfl rfl (cx.ou 66) (by kernel_rfl) jc rfl) ?_
   refine(AZ bw hH sb db Si (rcI (au note)) (c+i) _ _ (CtxV.holdF cx (cx.init 4 _ rfl) rfl) (CtxV.ltF cx (cx.init 4 _ rfl) rfl) (cx.bi 0 rfl) (CtxV.apF cx (cx.init 0 _ rfl) (cx.init 4 _ rfl) (xT _ _ _) rfl rfl (by decide)) (CtxV.apF cx (cx.init 1 _ rfl) (cx.init 4 _ rfl) (xT _ _ _) rfl rfl (by decide)) (cx.bi 1 rfl) hokI (dz hn6) hrtI).mono ?_
   rintro e W1 ⟨rfl,fp4,aM⟩
   refine⟨_,rfl,aI (E:=eSt sb db Si fpi) [eSt sb db (br Si (rcI (au note))).1 fp4] (cx.init 4 _ rfl) rfl rfl aM (fun v y X' hs hb hv hN=>?_)⟩
   have aH:=(hv 67 rfl).1;have aO:=(hv 67 rfl).2
   exact⟨aH.trans rfl,gR ((List.cons.inj hN).1)⟩) fun Dt M0 md=>?_
 refine sqp [.m 10 67] ?_
 refine aa (wsq [.m 68 10,.k 69 (.bool (((br Si (rcI (au note))).2) != 0))] ?_)
 refine aa (wbs (fun kJ=>?_) fun kJ=>?_)
 have Dq:=bne_iff_ne.1 kJ
 refine wsq [.m 70 10,.m 4 70] ?_
 refine aa (wp_ret (aY (ai (ai (aY (ai ?_))))))
 exact bpr (vi ((br Si (rcI (au note))).2)) (ag results28 rpt) (jg.of (by have h_:=CkQ.app (q:=S.rr++[(rcI (au note))]) (ns:=bs.map Prod.fst) hn6 hfit hnsS (by rw[hS0];exact hcl) fQ (by rw[<-hSi];simpa using kJ);rw[<-hSi] at h_;exact h_) ((hokI.append (dz hn6)).mono (by omega)) (md.pick [4] (by decide) rfl))
 have Dq:=bne_eq_false_iff_eq.1 kJ
 refine wp_skip (aq (aa (sqs [sI 71 ((i:Int)+1) (by omega),.m 62 71] ?_)))
 refine aa ?_
 refine⟨m-((i+1)),by omega,?_⟩
 exact⟨(i+1),(br Si (rcI (au note))).1,Dt,by omega,.inr (.inr (.inl ⟨by omega,S1,hcl,fQ,by rw[<-hSi];exact D4 (by simpa using kJ) rfl⟩)),(hokI.append (dz hn6)).mono (by omega),by rw[(jH _ _).2.1];exact hrtI,by rw[(jH _ _).2.2.2.2.1];exact hplI,rfl,(by kernel_rfl),md.pk [0,1,2,3,4]⟩
 refine wq (sqr ?_)
 have hd102:(decide ((i:Int)<(m:Int)))=true:=decide_eq_true (by omega)
 refine sqp [.e 63 (.bool (decide ((i:Int)<(m:Int)))) (.bool true) (congrArg Value.bool hd102)] ?_
 refine aa (wq (wct rfl (wp_skip (aa (wq (wp_block (wq (sqr ?_))))))))
 refine sql (.pointer (some ((ad SA).add i))) cJ (fun cx=>bz (e:=52) (m:=i) rfl (by kernel_rfl) (by kernel_rfl) (cx.ou 60) (cx.ou 62) (by omega) (by omega) (At.of_own (cx.ri 2 rfl)) (by rw[ow];omega)) ?_
 refine sql (.func (.func 63) #[vp db] #[]) cJ (fun cx=>ce rfl (by kernel_rfl) (cx.ou 64) (At.cellAd (At.of_own (cx.ri 2 rfl)) (Cf (j:=2) (by omega)))) ?_
 refine sqp [.m 9 65] ?_
 refine aa (wq ?_)
 obtain⟨⟨hrw1,hrr1⟩,mb1,RA1,rc1,EA1,ec1,ib1,tb1,fpd1,hv106_⟩:=cJ.u4.unf
 have hlzi:=hokI.lsz
 have hpgi:=hokI.pgs
 refine sqs [.m 66 9] ?_
 refine bF (fun X_=>X_.fp) (vi ((opD Si.D 0 flD).2)) (fun B5=>eDk db ((opD Si.D 0 flD).1) B5) 9 hv106_ (by
   refine svA fun g o W X cx=>?_
   refine ak.call (cD (f:=63) (args:=#[]) (args':=#[vp db]) rfl rfl (cx.ou 66) (by kernel_rfl) jc rfl) ?_
   refine(lS db Si.D _ _ (CtxV.holdF cx (cx.init 9 _ rfl) rfl) (CtxV.ltF cx (cx.init 9 _ rfl) rfl) (by omega)).mono ?_
   rintro e W1 ⟨rfl,fp4,aM⟩
   refine⟨_,rfl,aI (E:=eDk db Si.D fpd1) [eDk db (opD Si.D 0 flD).1 fp4] (cx.init 9 _ rfl) rfl rfl aM (fun v y X' hs hb hv hN=>?_)⟩
   have aH:=(hv 67 rfl).1;have aO:=(hv 67 rfl).2
   exact⟨aH.trans rfl,cF ((List.cons.inj hN).1)⟩) fun B5 Qz oH=>?_
 refine sqp [.m 10 67] ?_
 refine aa (wsq [.m 68 10,.k 69 (.bool (((opD Si.D 0 flD).2) != 0))] ?_)
 refine aa (wbs (fun vE=>?_) fun vE=>?_)
 have NN:=bne_iff_ne.1 vE
 refine wsq [.m 70 10,.m 4 70] ?_
 refine aa (wp_ret (aY (ai (ai (aY (ai ?_))))))
 refine bpr (vi ((opD Si.D 0 flD).2)) (ag results28 rpt) ?_
 obtain⟨fp115_,hk115_⟩:=St.stf (S:=(dB Si (opD Si.D 0 flD).1)) (oH) (hrw1) (hrr1)
 exact jg.of (CkQ.flush (q:=S.rr++[(rcI (au note))]) (ns:=bs.map Prod.fst) hn6 hfit hnsS (by rw[hS0];exact hcl) fQ hap (by simpa using vE)) (hokI.flush.mono (by omega)) (hk115_.pick [0] (by decide) rfl)
 have NN:=bne_eq_false_iff_eq.1 vE
 refine wp_skip (aq (aa (sqs [sI 71 ((i:Int)+1) (by omega),.m 62 71] ?_)))
 refine aa ?_
 obtain⟨fp118_,hk118_⟩:=St.stf (S:=(dB Si (opD Si.D 0 flD).1)) (oH) (hrw1) (hrr1)
 refine⟨m-((i+1)),by omega,?_⟩
 exact⟨(i+1),(dB Si (opD Si.D 0 flD).1),fp118_,by omega,.inr (.inr (.inr ⟨by omega,S1,Si,hcl,fQ,hap,by simpa using vE,rfl⟩)),hokI.flush.mono (by omega),hrtI,hplI,rfl,(by kernel_rfl),hk118_.pk [1,2,3,4,0]⟩
 refine wq (sqr ?_)
 have hd120:(decide ((i:Int)<(m:Int)))=false:=decide_eq_false (by omega)
 refine sqp [.e 63 (.bool (decide ((i:Int)<(m:Int)))) (.bool false) (congrArg Value.bool hd120)] ?_
 refine aa (wq (wcf rfl (wp_exit (al (al (bf (aa (wq ?_))))))))
 obtain⟨⟨hrw9,hrr9⟩,mb9,RA9,rc9,EA9,ec9,ib9,tb9,fpd9,hv121_⟩:=cJ.u4.unf
 have hni9:=hokI.ni
 refine aB [0,0,2,6,14,30,63,127,255] [[10],[10],[],[],[0],[],[],[],[0]] [[],[],[],[],[],[],[],[],[14]] [[],[],[],[],[],[],[],[],[0]] [.c 72 (vp sb),.c 73 (vp sb),.k 74 (vp sb),.k 75 (po sb 4),.c 76 (.slice RA9 Si.recs.length rc9),.k 77 (vi ((Si.recs.length:Int))),.k 78 (vp sb),.k 79 (po sb 8),.n] (fun ix v o X=>match ix with|0|1|2|3|4|5|6|7=>True|8=>X 14=eB sb 109 #[vp db,vi Si.bufs,.map (some mb9),vi Si.time,.slice RA9 Si.recs.length rc9,.slice EA9 Si.recs.length ec9,.map (some ib9),.map (some tb9),vi ((Si.recs.length:Int))]|_=>True) [1,2,3,4,5,6,7,8,9,10,11,12,13,14] [0,1,4,8] [(72,0,8,80)] hv121_ ?_ ?_ ?_
 exact fun ix _ _ _ _ _ _ hs hb hx h=>match ix,h with
 |8,h=>by dsimp only;rw[<-hx 14 rfl];exact h
 |0,_|1,_|2,_|3,_|4,_|5,_|6,_|7,_|_+9,_=>trivial
 refine⟨?_,?_,?_,?_,trivial⟩
 exact xs4 rfl id fun cx=>rL1 (cx.ou 2) ((cx.bi 10 rfl).cell 0)
 exact xs4 rfl id fun cx=>rL1 (cx.ou 2) ((cx.bi 10 rfl).cell 0)
 exact xs4 rfl id fun cx=>rL1 (cx.an 3) ((cx.bi 0 rfl).cell 4)
 refine svA fun g o W X cx=>?_
 exact dVS (n:=1) rfl (cx.an 7) (cx.an 5) cx (cx.init 0 _ rfl) rfl (nle rfl) rfl rfl rfl (fun _ _ _ _ _=>id)
 intro v o X TQ hD vF fr aC
 simp only[exq 14 ((dTn (hD 8 lq)))] at vF
 clear hD;subst aC;clear v o X
 refine aa (wq (sqr (am 9 vF ?_)))
 refine sqp [.k 81 (vp sb),.k 82 (po sb 6)] ?_
 refine am 13 vF ?_
 refine sqc (eMx kcI ecB P_ 3 ib9 0 (fun _=>none)) 6 vF (by
   refine svA fun g o W X cx=>?_
   exact Cs (e:=4) (d:=0) rfl (cx.ou 83) cx (cx.init 6 _ rfl) rfl rfl rfl (fun _ _ _ _ _=>id)) fun TR NO=>?_
 refine aa (wsq [.k 4 (vi 0)] ?_)
 refine aa (wp_ret ?_)
 refine bpr (vi 0) (ag results28 rpt) ?_
 obtain⟨fp129_,hk129_⟩:=St.stf (S:=(ckE Si)) (NO.u9.c0.u9.c0.u9.c0.u9.c0.u9) (hrw9) (hrr9)
 exact jg.of (by rw[hSi];exact CkQ.ok (q:=S.rr++[(rcI (au note))]) (ns:=bs.map Prod.fst) hn6 hfit hnsS (by rw[hS0];exact hcl) fQ hap hf0) (hokI.ckE.mono (by omega)) hk129_
end
section
open Go.RowKit
structure WI (S:StM) (told:Int->Bool):Prop where
 cur:∀n:Int,0<=n->n<(S.D.pgs.length:Int)->aF S n=af S.L n
 im:∀n:Int,0<=n->n<(S.D.pgs.length:Int)->(S.im n).getD false=eT S.L n
 frm:S.frm=(be S.L:Int)
 told:∀n:Int,0<=n->n<(S.D.pgs.length:Int)->(S.told n).getD false=told n
theorem Ev.L(h:Ev S S'):S'.L=S.L:=by show S'.recs.map RcT.r= _;rw[h.recs]
theorem Ev.wi{told:Int->Bool}(h:Ev S S')(hw:WI S told):WI S' told:=
 ⟨fun n h0 h1=>by rw[h.L,h.cur n h0];exact hw.cur n h0 (by rw[<-h.len];exact h1),fun n h0 h1=>by rw[h.L,h.im];exact hw.im n h0 (by rw[<-h.len];exact h1),by rw[h.L,h.frm];exact hw.frm,fun n h0 h1=>by rw[h.told];exact hw.told n h0 (by rw[<-h.len];exact h1)⟩
def dy(L:List RecM)(os:List Int):List RecM:=(os.filter fun n=>!eT L n).map fun n=>⟨8,0,n,[],aG (af L n)⟩
def rfL(L:List RecM)(r:RecM):List RecM:=L++dy L (ck r.eds)++[r]
def rfE(pages:Nat)(L:List RecM)(r:RecM):Int:=
 if bt r=false\/r.kind=8\/r.kind=9 then 1 else if r.eds.any (d8 pages)=true then 22 else if cV (af L) r.eds≠0 then cV (af L) r.eds else if 1048576<szF L+((aA r).size+szF (dy L (ck r.eds))) then 31 else 0
def rfT(told:Int->Bool)(L:List RecM)(r:RecM):Int->Bool:=fun n=>if n∈ck r.eds/\(af L n).1≠0/\(bo (af L) r.eds n).1=0 then false else told n
def rfD(pages:Nat)(L:List RecM)(told:Int->Bool)(r:RecM):List RecM×Int×Int×(Int->Bool):=if rfE pages L r=0 then (rfL L r,((rfL L r).length:Int),0,rfT told L r) else (L,0,rfE pages L r,told)
theorem Cw(l:List EdT):∀(N M:Int->PgS),(∀e∈l,N e.1=M e.1)->cV N l=cV M l:=by
 induction l with
 |nil=>intro N M _;rfl
 |cons e l ih=>
  intro N M h
  rw[cV,cV,h e (by simp)]
  split
  refine ih _ _ fun x hx=>?_
  rw[eW,eW]
  rw[h e (by simp),h x (by simp[hx])]
  rfl
theorem uQ(l:List EdT)(n:Int):∀(N M:Int->PgS),(∀e∈l,N e.1=M e.1)->N n=M n->bo N l n=bo M l n:=by
 induction l with
 |nil=>intro N M _ h;exact h
 |cons e l ih=>
  intro N M h hn
  refine ih _ _ (fun x hx=>?_) ?_
  rw[eW,eW];rw[h e (by simp),h x (by simp[hx])]
  rw[eW,eW];rw[h e (by simp),hn]
theorem G7{p q:PgS}{e:EdT}(hp:bI p)(hq:bI q)(h1:p.1=q.1)(h2:p.2.2=q.2.2)(ha:0<=a/\a<=2147483647)(hb:0<=b/\b<=2147483647):doE p e a=doE q e b:=by
 have e1:=hp.1
 have e2:=hq.1
 have n1:¬(a<0\/2147483647<a):=by omega
 have n2:¬(b<0\/2147483647<b):=by omega
 rw[h2] at e1
 simp only[doE,di,h2,e1,e2,if_neg n1,if_neg n2,h2,Bool.true_eq_false,if_false]
theorem zz{p q:PgS}{e:EdT}(h1:p.1=q.1)(h2:p.2.2=q.2.2):(doV p e a).1=(doV q e b).1/\(doV p e a).2.2=(doV q e b).2.2:=by
 unfold doV
 split
 exact⟨rfl,rfl⟩
 exact⟨h1,by rw[h2]⟩
theorem Mf(hl:0<=lsn/\lsn<=2147483647):∀(l:List EdT) (N:Int->PgS) (p:PgS),(∀m,bI (N m))->bI p->p.1=(N n).1->p.2.2=(N n).2.2->cV N l=0->
  (bj n lsn p l).1=(bo N l n).1/\(bj n lsn p l).2.2=(bo N l n).2.2/\((∃e∈l,e.1=n)->(bj n lsn p l).2.1=lsn):=by
 intro l
 induction l with
 |nil=>intro N p _ _ h1 h2 _;exact⟨h1,h2,fun⟨e,he,_⟩=>by cases he⟩
 |cons e l ih=>
  intro N p hN hp h1 h2 h0
  rw[cV] at h0
  split at h0
  rename_i hd
  have hN2:∀m,bI (eW N e m):=fun m=>by
   unfold eW
   split
   exact kC hd
   exact hN m
  by_cases he:e.1=n
  have hd2:doE p e lsn=0:=by rw[G7 hp (hN n) h1 h2 hl (b:=1) (by omega),<-he];exact hd
  have e1:edA n lsn p e=doV p e lsn:=if_pos ⟨he,hd2⟩
  have e2:eW N e n=doV (N n) e 1:=by rw[eW];rw[if_pos he.symm,he]
  obtain⟨a,b,c⟩:=ih (eW N e) (doV p e lsn) hN2 (kC hd2) (by rw[e2];exact(zz h1 h2).1) (by rw[e2];exact(zz h1 h2).2) h0
  show (bj n lsn (edA n lsn p e) l).1= _/\(bj n lsn (edA n lsn p e) l).2.2= _/\(_->(bj n lsn (edA n lsn p e) l).2.1= _)
  rw[e1]
  refine⟨a,b,fun _=>?_⟩
  by_cases hx:∃x∈l,x.1=n
  exact c hx
  rw[s8 (fun x hx1 hx2=>hx ⟨x,hx1,hx2⟩),J8]
  have e1:edA n lsn p e=p:=if_neg (fun h=>he h.1)
  have e2:eW N e n=N n:=by rw[eW];rw[if_neg (fun h=>he h.symm)]
  obtain⟨a,b,c⟩:=ih (eW N e) p hN2 hp (by rw[e2];exact h1) (by rw[e2];exact h2) h0
  show (bj n lsn (edA n lsn p e) l).1= _/\(bj n lsn (edA n lsn p e) l).2.2= _/\(_->(bj n lsn (edA n lsn p e) l).2.1= _)
  rw[e1]
  refine⟨a,b,fun⟨x,hx,hn⟩=>?_⟩
  rcases List.mem_cons.1 hx with rfl|hx
  exact absurd hn he
  exact c ⟨x,hx,hn⟩
  rename_i hd;exact absurd h0 hd
theorem GZ{L:List RecM}(hL:(L.length:Int)+1<=2147483647)(h0:cV (af L) r.eds=0)(hn:n∈ck r.eds):af (L++[r]) n=iy ((L.length:Int)+1) (bo (af L) r.eds n):=by
 obtain⟨a,b,c⟩:=Mf (n:=n) (lsn:=(L.length:Int)+1) (by omega) r.eds (af L) (af L n) (fa L) (fa L n) rfl rfl h0
 rw[gk]
 exact Prod.ext a (Prod.ext (c (kr.1 hn)) b)
theorem Fw{L:List RecM}(hn:n∉ck r.eds):af (L++[r]) n=af L n:=by
 rw[gk,s8 (fun e he h=>hn (kr.2 ⟨e,he,h⟩))]
theorem rR{L:List RecM}{os:List Int}:∀r∈dy L os,r.eds=[]/\r.kind=8/\∃n∈os,eT L n=false/\r=⟨8,0,n,[],aG (af L n)⟩:=fun r hr=>by
 obtain⟨n,hn,rfl⟩:=List.mem_map.1 hr
 obtain⟨h1,h2⟩:=List.mem_filter.1 hn
 exact⟨rfl,rfl,n,h1,by simpa using h2,rfl⟩
theorem uk{L ims:List RecM}(h:∀r∈ims,r.eds=[])(n:Int):af (L++ims) n=af L n:=Cu fun r hr e he=>by rw[h r hr] at he;cases he
theorem Ft{ims:List RecM}(n:Int):∀(L:List RecM),(∀r∈ims,r.kind=8)->eT (L++ims) n=(eT L n||decide (n∈ims.map RecM.tbl)):=by
 induction ims with
 |nil=>intro L _;simp
 |cons r ims ih=>
  intro L h
  have e:L++r::ims=(L++[r])++ims:=by simp
  have hk:=h r (by simp)
  rw[e,ih _ (fun x hx=>h x (by simp[hx])),nz,if_neg (by rw[hk];decide),hk,Bool.or_assoc]
  congr 1
  rw[List.map_cons]
  by_cases ht:r.tbl=n
  rw[decide_eq_true (p:=n∈r.tbl::ims.map RecM.tbl) (by rw[ht];exact List.mem_cons_self)];simp[ht]
  have:(n∈r.tbl::ims.map RecM.tbl)=(n∈ims.map RecM.tbl):=propext ⟨fun h=>(List.mem_cons.1 h).elim (fun h=>absurd h.symm ht) id,List.mem_cons_of_mem _⟩
  simp only[this]
  rw[show (r.tbl==n)=false by simpa using ht,Bool.and_false,Bool.false_or]
theorem Cq{ims:List RecM}:∀(L:List RecM),(∀r∈ims,r.kind≠9)->be (L++ims)=be L:=by
 induction ims with
 |nil=>intro L _;simp
 |cons r ims ih=>
  intro L h
  rw[show L++r::ims=(L++[r])++ims by simp,ih _ (fun x hx=>h x (by simp[hx])),fc,if_neg (h r (by simp))]
end
section
open Go.RowKit
theorem xn(D:DkM)(er:Int)(f:DkM->DkM):(D.off=true/\opD D er f=(D,24))\/(D.off=false/\er≠0/\opD D er f=(D,er))\/(D.off=false/\er=0/\D.armed=true/\opD D er f=({D with off:=true},24))\/(D.off=false/\er=0/\opD D er f=(f {D with left:=cX D.left},0)):=by
 unfold opD
 split
 rename_i h;exact .inl ⟨h,rfl⟩
 rename_i h
 have h:D.off=false:=by simpa using h
 split
 rename_i h1;exact .inr (.inl ⟨h,h1,rfl⟩)
 rename_i h1
 have h1:er=0:=by simpa using h1
 split
 rename_i h2;exact .inr (.inr (.inl ⟨h,h1,h2.1,rfl⟩))
 exact .inr (.inr (.inr ⟨h,h1,rfl⟩))
structure ApS (S:StM) (rt:RcT) (S2:StM) (er:Int):Prop where
 ok:er=0->S2.D.off=false/\S2.recs=S.recs++[rt]/\S2.D.log=S.D.log++aA rt.r
 no:er≠0->S2.recs=S.recs/\S2.D.log=S.D.log/\((er=24/\S2.D.off=true)\/(er=31/\S2.D.off=S.D.off/\1048576<S.D.log.size+(aA rt.r).size))
 pool:S2.pool=S.pool
 pgs:S2.D.pgs=S.D.pgs
 fl:S2.D.fl=S.D.fl
 im:S2.im=S.im
 told:S2.told=S.told
 frm:S2.frm=S.frm
 armed:S2.D.armed=S.D.armed
 noarm:S.D.armed=false->S2.D.off=S.D.off
theorem jn(S:StM)(rt:RcT):ApS S rt (br S rt).1 (br S rt).2:=by
 have hz:∀er:Int,apE S.D (aA rt.r)=er->er≠0->er=31/\1048576<S.D.log.size+(aA rt.r).size:=fun er h h0=>by
  unfold apE at h
  split at h
  exact⟨h.symm,by omega⟩
  exact absurd h.symm h0
 rcases xn S.D (apE S.D (aA rt.r)) (apD (aA rt.r)) with ⟨h1,h2⟩|⟨h1,h0,h2⟩|⟨h1,h0,h3,h2⟩|⟨h1,h0,h2⟩
 have e:(apR S rt.r)=(S.D,24):=h2
 rw[uS (by rw[e];exact(by decide:(24:Int)≠0)),e]
 exact⟨fun h=>(by cases h),fun _=>⟨rfl,rfl,.inl ⟨rfl,h1⟩⟩,rfl,rfl,rfl,rfl,rfl,rfl,rfl,fun _=>rfl⟩
 have e:(apR S rt.r)=(S.D,apE S.D (aA rt.r)):=h2
 rw[uS (by rw[e];exact h0),e]
 obtain⟨a,b⟩:=hz _ rfl h0
 exact⟨fun h=>absurd h h0,fun _=>⟨rfl,rfl,.inr ⟨a,rfl,b⟩⟩,rfl,rfl,rfl,rfl,rfl,rfl,rfl,fun _=>rfl⟩
 have e:(apR S rt.r)=({S.D with off:=true},24):=h2
 rw[uS (by rw[e];exact(by decide:(24:Int)≠0)),e]
 exact⟨fun h=>(by cases h),fun _=>⟨rfl,rfl,.inl ⟨rfl,rfl⟩⟩,rfl,rfl,rfl,rfl,rfl,rfl,rfl,fun h=>by rw[h3] at h;cases h⟩
 have e:(apR S rt.r)=(apD (aA rt.r) {S.D with left:=cX S.D.left},0):=h2
 rw[Ey (by rw[e]),e]
 exact⟨fun _=>⟨h1,rfl,rfl⟩,fun h=>absurd rfl h,rfl,rfl,rfl,rfl,rfl,rfl,rfl,fun _=>rfl⟩
structure ApO (S:StM) (ims:List RecM) (S2:StM) (er:Int) (k:Nat):Prop where
 kl:k<=ims.length
 ok:er=0->k=ims.length/\(S.D.off=false->S2.D.off=false)
 no:er≠0->(er=24/\S2.D.off=true)\/(er=31/\1048576<S.D.log.size+szF ims)
 L:S2.L=S.L++ims.take k
 log:S2.D.log.size=S.D.log.size+szF (ims.take k)
 pool:S2.pool=S.pool
 pgs:S2.D.pgs=S.D.pgs
 fl:S2.D.fl=S.D.fl
 im:∀n,(S2.im n).getD false=((S.im n).getD false||decide (n∈(ims.take k).map RecM.tbl))
 told:S2.told=S.told
 frm:S2.frm=S.frm
 armed:S2.D.armed=S.D.armed
 noarm:S.D.armed=false->S2.D.off=S.D.off
theorem mF(r:RecM)(l:List RecM):szF (r::l)=(aA r).size+szF l:=by simp[szF]
theorem ApI.run{ims:List RecM}(h:ApI S ims S2 er):∃k,ApO S ims S2 er k:=by
 induction h with
 |nil S=>exact⟨0,Nat.le_refl _,fun _=>⟨rfl,id⟩,fun h=>absurd rfl h,by simp,rfl,rfl,rfl,rfl,fun n=>by simp,rfl,rfl,rfl,fun _=>rfl⟩
 |bad q h=>
  rename_i S r l
  have hs:=jn {S with rr:=q} (rcI r)
  obtain⟨a,b,c⟩:=hs.no h
  refine⟨0,Nat.zero_le _,fun h0=>absurd h0 h,fun _=>?_,(congrArg (List.map RcT.r) a).trans (List.append_nil _).symm,by rw[b];rfl,hs.pool,hs.pgs,hs.fl,fun n=>by rw[hs.im];simp,hs.told,hs.frm,hs.armed,hs.noarm⟩
  rcases c with c|c
  exact .inl c
  refine .inr ⟨c.1,?_⟩
  have:=c.2.2
  rw[mF]
  show 1048576<S.D.log.size+ _
  have e:(aA (rcI r).r).size=(aA r).size:=rfl
  have e2:({S with rr:=q}:StM).D.log.size=S.D.log.size:=rfl
  omega
 |cons q h hr ih=>
  rename_i S S2 r l er
  have hs:=jn {S with rr:=q} (rcI r)
  obtain⟨a1,a2,a3⟩:=hs.ok h
  obtain⟨k,o⟩:=ih
  have hlog:(br {S with rr:=q} (rcI r)).1.D.log=S.D.log++aA r:=a3
  refine⟨k+1,by have:=o.kl;simp only[List.length_cons];omega,fun h0=>?_,fun h0=>?_,?_,?_,o.pool.trans hs.pool,o.pgs.trans hs.pgs,o.fl.trans hs.fl,fun n=>?_,o.told.trans hs.told,o.frm.trans hs.frm,o.armed.trans hs.armed,fun h0=>?_⟩
  obtain⟨b1,b2⟩:=o.ok h0
  exact⟨by rw[b1];rfl,fun _=>b2 a1⟩
  rcases o.no h0 with c|⟨c1,c2⟩
  exact .inl c
  refine .inr ⟨c1,?_⟩
  have c2:1048576<(br {S with rr:=q} (rcI r)).1.D.log.size+szF l:=c2
  rw[hlog,ByteArray.size_append] at c2
  rw[mF];omega
  rw[o.L,List.take_succ_cons]
  show (br {S with rr:=q} (rcI r)).1.recs.map RcT.r++ _= _
  rw[a2,List.map_append]
  show S.L++[r]++l.take k= _
  simp
  have h1:=o.log
  have h1:S2.D.log.size=(br {S with rr:=q} (rcI r)).1.D.log.size+szF (l.take k):=h1
  rw[h1,hlog,ByteArray.size_append,List.take_succ_cons,mF];omega
  rw[o.im,List.take_succ_cons,List.map_cons]
  show ((cd (br {S with rr:=q} (rcI r)).1.im r.tbl (some true) n).getD false|| _)= _
  rw[hs.im]
  unfold cd
  by_cases hn:n=r.tbl
  subst hn;simp
  rw[if_neg hn]
  show ((S.im n).getD false|| _)= _
  congr 1
  have:(n∈r.tbl::(l.take k).map RecM.tbl)=(n∈(l.take k).map RecM.tbl):=propext ⟨fun h=>(List.mem_cons.1 h).elim (fun h=>absurd h hn) id,List.mem_cons_of_mem _⟩
  simp only[this]
  have h1:=hs.noarm h0
  have h2:=o.noarm (hs.armed.trans h0)
  exact h2.trans h1
theorem ApI.sok{ims:List RecM}(h:ApI S ims S2 er):∀{c:Nat},SOk S c->(∀r∈ims,bt r=true)->SOk S2 (c+ims.length):=by
 induction h with
 |nil S=>intro c h _;exact h
 |bad q h=>intro c hc hr;exact((hc.rr q).append (rt:=rcI _) (hr _ List.mem_cons_self)).mono (by omega)
 |cons q h hr ih=>
  intro c hc hr
  exact(ih (((hc.rr q).append (rt:=rcI _) (hr _ List.mem_cons_self)).im _) (fun r h=>hr r (by simp[h]))).mono (by simp only[List.length_cons];omega)
theorem ApO.cur{ims:List RecM}(h:ApO S ims S2 er k)(n:Int):aF S2 n=aF S n:=by
 rw[aF,aF,h.pool,ie h.pgs]
theorem ej.cur(hok:SOk S c)(h:ej S n pg S2 0):S2.L=S.L/\S2.frm=S.frm/\S2.im=S.im/\S2.told=S.told/\S2.D.pgs.length=S.D.pgs.length/\∀m:Int,0<=m->aF S2 m=if m=n then pg.p else aF S m:=by
 obtain⟨S1,h1,⟨h2,_⟩|⟨_,⟨t,ht,hn⟩,rfl⟩⟩:=h
 exact absurd rfl h2
 obtain⟨ev,_,_⟩:=Ev.load hok h1
 have hok1:=hok.load h1
 refine⟨ev.L,ev.frm,ev.im,ev.told,ev.len,fun m hm=>?_⟩
 have hnd:(S1.pool.map BfT.n).Nodup:=hok1.nodup
 by_cases e:m=n
 subst e
 rw[if_pos rfl]
 rcases qN (S:=S1) (n:=m) (f:=gz pg) hnd (fun _=>rfl) m with h3|⟨u,hu,e1,_,e3⟩
 have h4:=dp (S:={S1 with pool:=dh S1.pool m (gz pg)}) (by show ((dh S1.pool m (gz pg)).map BfT.n).Nodup;rw[uN (f:=gz pg) (fun _=>rfl)];exact hnd) (t:=gz pg t) (List.mem_map.2 ⟨t,ht,by rw[if_pos hn]⟩)
 have h5:(gz pg t).n=m:=hn
 rw[h5] at h4;exact h4
 exact e3
 rw[if_neg e,<-ev.cur m hm]
 rcases qN (S:=S1) (n:=n) (f:=gz pg) hnd (fun _=>rfl) m with h3|⟨u,hu,e1,e2,e3⟩
 exact h3
 exact absurd e2 e
theorem PuA.run{cur:Int->PgS}{l:List Int}(h:PuA cur N lsn S l S2 er):∀{c:Nat},SOk S c->(∀n∈l,bI (iy lsn (N n)))->er=0->S2.L=S.L/\S2.frm=S.frm/\S2.im=S.im/\S2.D.pgs.length=S.D.pgs.length/\(∀m:Int,0<=m->aF S2 m=if m∈l then iy lsn (N m) else aF S m)/\∀m,(S2.told m).getD false=if m∈l/\(cur m).1≠0/\(N m).1=0 then false else (S.told m).getD false:=by
 induction h with
 |nil S=>intro c _ _ _;exact⟨rfl,rfl,rfl,rfl,fun m _=>by simp,fun m=>by simp⟩
 |bad hp h he=>intro c _ _ h0;exact absurd h0 he
 |cons hp h hr ih=>
  rename_i S S1 S2 n er l pg
  intro c hok hri h0
  have hokx:SOk (if (cur n).1≠0/\(N n).1=0 then eK S n false else S) (c+1):=by
   split
   exact hok.told n false
   exact hok.mono (by omega)
  obtain⟨a1,a2,a3,a4,a5,a6⟩:=ej.cur hokx h
  have hok1:=hokx.put (by rw[hp];exact hri n (by simp)) h
  obtain⟨b1,b2,b3,b5,b6,b7⟩:=ih hok1 (fun m hm=>hri m (by simp[hm])) h0
  have e1:∀X:StM->Prop,X S->X (eK S n false)->X (if (cur n).1≠0/\(N n).1=0 then eK S n false else S):=fun X h1 h2=>by split<;>assumption
  refine⟨b1.trans (a1.trans (e1 (fun Z=>Z.L=S.L) rfl rfl)),b2.trans (a2.trans (e1 (fun Z=>Z.frm=S.frm) rfl rfl)),b3.trans (a3.trans (e1 (fun Z=>Z.im=S.im) rfl rfl)),b5.trans (a5.trans (e1 (fun Z=>Z.D.pgs.length=S.D.pgs.length) rfl rfl)),fun m hm=>?_,fun m=>?_⟩
  rw[b6 m hm,a6 m hm,hp,e1 (fun Z=>aF Z m=aF S m) rfl rfl]
  by_cases h1:m∈l
  rw[if_pos h1,if_pos (by simp[h1])]
  rw[if_neg h1]
  by_cases h2:m=n
  subst h2;rw[if_pos rfl,if_pos (by simp)]
  rw[if_neg h2,if_neg (by simp[h1,h2])]
  rw[b7 m,a4]
  by_cases h1:m∈l/\(cur m).1≠0/\(N m).1=0
  rw[if_pos h1,if_pos ⟨by simp[h1.1],h1.2⟩]
  rw[if_neg h1]
  by_cases h2:m=n
  subst h2
  by_cases h3:(cur m).1≠0/\(N m).1=0
  rw[if_pos h3,if_pos ⟨by simp,h3⟩]
  show (cd S.told m (some false) m).getD false=false
  rw[cd,if_pos rfl];rfl
  rw[if_neg h3,if_neg (fun h=>h3 h.2)]
  have h4:¬(m∈n::l/\(cur m).1≠0/\(N m).1=0):=fun h=>h1 ⟨(List.mem_cons.1 h.1).elim (fun h=>absurd h h2) id,h.2⟩
  rw[if_neg h4]
  exact e1 (fun Z=>(Z.told m).getD false=(S.told m).getD false) rfl (by show (cd S.told n (some false) m).getD false= _;rw[cd,if_neg h2])
end
section
open Go.RowKit
theorem ES:¬DoA r<->(bt r=false\/r.kind=8\/r.kind=9):=by
 unfold DoA
 constructor
 intro h
 cases hr:bt r
 exact .inl rfl
 rw[hr] at h
 by_cases h8:r.kind=8
 exact .inr (.inl h8)
 exact .inr (.inr (Classical.byContradiction fun h9=>h ⟨rfl,h8,h9⟩))
 rintro(h|h|h) ⟨a,b,c⟩
 rw[h] at a;cases a
 exact b h
 exact c h
section
variable{pages:Nat}{L:List RecM}{r:RecM}{told:Int->Bool}
theorem Jk(h:¬DoA r):rfE pages L r=1:=if_pos (ES.1 h)
theorem uH(h:DoA r):¬(bt r=false\/r.kind=8\/r.kind=9):=fun h1=>ES.2 h1 h
theorem Fk(h:DoA r)(h1:r.eds.any (d8 pages)=true):rfE pages L r=22:=by rw[rfE,if_neg (uH h),if_pos h1]
theorem Jh(h:DoA r)(h1:r.eds.any (d8 pages)=false)(h2:cV (af L) r.eds≠0):rfE pages L r=cV (af L) r.eds:=by rw[rfE,if_neg (uH h),if_neg (by rw[h1];decide),if_pos h2]
theorem Fh(h:DoA r)(h1:r.eds.any (d8 pages)=false)(h2:cV (af L) r.eds=0)(h3:1048576<szF L+((aA r).size+szF (dy L (ck r.eds)))):rfE pages L r=31:=by rw[rfE,if_neg (uH h),if_neg (by rw[h1];decide),if_neg (by rw[h2];simp),if_pos h3]
theorem xR(h:DoA r)(h1:r.eds.any (d8 pages)=false)(h2:cV (af L) r.eds=0)(h3:szF L+((aA r).size+szF (dy L (ck r.eds)))<=1048576):rfE pages L r=0:=by rw[rfE,if_neg (uH h),if_neg (by rw[h1];decide),if_neg (by rw[h2];simp),if_neg (by omega)]
theorem jV{e:Int}(h:rfE pages L r=e)(h0:e≠0):rfD pages L told r=(L,0,e,told):=by rw[rfD,if_neg (by rw[h];exact h0),h]
theorem qE(h:rfE pages L r=0):rfD pages L told r=(rfL L r,((rfL L r).length:Int),0,rfT told L r):=if_pos h
end
theorem G4(h:SOk S c)(ht:t∈S.pool)(he:(aJ S t).2≠0):(aJ S t).2=24:=by
 unfold aJ at he |-
 split at he
 rename_i hd
 rw[if_pos hd]
 unfold bL at he |-
 have hw:(wrD0 S t).2=0\/(wrD0 S t).2=24:=by
  unfold wrD0
  split
  rcases mV S.D with ⟨_,e⟩|⟨_,_,e⟩|⟨_,e⟩<;>rw[e]<;>simp
  exact .inl rfl
 split at he
 rename_i h1
 rw[if_pos h1]
 exact hw.resolve_left h1
 rename_i h1
 rw[if_neg h1]
 have hn:0<=t.n/\t.n<(((wrD0 S t).1.pgs.length:Nat):Int):=by
  have hl:(wrD0 S t).1.pgs.length=S.D.pgs.length:=by
   unfold wrD0
   split
   exact c5 (P:=fun D'=>D'.pgs.length=S.D.pgs.length) rfl rfl fun _=>rfl
   rfl
  rw[hl];exact h.keys t ht
 dsimp only at he |-
 rcases wX (wrD0 S t).1 t.n (aG t.pg.p) hn (cR (h.right t ht)) with ⟨_,e⟩|⟨_,_,e⟩|⟨_,e⟩
 rw[e]
 rw[e]
 rw[e] at he;exact absurd rfl he
 exact absurd rfl he
theorem LdR.e24(h:SOk S c)(hn:0<=n/\n<(S.D.pgs.length:Int))(hl:LdR S n S' er)(he:er≠0):er=24/\S'.D.off=true:=by
 have ho:=((Ev.load h hl).2.1 he).resolve_right (fun h1=>h1 hn)
 refine⟨?_,ho⟩
 cases hl with
 |hit t ht hn=>exact absurd rfl he
 |bad h1 h2=>
  unfold rdS at he |-
  split
  rfl
  rename_i h3;rw[if_neg h3,if_pos hn] at he;exact absurd rfl he
 |new t blk A cc h1 h2 h3=>
  unfold j6 at he |-
  split
  rename_i h4
  unfold bq at h4 |-
  split
  rename_i h5
  rw[if_pos h5] at h4
  split
  rename_i h6
  exact G4 h.tick (h3 h5) h6
  rename_i h6
  rw[if_neg h6] at h4
  exact absurd rfl h4
  rename_i h5;rw[if_neg h5] at h4;exact absurd rfl h4
  rename_i h4;rw[if_neg h4] at he;exact absurd rfl he
theorem ej.e24(h:SOk S c)(hn:0<=n/\n<(S.D.pgs.length:Int))(hl:ej S n pg S' er)(he:er≠0):er=24/\S'.D.off=true:=by
 obtain⟨S1,h1,⟨_,rfl⟩|⟨h2,_⟩⟩:=hl
 exact h1.e24 h hn he
 exact absurd h2 he
theorem PuA.e24{cur:Int->PgS}{l:List Int}(h:PuA cur N lsn S l S2 er):∀{c:Nat},SOk S c->(∀n∈l,bI (iy lsn (N n)))->(∀n∈l,0<=n/\n<(S.D.pgs.length:Int))->er≠0->er=24/\S2.D.off=true:=by
 induction h with
 |nil S=>intro c _ _ _ h0;exact absurd rfl h0
 |bad hp h he=>
  rename_i S S2 n er l pg
  intro c hok hri hr _
  refine ej.e24 (S:=if (cur n).1≠0/\(N n).1=0 then eK S n false else S) (c:=c+1) ?_ ?_ h he
  split
  exact hok.told n false
  exact hok.mono (by omega)
  have:=hr n (by simp)
  split<;>exact this
 |cons hp h hr ih=>
  rename_i S S1 S2 n er l pg
  intro c hok hri hg h0
  have hokx:SOk (if (cur n).1≠0/\(N n).1=0 then eK S n false else S) (c+1):=by
   split
   exact hok.told n false
   exact hok.mono (by omega)
  have hl:S1.D.pgs.length=S.D.pgs.length:=(ej.cur hokx h).2.2.2.2.1.trans (by split<;>rfl)
  exact ih (hokx.put (by rw[hp];exact hri n (by simp)) h) (fun m hm=>hri m (by simp[hm])) (fun m hm=>by rw[hl];exact hg m (by simp[hm])) h0
def DoW(S:StM)(told:Int->Bool)(r:RecM)(S2:StM)(n er:Int):Prop:=
 (S2.D.off=true/\(er=24\/er=rfE S.D.pgs.length S.L r))\/(S2.D.off=false/\n=(rfD S.D.pgs.length S.L told r).2.1/\er=rfE S.D.pgs.length S.L r/\S2.L=(rfD S.D.pgs.length S.L told r).1/\S2.D.pgs.length=S.D.pgs.length/\WI S2 (rfD S.D.pgs.length S.L told r).2.2.2)
theorem DoW.no{told:Int->Bool}(hw:WI S told)(hev:Ev S S2)(he:rfE S.D.pgs.length S.L r=er)(h0:er≠0):DoW S told r S2 0 er:=by
 rcases Bool.eq_false_or_eq_true S2.D.off with ho|ho
 exact .inl ⟨ho,.inr he.symm⟩
 refine .inr ⟨ho,?_,he.symm,?_,hev.len,?_⟩<;>rw[jV he h0]
 exact hev.L
 exact hev.wi hw
theorem DoQ.run{told:Int->Bool}(hok:SOk S c)(hw:WI S told)(h:DoQ S r S2 n er):DoW S told r S2 n er:=by
 have hcur:r.eds.any (d8 S.D.pgs.length)=false->∀e∈r.eds,aF S e.1=af S.L e.1:=fun hp e he=>hw.cur _ (ld hp he).1 (ld hp he).2
 have hos:r.eds.any (d8 S.D.pgs.length)=false->∀n∈ck r.eds,0<=n/\n<(S.D.pgs.length:Int):=fun hp n hn=>by obtain⟨e,he,rfl⟩:=kr.1 hn;exact ld hp he
 have herr:r.eds.any (d8 S.D.pgs.length)=false->cV (aF S) r.eds=cV (af S.L) r.eds:=fun hp=>Cw _ _ _ (hcur hp)
 have hims:r.eds.any (d8 S.D.pgs.length)=false->fq S (ck r.eds)=dy S.L (ck r.eds):=fun hp=>by
  have e1:eI S (ck r.eds)=(ck r.eds).filter fun n=>!eT S.L n:=List.filter_congr fun n hn=>by rw[hw.im n (hos hp n hn).1 (hos hp n hn).2]
  rw[fq,dy,e1]
  refine List.map_congr_left fun n hn=>?_
  have hn:=(List.mem_filter.1 hn).1
  rw[f8,hw.cur n (hos hp n hn).1 (hos hp n hn).2]
 have hlz:S.D.log.size=szF S.L:=by rw[hok.log,cj]
 have hnz:r.eds.any (d8 S.D.pgs.length)=false->jU S r=szF S.L+((aA r).size+szF (dy S.L (ck r.eds))):=fun hp=>by rw[jU,hims hp,hlz]
 cases h with
 |arg h=>exact DoW.no hw (Ev.refl S) (Jk h) (by decide)
 |page h hp he=>exact DoW.no hw he (Fk h hp) (by decide)
 |pow h hp he ho=>exact .inl ⟨ho,.inl rfl⟩
 |err h hp he h0=>exact DoW.no hw he (by rw[herr hp] at h0 |-;exact Jh h hp h0) h0
 |full h hp he h0 hf=>exact DoW.no hw he (Fh h hp (by rw[<-herr hp];exact h0) (by rw[<-hnz hp];exact hf)) (by decide)
 |img h hp he hk h0 hf hi hn=>
  obtain⟨k,o⟩:=hi.run
  rcases o.no hn with ⟨c1,c2⟩|⟨_,c2⟩
  exact .inl ⟨c2,.inl c1⟩
  exfalso
  rw[he.log] at c2
  rw[jU] at hf;omega
 |app h hp he hk h0 hf hi hr hn=>
  rename_i S1 S2 rt
  obtain⟨k,o⟩:=hi.run
  rcases((jn S2 rt).no hn).2.2 with ⟨c1,c2⟩|⟨_,_,c2⟩
  exact .inl ⟨c2,.inl c1⟩
  exfalso
  rw[o.log,(o.ok rfl).1,List.take_length,he.log,hr] at c2
  rw[jU] at hf;omega
 |put h hp he hk h0 hf hi hr ha hu=>
  rename_i S1 S3 rt
  obtain⟨c1,hk⟩:=hk
  obtain⟨k,o⟩:=hi.run
  obtain⟨ok1,_⟩:=o.ok rfl
  have s:=jn S3 rt
  obtain⟨s1,s2,s3⟩:=s.ok ha
  have hro:=hos hp
  have hokI:=hi.sok hk (fun x hx=>by obtain⟨n,hn,rfl⟩:=List.mem_map.1 hx;exact nw hok (hro n (tf hn)))
  have hok4:=hokI.append (rt:=rt) (by rw[hr];exact h.1)
  have hlen4:(br S3 rt).1.D.pgs.length=S.D.pgs.length:=by rw[s.pgs,o.pgs];exact he.len
  have hL4:(br S3 rt).1.L=rfL S.L r:=by
   show (br S3 rt).1.recs.map RcT.r= _
   rw[s2,List.map_append]
   show S3.L++[rt.r]= _
   rw[o.L,ok1,List.take_length,he.L,hr,hims hp,rfL]
  have hro2:=hok.recs_len
  have hnl:=o4 S (ck r.eds)
  have hol:=jE r.eds
  have hml:=(d4 h.1).many
  have hlsn:eH S r=((rfL S.L r).length:Int):=by
   rw[rfL,eH,<-hims hp,fq,List.length_append,List.length_append,List.length_map]
   rw[List.length_map,List.length_singleton];omega
  have hlb:0<=eH S r/\eH S r<=2147483647:=by unfold eH;omega
  have hri:∀n∈ck r.eds,bI (iy (eH S r) (bo (aF S) r.eds n)):=fun n _=>lY (jI (fun m=>iG hok m) h0 n) hlb
  by_cases h00:er=0
  rcases Bool.eq_false_or_eq_true S2.D.off with ho|ho
  exact .inl ⟨ho,.inr (by rw[h00];exact(xR h hp (by rw[<-herr hp];exact h0) (by rw[<-hnz hp];exact hf)).symm)⟩
  have hE:=xR h hp (by rw[<-herr hp];exact h0) (by rw[<-hnz hp];exact hf) (pages:=S.D.pgs.length) (L:=S.L)
  obtain⟨a1,a2,a3,a4,a5,a6⟩:=hu.run hok4 hri h00
  have hL:=a1.trans hL4
  have hpl:=a4.trans hlen4
  refine .inr ⟨ho,?_,by rw[hE];exact h00,by rw[qE hE];exact hL,hpl,?_⟩
  rw[qE hE,if_pos h00];exact hlsn
  rw[qE hE]
  have hie:=rR (L:=S.L) (os:=ck r.eds)
  have hcI:af (S.L++dy S.L (ck r.eds))=af S.L:=funext fun n=>uk (fun x hx=>(hie x hx).1) n
  have hb1:((S.L++dy S.L (ck r.eds)).length:Int)+1=eH S r:=by rw[hlsn,rfL,List.length_append (bs:=[r])];simp
  refine⟨fun n n0 n1=>?_,fun n n0 n1=>?_,?_,fun n n0 n1=>?_⟩
  rw[hpl] at n1
  rw[a5 n n0,hL,rfL]
  by_cases hn:n∈ck r.eds
  rw[if_pos hn,GZ (by omega) (by rw[hcI,<-herr hp];exact h0) hn,hb1,hcI,uQ r.eds n (aF S) (af S.L) (hcur hp) (hw.cur n n0 n1)]
  rw[if_neg hn,Fw hn,hcI,<-hw.cur n n0 n1,<-he.cur n n0,<-o.cur n,aF,aF,s.pool,ie s.pgs]
  rw[hpl] at n1
  rw[a3,s.im,o.im,he.im,hw.im n n0 n1,hL,rfL,nz,if_neg h.2.2,Ft n S.L (fun x hx=>(hie x hx).2.1),ok1,List.take_length,hims hp]
  have:(r.kind==8)=false:=by simpa using h.2.1
  rw[this];simp
  rw[a2,s.frm,o.frm,he.frm,hw.frm,hL,rfL,fc,if_neg h.2.2,Cq _ (fun x hx=>by rw[(hie x hx).2.1];decide)]
  rw[hpl] at n1
  show (S2.told n).getD false=if n∈ck r.eds/\(af S.L n).1≠0/\(bo (af S.L) r.eds n).1=0 then false else told n
  rw[a6 n,s.told,o.told,he.told,hw.told n n0 n1,hw.cur n n0 n1,uQ r.eds n (aF S) (af S.L) (hcur hp) (hw.cur n n0 n1)]
  obtain⟨e1,e2⟩:=hu.e24 hok4 hri (fun n hn=>by rw[hlen4];exact hro n hn) h00
  exact .inl ⟨e2,.inl e1⟩
end
section
open Go.RowKit
def bgD(n:Nat)(note:ByteArray):DkM:=⟨List.replicate n ⟨z5,[]⟩,aA (au note),(aA (au note)).size,false,false,cX (cX 0)⟩
theorem JX(n:Nat)(h:note.size<=60000):vS (kz n) note=(bgD n note,0):=by
 have hz:=eV (dz h)
 have e0:(⟨#[]⟩:ByteArray)++aA (au note)=aA (au note):=by apply go;rw[cN];rfl
 have he:apE (kz n) (aA (au note))=0:=by
  show (if 1048576<((0:Nat):Int)+ _ then (31:Int) else 0)=0
  rw[if_neg (by omega)]
 have h1:fmR (kz n) note=(⟨List.replicate n ⟨z5,[]⟩,aA (au note),0,false,false,cX 0⟩,0):=by
  rw[fmR,he]
  show (apD (aA (au note)) _,(0:Int))= _
  show (DkM.mk _ ((⟨#[]⟩:ByteArray)++aA (au note)) _ _ _ _,(0:Int))= _
  rw[e0];rfl
 rw[vS,if_neg (by rintro(h2|h2);exact absurd h2 (Nat.lt_irrefl 0);omega),h1,if_neg (by exact(by decide:¬(0:Int)≠0))]
 rfl
theorem Lv(note:ByteArray)(m:Int):af [au note] m=bp:=rfl
theorem y8(note:ByteArray):szF [au note]=(aA (au note)).size:=by simp[szF]
theorem BA(note:ByteArray):dZ [au note]=aA (au note):=by rw[dZ,List.map_cons,List.map_nil,bx,fP,jW]
structure NewS (S:StM) (n:Nat) (note:ByteArray) (bufs:Int):Prop where
 D:S.D=bgD n note
 L:S.L=[au note]
 ok:SOk S 0
 wi:WI S (fun _=>false)
 bufs:S.bufs=bufs
theorem NewS.pgs{n:Nat}{bufs:Int}(h:NewS S n note bufs):S.D.pgs.length=n:=by rw[h.D];exact List.length_replicate ..
theorem OM:rdP z5.1=bp:=Ln
theorem OB{n:Nat}{bufs:Int}(hn:n<=400)(hz:note.size<=60000)(hb:1<=bufs/\bufs<=64){rs:List RcT}(hrs:rs.map RcT.r=[au note]):NewS (iI (bgD n note) bufs rs 1) n note bufs:=by
 have hf:=eV (dz hz)
 refine⟨rfl,hrs,?_,?_,rfl⟩
 refine SOk.opn hb ?_ (fun x hx=>?_) (fun r hr=>?_) ?_ ?_ (Nat.le_refl _)
 show (List.replicate n _).length<= _;rw[List.length_replicate];exact hn
 rw[List.eq_of_mem_replicate hx];exact Nat.le_refl _
 rw[hrs] at hr;rw[List.mem_singleton.1 hr];exact dz hz
 rw[hrs,BA];rfl
 show (aA (au note)).size<= _;omega
 refine⟨fun m h0 h1=>?_,fun m h0 h1=>?_,?_,fun m h0 h1=>rfl⟩
 show aF (iI (bgD n note) bufs rs 1) m=af (rs.map RcT.r) m
 rw[hrs,Lv,gN (fun t ht=>by cases ht)]
 show rdP (rdT ((List.replicate n (⟨z5,[]⟩:ShD)).getD m.toNat fO)).1= _
 have:(List.replicate n (⟨z5,[]⟩:ShD)).getD m.toNat fO=fO:=by
  rw[List.getD,List.getElem?_replicate]
  split<;>rfl
 rw[this];exact OM
 show _=eT (rs.map RcT.r) m
 rw[hrs];rfl
 show (1:Int)=(be (rs.map RcT.r):Int)
 rw[hrs];rfl
theorem Ld{n:Nat}{bufs:Int}{R:StM ⊕ DkM}(hn:n<=400)(hz:note.size<=60000)(hb:1<=bufs/\bufs<=64)(h:OpnR (bgD n note) bufs [au note] R er):er=0/\∃S,R= .inl S/\NewS S n note bufs:=by
 have hs:¬szF [au note]<(bgD n note).log.size:=by rw[y8];exact Nat.lt_irrefl _
 have ho:fN (bgD n note) [au note]=(bgD n note,0):=if_neg hs
 have hf:be [au note]=1:=rfl
 cases h with
 |bufs h1=>exact absurd hb h1
 |off _ h1=>cases h1
 |form _ _ h1=>rw[hf] at h1;cases h1
 |cut _ _ _ h1=>rw[ho] at h1;exact absurd rfl h1
 |bad _ _ _ _ rs hrs hr he=>
  rw[ho,hf] at hr
  cases hr with
  |nil=>exact absurd rfl he
 |ok _ _ _ _ rs hrs hr=>
  rw[ho,hf] at hr
  refine⟨rfl,_,rfl,?_⟩
  cases hr with
  |nil=>exact OB hn hz hb hrs
theorem St.opnN{L:List Ent}{n:Nat}{bufs:Int}{v:Value}{fp:List Nat}(h:St w0 bor (L++[eOx db (bgD n note) bufs [au note] v er fp]) W)(hn:n<=400)(hz:note.size<=60000)(hb:1<=bufs/\bufs<=64):
  ∃sb S,er=0/\v=po sb 0/\NewS S n note bufs/\St w0 bor (L++[eSt sb db S fp]) W:=by
 obtain⟨sb,R,h1,h2,h3⟩:=(h.ok (eOx db (bgD n note) bufs [au note] v er fp) (by simp)).holds
 obtain⟨rfl,S,rfl,hS⟩:=Ld hn hz hb h1
 exact⟨sb,S,rfl,h2,hS,St.repl (L2:=[]) h rfl (fun _=>h3) (dx _ _ _ _)⟩
theorem FrR.off{n:Nat}{r:Int}(h:FrR S n S2 r):∀{c:Nat},SOk S c->S.D.off=true->S2.D.off=true:=by
 induction h with
 |stop h=>intro c _ h;exact h
 |told h ht hr ih=>intro c hok ho;exact ih hok ho
 |no h ht hp hk hr ih=>intro c hok ho;exact ih (hp.ok hok) ((hp.ev hok).1.off ho)
 |yes h ht hp hk=>intro c hok ho;exact(hp.ev hok).1.off ho
def FrW(S:StM)(told:Int->Bool)(n:Nat)(S2:StM)(r:Int):Prop:=
 (r= -1/\(∀m:Nat,n<=m->m<S.D.pgs.length->told (m:Int)=true\/(af S.L (m:Int)).1≠0)/\WI S2 told)\/
 (∃k:Nat,r=(k:Int)/\n<=k/\k<S.D.pgs.length/\told (k:Int)=false/\(af S.L (k:Int)).1=0/\(∀m:Nat,n<=m->m<k->told (m:Int)=true\/(af S.L (m:Int)).1≠0)/\WI S2 (fun x=>if x=(k:Int) then true else told x))
theorem FrR.run{n:Nat}{r:Int}(h:FrR S n S2 r):∀{c:Nat}{told:Int->Bool},SOk S c->WI S told->S2.D.off=true\/(S2.D.pgs.length=S.D.pgs.length/\S2.L=S.L/\FrW S told n S2 r):=by
 induction h with
 |stop h=>intro c told hok hw;exact .inr ⟨rfl,rfl,.inl ⟨rfl,fun m h1 h2=>by omega,hw⟩⟩
 |told h ht hr ih=>
  rename_i S S2 n r
  intro c told hok hw
  have h0:told (n:Int)=true:=by rw[<-hw.told (n:Int) (by omega) (by omega)];exact ht
  refine(ih hok hw).imp id fun⟨a,b,h⟩=>⟨a,b,?_⟩
  rcases h with ⟨e,h1,h2⟩|⟨k,e,k1,k2,k3,k4,k5,k6⟩
  exact .inl ⟨e,fun m m1 m2=>by
   rcases Nat.eq_or_lt_of_le m1 with rfl|m1
   exact .inl h0
   exact h1 m m1 m2,h2⟩
  exact .inr ⟨k,e,by omega,k2,k3,k4,fun m m1 m2=>by
   rcases Nat.eq_or_lt_of_le m1 with rfl|m1
   exact .inl h0
   exact k5 m m1 m2,k6⟩
 |no h ht hp hk hr ih=>
  rename_i S S1 S2 n r ok
  intro c told hok hw
  obtain⟨ev,hno,_⟩:=hp.ev hok
  have hok1:=hp.ok hok
  cases hk1:ok with
  |false=>
   refine .inl (hr.off hok1 ((hno hk1).resolve_right (fun h1=>h1 (by omega))))
  |true=>
   have hk0:(af S.L (n:Int)).1≠0:=by rw[<-hw.cur (n:Int) (by omega) (by omega)];exact fun h0=>hk ⟨hk1,h0⟩
   refine(ih hok1 (ev.wi hw)).imp id fun⟨a,b,h⟩=>⟨a.trans ev.len,b.trans ev.L,?_⟩
   have eL:=ev.L
   have el:=ev.len
   rcases h with ⟨e,h1,h2⟩|⟨k,e,k1,k2,k3,k4,k5,k6⟩
   exact .inl ⟨e,fun m m1 m2=>by
    rcases Nat.eq_or_lt_of_le m1 with rfl|m1
    exact .inr hk0
    rw[<-eL];exact h1 m m1 (by omega),h2⟩
   exact .inr ⟨k,e,by omega,by omega,k3,by rw[<-eL];exact k4,fun m m1 m2=>by
    rcases Nat.eq_or_lt_of_le m1 with rfl|m1
    exact .inr hk0
    rw[<-eL];exact k5 m m1 m2,k6⟩
 |yes h ht hp hk=>
  rename_i S S1 n
  intro c told hok hw
  obtain⟨ev,_,_⟩:=hp.ev hok
  have hw1:=ev.wi hw
  refine .inr ⟨ev.len,ev.L,.inr ⟨n,rfl,Nat.le_refl _,h,by rw[<-hw.told (n:Int) (by omega) (by omega)];exact ht,by rw[<-hw.cur (n:Int) (by omega) (by omega)];exact hk,fun m m1 m2=>by omega,⟨hw1.cur,hw1.im,hw1.frm,fun m m0 m1=>?_⟩⟩⟩
  show (cd S1.told (n:Int) (some true) m).getD false= _
  unfold cd
  split
  rfl
  exact hw1.told m m0 m1
theorem FrR.sok{n:Nat}{r:Int}(h:FrR S n S2 r):∀{c:Nat},SOk S c->SOk S2 (c+3*(S.D.pgs.length-n)+1):=by
 induction h with
 |stop h=>intro c hok;exact hok.mono (by omega)
 |told h ht hr ih=>intro c hok;exact(ih hok).mono (by omega)
 |no h ht hp hk hr ih=>
  intro c hok
  have h1:=ih (hp.ok hok)
  rw[(hp.ev hok).1.len] at h1
  exact h1.mono (by omega)
 |yes h ht hp hk=>intro c hok;exact((hp.ok hok).told _ true).mono (by omega)
end
section
open Go.RowKit
theorem ej.noarm(h:SOk S c)(hp:ej S n pg S2 er)(ha:S.D.armed=false):S2.D.off=S.D.off/\S2.D.armed=false:=by
 obtain⟨S1,h1,h2⟩:=hp
 have ev:=(Ev.load h h1).1
 have hD:S2.D=S1.D:=by
  rcases h2 with ⟨_,rfl⟩|⟨_,_,rfl⟩<;>rfl
 rw[hD]
 exact⟨ev.noarm ha,ev.armed.trans ha⟩
theorem PuA.noarm{cur:Int->PgS}{l:List Int}(h:PuA cur N lsn S l S2 er):∀{c:Nat},SOk S c->(∀n∈l,bI (iy lsn (N n)))->S.D.armed=false->S2.D.off=S.D.off/\S2.D.armed=false:=by
 induction h with
 |nil S=>intro c _ _ h;exact⟨rfl,h⟩
 |bad hp h he=>
  rename_i S S2 n er l pg
  intro c hok hri ha
  have hokx:SOk (if (cur n).1≠0/\(N n).1=0 then eK S n false else S) (c+1):=by
   split
   exact hok.told n false
   exact hok.mono (by omega)
  have e:(if (cur n).1≠0/\(N n).1=0 then eK S n false else S).D=S.D:=by split<;>rfl
  have:=h.noarm hokx (by rw[e];exact ha)
  rw[e] at this;exact this
 |cons hp h hr ih=>
  rename_i S S1 S2 n er l pg
  intro c hok hri ha
  have hokx:SOk (if (cur n).1≠0/\(N n).1=0 then eK S n false else S) (c+1):=by
   split
   exact hok.told n false
   exact hok.mono (by omega)
  have e:(if (cur n).1≠0/\(N n).1=0 then eK S n false else S).D=S.D:=by split<;>rfl
  obtain⟨a,b⟩:=h.noarm hokx (by rw[e];exact ha)
  rw[e] at a
  obtain⟨a2,b2⟩:=ih (hokx.put (by rw[hp];exact hri n (by simp)) h) (fun m hm=>hri m (by simp[hm])) b
  exact⟨a2.trans a,b2⟩
theorem DoQ.noarm(hok:SOk S c)(h:DoQ S r S2 n er)(ha:S.D.armed=false):S2.D.off=S.D.off/\S2.D.armed=false:=by
 have hev:∀S':StM,Ev S S'->S'.D.off=S.D.off/\S'.D.armed=false:=fun S' ev=>⟨ev.noarm ha,ev.armed.trans ha⟩
 cases h with
 |arg h=>exact⟨rfl,ha⟩
 |page h hp he=>exact hev _ he
 |pow h hp he ho=>exact hev _ he
 |err h hp he h0=>exact hev _ he
 |full h hp he h0 hf=>exact hev _ he
 |img h hp he hk h0 hf hi hn=>
  obtain⟨k,o⟩:=hi.run
  obtain⟨a,b⟩:=hev _ he
  exact⟨(o.noarm b).trans a,o.armed.trans b⟩
 |app h hp he hk h0 hf hi hr hn=>
  rename_i S1 S2 rt
  obtain⟨k,o⟩:=hi.run
  obtain⟨a,b⟩:=hev _ he
  have s:=jn S2 rt
  have b2:=o.armed.trans b
  exact⟨(s.noarm b2).trans ((o.noarm b).trans a),s.armed.trans b2⟩
 |put h hp he hk h0 hf hi hr ha2 hu=>
  rename_i S1 S3 rt
  obtain⟨c1,hk⟩:=hk
  obtain⟨k,o⟩:=hi.run
  obtain⟨a,b⟩:=hev _ he
  have s:=jn S3 rt
  have b2:=o.armed.trans b
  have hro:∀n∈ck r.eds,0<=n/\n<(S.D.pgs.length:Int):=fun n hn=>by obtain⟨e,he,rfl⟩:=kr.1 hn;exact ld hp he
  have hokI:=hi.sok hk (fun x hx=>by obtain⟨n,hn,rfl⟩:=List.mem_map.1 hx;exact nw hok (hro n (tf hn)))
  have hok4:=hokI.append (rt:=rt) (by rw[hr];exact h.1)
  have hlb:0<=eH S r/\eH S r<=2147483647:=by
   have h1:=hok.recs_len
   have h2:=o4 S (ck r.eds)
   have h3:=jE r.eds
   have h4:=(d4 h.1).many
   unfold eH;omega
  obtain⟨a3,b3⟩:=hu.noarm hok4 (fun n _=>lY (jI (fun m=>iG hok m) h0 n) hlb) (s.armed.trans b2)
  exact⟨a3.trans ((s.noarm b2).trans ((o.noarm b).trans a)),b3⟩
structure Nice (S:StM) (L:List RecM) (told:Int->Bool) (p c:Nat):Prop where
 ok:SOk S c
 wi:WI S told
 on:S.D.off=false
 ar:S.D.armed=false
 eL:S.L=L
 ep:S.D.pgs.length=p
theorem Ev.nice{L:List RecM}{told:Int->Bool}(h:Ev S S')(ho:SOk S' c')(hn:Nice S L told p c):Nice S' L told p c':=
 ⟨ho,h.wi hn.wi,(h.noarm hn.ar).trans hn.on,h.armed.trans hn.ar,h.L.trans hn.eL,h.len.trans hn.ep⟩
theorem NewS.nice{n:Nat}{bufs:Int}(h:NewS S n note bufs):Nice S [au note] (fun _=>false) n 0:=⟨h.ok,h.wi,by rw[h.D];rfl,by rw[h.D];rfl,h.L,h.pgs⟩
theorem Nice.do{L:List RecM}{told:Int->Bool}(h:Nice S L told p c)(hq:DoQ S r S2 n er)(ho:SOk S2 c'):n=(rfD p L told r).2.1/\er=rfE p L r/\Nice S2 (rfD p L told r).1 (rfD p L told r).2.2.2 p c':=by
 obtain⟨a,b⟩:=hq.noarm h.ok h.ar
 have e1:=h.eL
 have e2:=h.ep
 rcases hq.run h.ok h.wi with ⟨h1,_⟩|⟨h1,h2,h3,h4,h5,h6⟩
 rw[a,h.on] at h1;cases h1
 rw[e1,e2] at h2 h3 h4 h6
 exact⟨h2,h3,⟨ho,h6,h1,b,h4,h5.trans e2⟩⟩
theorem Nice.page{L:List RecM}{told:Int->Bool}{ok:Bool}(h:Nice S L told p c)(hq:PaQ S n S2 ok):ok=decide (0<=n/\n<(p:Int))/\pgF S n ok=(if 0<=n/\n<(p:Int) then af L n else bp)/\Nice S2 L told p (c+3):=by
 obtain⟨ev,h1,h2⟩:=hq.ev h.ok
 have hS2:=ev.nice (hq.ok h.ok) h
 rw[h.ep] at h1 h2
 cases ok with
 |true=>
  have h3:=h2 rfl
  refine⟨(decide_eq_true h3).symm,?_,hS2⟩
  rw[if_pos h3,pgF,if_pos rfl,h.wi.cur n h3.1 (by rw[h.ep];exact h3.2),h.eL]
 |false=>
  rcases h1 rfl with h3|h3
  rw[hS2.on] at h3;cases h3
  exact⟨(decide_eq_false h3).symm,by rw[if_neg h3];rfl,hS2⟩
def frO(p:Nat)(L:List RecM)(told:Int->Bool):Option Nat:=(List.range p).find? fun k=>!told (k:Int)&&(af L (k:Int)).1==0
def frF(p:Nat)(L:List RecM)(told:Int->Bool):Int:=match frO p L told with|some k=>(k:Int)|none=> -1
def frT(p:Nat)(L:List RecM)(told:Int->Bool):Int->Bool:=match frO p L told with|some k=>fun x=>if x=(k:Int) then true else told x|none=>told
theorem yy{L:List RecM}{told:Int->Bool}(h:∀m:Nat,0<=m->m<p->told (m:Int)=true\/(af L (m:Int)).1≠0):frO p L told=none:=by
 rw[frO,List.find?_eq_none]
 intro k hk
 rcases h k (Nat.zero_le _) (List.mem_range.1 hk) with h1|h1<;>simp[h1]
theorem yK{L:List RecM}{told:Int->Bool}(hk:k<p)(h1:told (k:Int)=false)(h2:(af L (k:Int)).1=0)(h:∀m:Nat,0<=m->m<k->told (m:Int)=true\/(af L (m:Int)).1≠0):frO p L told=some k:=by
 have e:List.range p=List.range k++k::(List.range' (k+1) (p-k-1)):=by
  have h3:p=k+(1+(p-k-1)):=by omega
  conv=>lhs;rw[h3,List.range_eq_range',<-List.range'_append_1 (s:=0) (m:=k)]
  rw[List.range_eq_range',Nat.zero_add]
  congr 1
  rw[Nat.add_comm 1,List.range'_succ]
 rw[frO,e,List.find?_append,List.find?_eq_none.2 (fun m hm=>by rcases h m (Nat.zero_le _) (List.mem_range.1 hm) with h1|h1<;>simp[h1])]
 simp[h1,h2]
theorem Nice.fresh{L:List RecM}{told:Int->Bool}{r:Int}(h:Nice S L told p c)(hq:FrR S 0 S2 r):r=frF p L told/\Nice S2 L (frT p L told) p (c+3*p+1):=by
 have ho:=hq.sok h.ok
 rw[h.ep,Nat.sub_zero] at ho
 have hno:S2.D.off=S.D.off/\S2.D.armed=false:=by
  have hk:∀{S S2:StM}{n:Nat}{r:Int},FrR S n S2 r->∀{c:Nat},SOk S c->S.D.armed=false->S2.D.off=S.D.off/\S2.D.armed=false:=by
   intro S S2 n r h
   induction h with
   |stop h=>intro c _ ha;exact⟨rfl,ha⟩
   |told h ht hr ih=>intro c hok ha;exact ih hok ha
   |no h ht hp hk hr ih=>
    intro c hok ha
    obtain⟨ev,_,_⟩:=hp.ev hok
    obtain⟨a,b⟩:=ih (hp.ok hok) (ev.armed.trans ha)
    exact⟨a.trans (ev.noarm ha),b⟩
   |yes h ht hp hk=>intro c hok ha;have ev:=(hp.ev hok).1;exact⟨ev.noarm ha,ev.armed.trans ha⟩
  exact hk hq h.ok h.ar
 rcases hq.run h.ok h.wi with h1|⟨h1,h2,h3⟩
 rw[hno.1,h.on] at h1;cases h1
 have e1:=h.ep
 have e2:=h.eL
 rcases h3 with ⟨rfl,a,b⟩|⟨k,rfl,k1,k2,k3,k4,k5,k6⟩
 have e:=yy (p:=p) (L:=L) (told:=told) (fun m m1 m2=>by rw[<-e2];exact a m m1 (by omega))
 refine⟨by rw[frF,e],?_⟩
 rw[frT,e]
 exact⟨ho,b,hno.1.trans h.on,hno.2,h2.trans e2,h1.trans e1⟩
 have e:=yK (p:=p) (L:=L) (told:=told) (by omega) k3 (by rw[<-e2];exact k4) (fun m m1 m2=>by rw[<-e2];exact k5 m m1 m2)
 refine⟨by rw[frF,e],?_⟩
 rw[frT,e]
 exact⟨ho,k6,hno.1.trans h.on,hno.2,h2.trans e2,h1.trans e1⟩
theorem Nice.flush{L:List RecM}{told:Int->Bool}(h:Nice S L told p c):(opD S.D 0 flD).2=0/\Nice (dB S (opD S.D 0 flD).1) L told p c:=by
 have ev:Ev S (dB S (opD S.D 0 flD).1):=Ev.disk (c5 (P:=fun D'=>D'.pgs=S.D.pgs) rfl rfl fun _=>rfl) (c5 (P:=fun D'=>D'.log=S.D.log) rfl rfl fun _=>rfl) (c5 (P:=fun D'=>D'.fl=S.D.fl\/D'.fl=S.D.log.size) (.inl rfl) (.inl rfl) fun _=> .inr rfl) (c5 (P:=fun D'=>D'.armed=S.D.armed) rfl rfl fun _=>rfl) (fun ho=>c5 (P:=fun D'=>D'.off=true) ho rfl fun _=>ho) (fun ha=>by
  rcases mV S.D with ⟨_,e⟩|⟨_,h3,_⟩|⟨_,e⟩
  rw[e]
  rw[h3] at ha;cases ha
  rw[e];rfl)
 refine⟨?_,ev.nice h.ok.flush h⟩
 rcases mV S.D with ⟨h1,_⟩|⟨_,h3,_⟩|⟨_,e⟩
 rw[h.on] at h1;cases h1
 rw[h.ar] at h3;cases h3
 rw[e]
theorem Nice.write{L:List RecM}{told:Int->Bool}(h:Nice S L told p c)(hq:WrQ S n S2 er):er=(if 0<=n/\n<(p:Int) then 0 else 22)/\Nice S2 L told p (c+4):=by
 obtain⟨S1,er1,h1,h2⟩:=hq
 obtain⟨ev,a,b⟩:=Ev.load h.ok h1
 have hok1:=h.ok.load h1
 have hN1:=ev.nice hok1 h
 rcases h2 with ⟨h3,rfl,rfl⟩|⟨rfl,t,ht,hn,h4⟩
 have hnr:=(a h3).resolve_left (by rw[hN1.on];decide)
 rw[h.ep] at hnr
 refine⟨?_,⟨hok1.mono (by omega),hN1.wi,hN1.on,hN1.ar,hN1.eL,hN1.ep⟩⟩
 rw[if_neg hnr]
 cases h1 with
 |hit t ht hn=>exact absurd rfl h3
 |bad h5 h6=>
  unfold rdS at h3 |-
  rw[h.on,if_neg (by decide),h.ep,if_neg hnr]
 |new t blk A cc h5 h6 h7=>exact absurd (by rw[<-h.ep];exact wm h6) hnr
 have hr:=(b rfl).1
 rw[h.ep] at hr
 have e4:(bL S1 t).1=S2/\(bL S1 t).2=er:=⟨by rw[h4],by rw[h4]⟩
 obtain⟨ev2,ho2⟩:=Ev.write hok1 ht
 rw[e4.1] at ev2 ho2
 rw[e4.2] at ho2
 have hN2:=ev2.nice (e4.1 ▸ hok1.write t ht) hN1
 refine⟨?_,hN2⟩
 rw[if_pos hr]
 refine Classical.byContradiction fun h5=>?_
 have:=ho2 h5
 rw[hN2.on] at this;cases this
end
section
open Go.RowKit
theorem Nice.rr{L:List RecM}{told:Int->Bool}(h:Nice S L told p c)(q:List RcT):Nice {S with rr:=q} L told p c:=⟨h.ok.rr q,⟨h.wi.cur,h.wi.im,h.wi.frm,h.wi.told⟩,h.on,h.ar,h.eL,h.ep⟩
theorem Nice.mono{L:List RecM}{told:Int->Bool}(h:Nice S L told p c)(hc:c<=c'):Nice S L told p c':=⟨h.ok.mono hc,h.wi,h.on,h.ar,h.eL,h.ep⟩
theorem ClA.run{l:List Int}(h:ClA S l S2 er):∀{c:Nat},SOk S c->Ev S S2/\SOk S2 (c+l.length)/\(er≠0->S2.D.off=true):=by
 induction h with
 |nil S=>intro c h;exact⟨Ev.refl S,h,fun h=>absurd rfl h⟩
 |bad ht he=>
  intro c h
  obtain⟨a,b⟩:=Ev.clean h ht
  exact⟨a,(h.clean _ ht).mono (by simp only[List.length_cons];omega),b⟩
 |cons ht he hr ih=>
  intro c h
  obtain⟨a,_⟩:=Ev.clean h ht
  obtain⟨a2,b2,d2⟩:=ih (h.clean _ ht)
  exact⟨a.trans a2 h.fl,b2.mono (by simp only[List.length_cons];omega),d2⟩
theorem GQ{D:DkM}(n:Int):shP (opD D 0 syD).1 n=shP D n:=c5 (P:=fun D'=>shP D' n=shP D n) rfl rfl fun _=>by
 show rdP (rdT ((D.pgs.map syS).getD n.toNat fO)).1= _
 have e:(D.pgs.map syS).getD n.toNat fO=syS (D.pgs.getD n.toNat fO):=by
  rw[List.getD,List.getD,List.getElem?_map]
  cases D.pgs[n.toNat]? <;>rfl
 rw[e];rfl
theorem H4(S:StM)(n:Int):aF (dB S (opD S.D 0 syD).1) n=aF S n:=by
 show (match S.pool.find? (fun t=>t.n==n) with|some t=>t.pg.p|none=>shP (opD S.D 0 syD).1 n)=aF S n
 rw[GQ];rfl
theorem Nice.sync{L:List RecM}{told:Int->Bool}(h:Nice S L told p c):(opD S.D 0 syD).2=0/\Nice (dB S (opD S.D 0 syD).1) L told p c:=by
 have hl:(opD S.D 0 syD).1.pgs.length=S.D.pgs.length:=c5 (P:=fun D'=>D'.pgs.length=S.D.pgs.length) rfl rfl fun _=>List.length_map ..
 rcases xn S.D 0 syD with ⟨h1,_⟩|⟨_,h1,_⟩|⟨_,_,h1,_⟩|⟨_,_,e⟩
 rw[h.on] at h1;cases h1
 exact absurd rfl h1
 rw[h.ar] at h1;cases h1
 have hw:WI (dB S (opD S.D 0 syD).1) told:=⟨fun n n0 n1=>by
  rw[H4]
  exact h.wi.cur n n0 (by rw[<-hl];exact n1),fun n n0 n1=>h.wi.im n n0 (by rw[<-hl];exact n1),h.wi.frm,fun n n0 n1=>h.wi.told n n0 (by rw[<-hl];exact n1)⟩
 refine⟨by rw[e],⟨h.ok.sync,hw,?_,?_,h.eL,hl.trans h.ep⟩⟩
 show (opD S.D 0 syD).1.off=false
 rw[e];exact h.on
 show (opD S.D 0 syD).1.armed=false
 rw[e];exact h.ar
def eG(L:List RecM)(note:ByteArray):Int:=if 60000<note.size then 1 else if 1048576<szF L+(aA (au note)).size then 31 else 0
def ckL(L:List RecM)(note:ByteArray):List RecM:=if eG L note=0 then L++[au note] else L
theorem Nice.app{L:List RecM}{told:Int->Bool}(h:Nice S L told p c)(hn:note.size<=60000)(he:br S (rcI (au note))=(S2,0)):SOk S2 c/\(∀n:Int,0<=n->n<(p:Int)->aF S2 n=af (L++[au note]) n)/\S2.D.off=false/\S2.D.armed=false/\S2.L=L++[au note]/\S2.D.pgs.length=p/\S2.told=S.told/\S2.recs.length=S.recs.length+1:=by
 have s:=jn S (rcI (au note))
 have hok:=h.ok.append (rt:=rcI (au note)) (dz hn)
 rw[he] at s hok
 obtain⟨s1,s2,s3⟩:=s.ok rfl
 refine⟨hok,fun n n0 n1=>?_,s1,s.armed.trans h.ar,?_,?_,s.told,?_⟩
 rw[gk]
 show aF S2 n=af L n
 rw[aF,s.pool,ie s.pgs,<-h.eL,<-h.wi.cur n n0 (by rw[h.ep];exact n1)];rfl
 show S2.recs.map RcT.r= _
 rw[s2,List.map_append,<-h.eL];rfl
 rw[s.pgs];exact h.ep
 rw[s2];simp
theorem Nice.check{L:List RecM}{told:Int->Bool}(h:Nice S L told p c)(hq:CkQ S note S2 er)(ho:SOk S2 c'):er=eG L note/\Nice S2 (ckL L note) told p c':=by
 have hlz:S.D.log.size=szF L:=by rw[h.ok.log,cj,h.eL]
 have hno:∀e:Int,eG L note=e->e≠0->ckL L note=L:=fun e h1 h2=>if_neg (by rw[h1];exact h2)
 have hcl:∀{q:List RcT}{ns:List Int}{S1:StM}{e:Int},ClA {S with rr:=q} ns S1 e->Nice S1 L told p (c+ns.length)/\e=0:=fun {q ns S1 e} hc=>by
  obtain⟨ev,ok,off⟩:=hc.run (h.rr q).ok
  have hN:=ev.nice ok (h.rr q)
  refine⟨hN,Classical.byContradiction fun h1=>?_⟩
  have:=off h1
  rw[hN.on] at this;cases this
 cases hq with
 |arg h1=>
  have e:eG L note=1:=if_pos h1
  exact⟨e.symm,by rw[hno 1 e (by decide)];exact⟨ho,h.wi,h.on,h.ar,h.eL,h.ep⟩⟩
 |full h1 hf=>
  have e:eG L note=31:=by rw[eG,if_neg (by omega),if_pos (by omega)]
  rw[hno 31 e (by decide)]
  exact⟨e.symm,⟨ho,(h.rr _).wi,h.on,h.ar,h.eL,h.ep⟩⟩
 |cl h1 hf hns hc he=>exact absurd (hcl hc).2 he
 |sync h1 hf hns hc he=>exact absurd (hcl hc).1.sync.1 he
 |app h1 hf hns hc h3 he=>
  rename_i q ns S1
  have hN:=(hcl hc).1.sync.2
  exfalso
  rcases((jn _ _).no he).2.2 with ⟨_,c1⟩|⟨_,_,c2⟩
  have:=(jn (dB S1 (opD S1.D 0 syD).1) (rcI (au note))).noarm hN.ar
  rw[this,hN.on] at c1;cases c1
  have:szF L+(aA (au note)).size<=1048576:=by omega
  have h5:(dB S1 (opD S1.D 0 syD).1).D.log.size=szF L:=by rw[hN.ok.log,cj,hN.eL]
  rw[h5] at c2
  have h6:(aA (rcI (au note)).r).size=(aA (au note)).size:=rfl
  omega
 |flush h1 hf hns hc h3 h2 he=>
  rename_i q ns S1 S3
  have hN:=(hcl hc).1.sync.2
  obtain⟨a1,a2,a3,a4,a5,a6,a7,a8⟩:=hN.app h1 h2
  exfalso
  rcases mV S3.D with ⟨c1,_⟩|⟨_,c1,_⟩|⟨_,c1⟩
  rw[a3] at c1;cases c1
  rw[a4] at c1;cases c1
  rw[c1] at he;exact he rfl
 |ok h1 hf hns hc h3 h2 he=>
  rename_i q ns S1 S3
  have hN:=(hcl hc).1.sync.2
  obtain⟨a1,a2,a3,a4,a5,a6,a7,a8⟩:=hN.app h1 h2
  have e:eG L note=0:=by rw[eG,if_neg (by omega),if_neg (by omega)]
  have eL:ckL L note=L++[au note]:=if_pos e
  refine⟨e.symm,?_⟩
  rw[eL]
  have hp:(opD S3.D 0 flD).1.pgs=S3.D.pgs:=c5 (P:=fun D'=>D'.pgs=S3.D.pgs) rfl rfl fun _=>rfl
  have hoff:(opD S3.D 0 flD).1.off=false:=by rw[(mL he).2.2];exact a3
  have har:(opD S3.D 0 flD).1.armed=false:=by rw[(mL he).2.2];exact a4
  have hlen:(opD S3.D 0 flD).1.pgs.length=p:=by rw[hp];exact a6
  refine⟨ho,⟨fun n n0 n1=>?_,fun n n0 n1=>?_,?_,fun n n0 n1=>?_⟩,hoff,har,a5,hlen⟩
  have n1:n<((opD S3.D 0 flD).1.pgs.length:Int):=n1
  rw[hlen] at n1
  show (match S3.pool.find? (fun t=>t.n==n) with|some t=>t.pg.p|none=>shP (opD S3.D 0 flD).1 n)=af S3.L n
  rw[a5,<-a2 n n0 n1,ie hp];rfl
  show false=eT S3.L n
  rw[a5,nz,if_pos (show (au note).kind=9 from rfl)]
  show (S3.recs.length:Int)=(be S3.L:Int)
  rw[a5,fc,if_pos (show (au note).kind=9 from rfl),a8]
  have:(dB S1 (opD S1.D 0 syD).1).recs.length=L.length:=by rw[<-hN.eL];exact(List.length_map ..).symm
  rw[this]
  have n1:n<((opD S3.D 0 flD).1.pgs.length:Int):=n1
  rw[hlen] at n1
  show (S3.told n).getD false=told n
  rw[a7]
  exact hN.wi.told n n0 (by rw[hN.ep];exact n1)
end
section
open Go.RowKit
theorem yP(s:ByteArray)(w:World)(hs:s.size<=9223372036854775807):
  Calls P_ 75 #[.string s] w (gK (.int .u32 (bc s)) w):=by
 go_enter func75,ntmps75
 go_wp2
 go_loop [3,4,5] (fun x y v=>∃k:Nat,v= .int .i64 k/\k<=s.size/\x= .int .i64 (adl (s.data.toList.take k)).1/\y= .int .i64 (adl (s.data.toList.take k)).2) (fun _ _ v=>s.size-(intOf v).toNat)
 case atStart=>exact⟨0,rfl,Nat.zero_le _,rfl,rfl⟩
 case round=>
  obtain⟨k,rfl,hk,rfl,rfl⟩:=hrel
  have hlt:=zo (s.data.toList.take k)
  rcases Nat.lt_or_ge k s.size with hk1|hk1
  ·have HS:=Lib.hid (yE s k hk1)
   obtain⟨a,ha⟩:∃a,a=(adl (s.data.toList.take k)).1:=⟨_,rfl⟩
   obtain⟨b,hb⟩:∃b,b=(adl (s.data.toList.take k)).2:=⟨_,rfl⟩
   rw[<-ha,<-hb] at HS hlt |-
   obtain⟨hlt1,hlt2⟩:=hlt
   have hcb:s[k].toNat<256:=UInt8.toNat_lt _
   clear ha hb
   obtain⟨c,hc⟩:∃c:UInt8,c=s[k]:=⟨_,rfl⟩
   have HC:=Lib.hid hc
   have hk2:(k:Int)<(s.size:Int):=by omega
   have hk3:(0:Int)<=(k:Int):=by omega
   clear hc
   go_wp2
   go_round
   case rel=>exact⟨k+1,by go_num,by omega,by rw[HS.out];congr 1,by rw[HS.out];congr 1⟩
   case measure=>simp[intOf];omega
  obtain rfl:k=s.size:=by omega
  have e:s.data.toList.take s.size=s.data.toList:=List.take_of_length_le (by simp)
  rw[e] at hlt |-
  obtain⟨a,ha⟩:∃a,a=(adl s.data.toList).1:=⟨_,rfl⟩
  obtain⟨b,hb⟩:∃b,b=(adl s.data.toList).2:=⟨_,rfl⟩
  rw[<-ha,<-hb] at hlt |-
  obtain⟨hlt1,hlt2⟩:=hlt
  have HF:=Lib.hid (show bc s=b*65536+a by rw[bc,<-ha,<-hb])
  clear e ha hb
  go_wp2
  go_ret
  exact gK.int (by rw[HF.out];omega) (Ext.refl _)
def shN(N:Int)(k:Nat):Int:=N / 256^k
theorem Jf(N:Int):shN N 0=N:=by simp[shN]
theorem GL(N:Int)(k:Nat):(shN N k).fdiv (2^8)=shN N (k+1):=by
 rw[shN,shN,Int.fdiv_eq_ediv_of_nonneg _ (by decide),Int.pow_succ]
 exact Int.ediv_ediv_of_nonneg (Int.le_of_lt (Int.pow_pos (by decide)))
theorem DV(N:Int):ah N 0=⟨#[]⟩:=rfl
theorem w5(N:Int)(h:k<8):ah N (k+1)=strOfNums [shN N k % 256]++ah N k:=by
 apply go
 rw[cN]
 unfold ah bl
 rw[strOfNums_data,strOfNums_data,strOfNums_data,<-List.map_append]
 congr 1
 have hu:IntKind.u64.wrap N=N % 18446744073709551616:=by rw[IntKind.wrap_u64]
 unfold lO shN
 rw[hu]
 rcases(by omega:k=0\/k=1\/k=2\/k=3\/k=4\/k=5\/k=6\/k=7) with rfl|rfl|rfl|rfl|rfl|rfl|rfl|rfl<;>
  simp only[Nat.reduceSub,Nat.reduceAdd,Int.reducePow,List.drop_succ_cons,List.drop_zero,List.cons_append,List.nil_append,List.cons.injEq,and_true]<;>omega
theorem LD{x:Int}(h:(decide (x<0)||decide (399<x))=true):false=edR (x,sl,s):=by
 have:inB x 0 399=false:=by
  simp only[Bool.or_eq_true,decide_eq_true_eq] at h
  unfold inB
  rcases h with h|h
  rw[decide_eq_false (by omega)];rfl
  rw[decide_eq_false (p:=x<=399) (by omega)];simp
 rw[lr,this];rfl
theorem DX{x:Int}(h:(decide (x<0)||decide (399<x))=false):inB x 0 399=true:=by
 simp only[Bool.or_eq_false_iff,decide_eq_false_iff_not] at h
 unfold inB
 rw[decide_eq_true (by omega),decide_eq_true (by omega)];rfl
theorem KL{x:Int}(h:(decide (x<0)||decide (399<x))=false)(h2:(sl== -1)=true):(((s.size:Int)==1)&&decide (bU (bl s) 0<=2))=edR (x,sl,s):=by
 rw[lr,DX h,if_pos (by simpa using h2),Bool.true_and,eX,Bool.not_or]
 congr 1
 rw[Bool.eq_iff_iff];simp;omega
 rw[Bool.eq_iff_iff];simp
theorem Ll{x:Int}(h:(decide (x<0)||decide (399<x))=false)(h2:(sl== -1)=false):((decide (0<=sl)&&decide (sl<=23))&&decide ((s.size:Int)<=400))=edR (x,sl,s):=by
 rw[lr,DX h,if_neg (by simpa using h2),Bool.true_and];rfl
theorem BP(h:bt r=true->False):false=bt r:=by
 cases hr:bt r
 rfl
 exact(h hr).elim
theorem Hz(h:RecOk r):true=bt r:=by
 symm
 simp only[bt,inB,Bool.and_eq_true,decide_eq_true_eq,List.all_eq_true]
 exact⟨h.kind,h.xid,h.tbl,by have:=h.many;omega,h.eds,by have:=h.note;omega⟩
theorem apn(s:ByteArray):s++(⟨#[]⟩:ByteArray)=s:=by apply go;rw[cN];exact List.append_nil _
theorem Mw(a b c:ByteArray):(a++b)++c=b8 [a,b,c]:=by rw[bx,bx,bx,fP,apn,ByteArray.append_assoc]
theorem On(a b c:ByteArray):(a++b)++c=b8 [b8 [a,b],c]:=by rw[bx,bx,bx,bx,fP,apn,apn,ByteArray.append_assoc]
theorem OK(a b c d:ByteArray):b8 [a,b,c,d]=((a++b)++c)++d:=by rw[bx,bx,bx,bx,fP,apn,ByteArray.append_assoc,ByteArray.append_assoc]
theorem Ox(a b c d e f:ByteArray):((((a++b)++c)++d)++e)++f=b8 [a,b,c,d,e,f]:=by rw[bx,bx,bx,bx,bx,bx,fP,apn,ByteArray.append_assoc,ByteArray.append_assoc,ByteArray.append_assoc,ByteArray.append_assoc]
section
variable{P:Program}{o:Oper}{ρ:Operand->Value}{W:World}
theorem Lm{t t':TypeId}{x y:Operand}{k k':IntKind}{z:Int}(h:o.op= .binOp .shr t x y t')(hx:ρ x= .int k a)(hy:ρ y= .int k' b)(hb:0<=b)(hz:a.fdiv (2^min b.toNat k.bits)=z):(execOp ρ o).run P W= .ok (.value (.int k z)) W:=by
 subst hz
 unfold execOp;rw[h]
 have:¬b<0:=by omega
 simp[hx,hy,eqGuard,binOp,Op.shift,this]
end
theorem fb(N:Int)(m:Nat)(w:World)(hm:m<=8):
  Calls P_ 74 #[.int .i64 N,.int .i64 ((m:Int))] w (Ret (.string (ah N m)) w):=by
 go_enter func74,ntmps74
 have aj:=St.start w
 refine wsq [.k 4 (.string ⟨#[]⟩)] ?_
 refine aa (wsq [.k 5 (.string ⟨#[]⟩)] ?_)
 refine aa (wq (wsq [.k 6 (vi 0)] ?_))
 refine aa (wp_block ?_)
 refine aQ (fun t_ mz az W=>∃k:Nat,k<=m/\mz=m-k/\az=⟨(ovr (jv az) [(0,0,0,[vi (shN N k)]),(4,5,0,[.string (ah N k),vi ((k:Int))]),(0,7,14,[])] t_).toArray,[]⟩/\St w [] [] W) (m-0) ?_ ?_
 exact⟨0,by omega,rfl,(by rw[Jf,DV];rfl),aj.pk []⟩
 rintro n4 a4 W4 ⟨k,hk,rfl,hj_,aZ⟩
 refine ovz hj_ fun US=>?_
 refine wq (wsq [.m 7 6,.m 8 1,.k 9 (.bool (decide ((k:Int)<(m:Int))))] ?_)
 refine aa (wds (fun NP I3=>?_) fun NP I3=>?_)
 refine wp_skip (aa (wq (wp_block (wsq [.m 12 0,sAn 13 .i64 (shN N k) 255 ((shN N k) % 256) (w9 (shN N k) 8 (by decide)),sW 14 .u8 ((shN N k) % 256) ((shN N k) % 256) (IntWalk.u8_in _ (by omega))] ?_))))
 refine d9 (fun x_=>sA x_) (fun vG=> .slice vG 1 1) (fun vG=>eO 5 1 (.slice vG 1 1) 1 ([.int .u8 ((shN N k) % 256)])) aZ (by
   refine svA fun d f W X cx=>?_
   have QU:d (.tmp 14)= .int .u8 ((shN N k) % 256):=(cx.ou 14)
   exact dA (e:=5) (xs:=[.int .u8 ((shN N k) % 256)]) rfl (by simp[go_sem,QU]) rfl (by decide) rfl rfl (fun _ _ _ _ _=> .intro)) fun vG sF cP=>?_
 refine sql (.string (strOfNums ([((shN N k) % 256)]))) cP (fun cx=>k8 (e:=5) rfl (by kernel_rfl) (by kernel_rfl) (by kernel_rfl) (cx.ou 15) (cx.ri 0 rfl)) ?_
 refine sqp [.m 17 5] ?_
 refine sql (.string (ah N (k+1))) cP (fun cx=>(by rw[w5 N (by omega)];exact ub rfl (cx.ou 16) (cx.ou 17) (by rw[strOfNums_size,aE N k (by omega)];first|omega|(simp only[List.length_cons,List.length_nil];omega)))) ?_
 refine sqp [.m 5 18] ?_
 refine aa (sqs [.m 19 0] ?_)
 refine sql (vi (shN N (k+1))) cP (fun cx=>Lm rfl (cx.ou 19) (cx.co _) (by decide) (GL N k)) ?_
 refine sqp [.m 0 20] ?_
 refine aq (aa (sqs [.m 10 6,sI 11 ((k:Int)+1) (by omega),.m 6 11] ?_))
 refine aa ?_
 refine⟨m-((k+1)),by omega,?_⟩
 exact⟨(k+1),by omega,rfl,(by kernel_rfl),cP.pk []⟩
 refine wp_exit (al (al (bf (aa (wsq [.m 21 5,.m 4 21] ?_)))))
 exact aa (wp_ret (bpr (.string (ah N k)) (ag results74 rpt) (Ret.of (by rw[show k=m by omega]) aZ.ext)))
theorem kO(s:ByteArray)(w:World)(hs:s.size<=65535):
  Calls P_ 139 #[.string s] w (Ret (.string (aV s)) w):=by
 have hp:=aE (s.size:Int) 2 (by omega)
 go_enter func139,ntmps139
 have aj:=St.start w
 refine wsq [.k 2 (.string ⟨#[]⟩)] ?_
 refine aa (wsq [.m 3 0,.k 4 (vi ((s.size:Int)))] ?_)
 refine sqk (.string (ah (s.size:Int) 2)) aj (fun cx=>⟨_,fb (s.size:Int) 2 _ (by omega),(aN (cx.ou 4) (cx.co _))⟩) fun W4 aZ=>?_
 refine sqp [.m 6 0,sS 7 (ah (s.size:Int) 2) s (by omega),.m 2 7] ?_
 exact aa (wp_ret (bpr (.string ((ah (s.size:Int) 2)++s)) (ag results139 rpt) (Ret.of rfl aZ.ext)))
theorem AU(x sl:Int)(s:ByteArray)(w:World)(hs:s.size<=9223372036854775807):
  Calls P_ 49 #[.agg #[.int .i64 x,.int .i64 sl,.string s]] w (Ret (.bool (edR (x,sl,s))) w):=by
 go_enter func49,ntmps49
 have aj:=St.start w
 refine wq (sqr ?_)
 refine bX #[vi x,vi sl,.string s] aj fun ay W1 ax=>?_
 refine sqp [.k 2 (.bool false)] ?_
 refine aa (wq (wsq [.k 3 (vp ay)] ?_))
 refine am 0 ax ?_
 refine sqp [.k 5 (.bool (decide (x<0))),.m 6 5] ?_
 refine d3 6 [7,8,9] ?_ rfl (fun hq=>?_) ?_
 rotate_left
 refine sqp [.k 7 (vp ay)] ?_
 refine am 0 ax ?_
 refine sqp [.k 9 (.bool (decide (399<x)))] ?_
 exact sqe
 refine c7 ?_
 refine sqp [sPo 10 (decide (x<0)) (decide (399<x))] ?_
 refine aa (wbs (fun dq=>?_) fun dq=>?_)
 have g0:=dq
 simp only[zB] at g0
 refine wsq [.k 2 (.bool false)] ?_
 refine aa (wp_ret (ai ?_))
 exact bpr (.bool false) (ag results49 rpt) (Ret.bool (LD dq) ax.ext)
 have g0:=dq
 simp only[zB] at g0
 obtain⟨Nl,Nm⟩:=g0
 refine wp_skip (aa (wq (wsq [.k 11 (po ay 1)] ?_)))
 refine am 0 ax ?_
 refine sqp [.k 13 (.bool (sl==(-1)))] ?_
 refine aa (wbs (fun dj=>?_) fun dj=>?_)
 ·have mf:=beq_iff_eq.1 dj
  refine wsq [.k 14 (po ay 2)] ?_
  refine am 0 ax ?_
  refine sqp [.k 16 (vi ((s.size:Int))),.k 17 (.bool ((s.size:Int)==1)),.m 18 17] ?_
  refine d3 18 [19,20,21,22] ?_ rfl (fun hq=>?_) ?_
  rotate_left
  have hq_:=hq
  try simp only[zB] at hq_
  refine sqp [.k 19 (po ay 2)] ?_
  refine am 0 ax ?_
  refine sql (.int .u8 (bU (bl s) 0)) ax (fun cx=>jS (m:=0) rfl (by kernel_rfl) (cx.ou 20) (cx.co _) (by omega) (by omega)) ?_
  refine sqp [.k 22 (.bool (decide (bU (bl s) 0<=2)))] ?_
  exact sqe
  refine c7 ?_
  refine sqp [sPa 23 ((s.size:Int)==1) (decide (bU (bl s) 0<=2)),.m 2 23] ?_
  refine aa (wp_ret (ai ?_))
  exact bpr (.bool (((s.size:Int)==1)&&(decide (bU (bl s) 0<=2)))) (ag results49 rpt) (Ret.bool (KL dq dj) ax.ext)
 have mf:=beq_eq_false_iff_ne.1 dj
 refine wp_skip (aa (wsq [.k 24 (po ay 1)] ?_))
 refine am 0 ax ?_
 refine sqp [.k 26 (.bool (decide (0<=sl))),.m 27 26] ?_
 refine d3 27 [28,29,30] ?_ rfl (fun hq=>?_) ?_
 rotate_left
 refine sqp [.k 28 (po ay 1)] ?_
 refine am 0 ax ?_
 refine sqp [.k 30 (.bool (decide (sl<=23)))] ?_
 exact sqe
 refine c7 ?_
 refine sqp [sPa 31 (decide (0<=sl)) (decide (sl<=23)),.m 32 31] ?_
 refine d3 32 [33,34,35,36] ?_ rfl (fun hq=>?_) ?_
 rotate_left
 refine sqp [.k 33 (po ay 2)] ?_
 refine am 0 ax ?_
 refine sqp [.k 35 (vi ((s.size:Int))),.k 36 (.bool (decide ((s.size:Int)<=400)))] ?_
 exact sqe
 refine c7 ?_
 refine sqp [sPa 37 ((decide (0<=sl))&&(decide (sl<=23))) (decide ((s.size:Int)<=400)),.m 2 37] ?_
 exact aa (wp_ret (bpr (.bool (((decide (0<=sl))&&(decide (sl<=23)))&&(decide ((s.size:Int)<=400)))) (ag results49 rpt) (Ret.bool (Ll dq dj) ax.ext)))
theorem sU(w:World):
  Calls P_ 50 #[sn] w (Ret (.bool true) w):=by
 go_enter func50,ntmps50
 have aj:=St.start w
 refine wsq [.k 2 (.bool false)] ?_
 refine aa (wq (wsq [.k 3 (vi 0)] ?_))
 refine aa (wp_block ?_)
 refine aQ (fun t_ mz az W=>∃j:Nat,j<=0/\mz=0-j/\az=⟨(ovr (jv az) [(2,2,1,[vi ((j:Int))]),(0,4,12,[])] t_).toArray,[]⟩/\St w [] [] W) (0-0) ?_ ?_
 exact⟨0,Nat.zero_le _,rfl,(by kernel_rfl),aj.pk []⟩
 rintro n3 a3 W3 ⟨j,hj,rfl,hj_,aU⟩
 refine ovz hj_ fun R0=>?_
 refine wq (wq (sqr ?_))
 have hd8:(decide ((j:Int)<0))=false:=(decide_eq_false (by omega))
 refine sqp [.m 4 3,.m 5 0,.k 6 (vi 0),.e 7 (.bool (decide ((j:Int)<0))) (.bool false) (congrArg Value.bool hd8)] ?_
 refine aa (wcf rfl (wp_exit (al (al (bf (aa (wsq [.m 16 0,.k 17 (vi 0),.k 18 (.bool true),.k 2 (.bool true)] ?_)))))))
 exact aa (wp_ret (bpr (.bool true) (ag results50 rpt) (Ret.bool (by decide) aU.ext)))
theorem GH(w:World):
  Calls P_ 170 #[.int .i64 0] w (Ret (.string ⟨#[0]⟩) w):=by
 go_enter func170,ntmps170
 have aj:=St.start w
 refine wsq [.k 2 (.string ⟨#[]⟩)] ?_
 refine aa (wsq [.m 3 0,sW 4 .u8 0 0 (by decide)] ?_)
 refine d9 (fun x_=>sA x_) (fun Du=> .slice Du 1 1) (fun Du=>eO 5 1 (.slice Du 1 1) 1 ([.int .u8 0])) aj (by
   refine svA fun d f W X cx=>?_
   have ve:d (.tmp 4)= .int .u8 0:=(cx.ou 4)
   exact dA (e:=5) (xs:=[.int .u8 0]) rfl (by simp[go_sem,ve]) rfl (by decide) rfl rfl (fun _ _ _ _ _=> .intro)) fun Du W4 aZ=>?_
 refine sql (.string (strOfNums ([0]))) aZ (fun cx=>k8 (e:=5) rfl (by kernel_rfl) (by kernel_rfl) (by kernel_rfl) (cx.ou 5) (cx.ri 0 rfl)) ?_
 refine sqp [.m 2 6] ?_
 exact aa (wp_ret (bpr (.string (strOfNums ([0]))) (ag results170 rpt) (Ret.of rfl aZ.ext)))
theorem ua(w:World):
  Calls P_ 140 #[sn] w (Ret (.string ⟨#[0]⟩) w):=by
 go_enter func140,ntmps140
 have aj:=St.start w
 refine wsq [.k 2 (.string ⟨#[]⟩)] ?_
 refine aa (wq (wsq [.m 5 0] ?_))
 refine sqk (.bool true) aj (fun cx=>⟨_,sU _,(av (cx.ou 5))⟩) fun W3 aU=>?_
 refine sqp [.k 7 (.bool false)] ?_
 refine aa (wcf rfl (wp_skip (aa (wsq [.m 8 0,.k 9 (vi 0)] ?_))))
 refine sqk (.string ((⟨#[0]⟩:ByteArray))) aU (fun cx=>⟨_,GH _,(av (cx.ou 9))⟩) fun W7 aW=>?_
 refine sqp [.m 3 10] ?_
 refine aa (wq (wsq [.k 4 (vi 0)] ?_))
 refine aa (wp_block ?_)
 refine aQ (fun t_ mz az W=>∃j:Nat,j<=0/\mz=0-j/\az=⟨(ovr (jv az) [(4,4,0,[vi ((j:Int))]),(6,11,49,[])] t_).toArray,[]⟩/\St w [] [] W) (0-0) ?_ ?_
 exact⟨0,Nat.zero_le _,rfl,(by kernel_rfl),aW.pk []⟩
 rintro UT a10 xw ⟨j,hj,rfl,hj_,dL⟩
 refine ovz hj_ fun TS=>?_
 refine wq (wq (sqr ?_))
 have hd15:(decide ((j:Int)<0))=false:=(decide_eq_false (by omega))
 refine sqp [.m 11 4,.m 12 0,.k 13 (vi 0),.e 14 (.bool (decide ((j:Int)<0))) (.bool false) (congrArg Value.bool hd15)] ?_
 refine aa (wcf rfl (wp_exit (al (al (bf (aa (wsq [.m 60 3,.m 2 60] ?_)))))))
 exact aa (wp_ret (bpr (.string ((⟨#[0]⟩:ByteArray))) (ag results140 rpt) (Ret.of rfl dL.ext)))
theorem mB(k x t:Int)(A:Option Addr)(c:Nat)(l:List EdT)(note:ByteArray)(w:World)(hA:At w A (l.flatMap edC))(hl:l.length<=1000000)(hz:∀e∈l,e.2.2.size<=9223372036854775807)(hns:note.size<=9223372036854775807):
  Calls P_ 16 #[.agg #[.int .i64 k,.int .i64 x,.int .i64 t,sn,sn,.slice A l.length c,sn,.string note]] w (Ret (.bool (bt ⟨k,x,t,l,note⟩)) w):=by
 go_enter func16,ntmps16
 have aj:=St.start w
 refine wq (sqr ?_)
 refine bX #[vi k,vi x,vi t,sn,sn,.slice A l.length c,sn,.string note] aj fun ay W1 ax=>?_
 refine sqp [.k 2 (.bool false)] ?_
 refine aa (wq (wsq [.k 6 (vp ay)] ?_))
 refine am 0 ax ?_
 refine sqp [.k 8 (.bool (decide (k<1))),.m 9 8] ?_
 refine d3 9 [10,11,12] ?_ rfl (fun hq=>?_) ?_
 rotate_left
 refine sqp [.k 10 (vp ay)] ?_
 refine am 0 ax ?_
 refine sqp [.k 12 (.bool (decide (10<k)))] ?_
 exact sqe
 refine c7 ?_
 refine sqp [sPo 13 (decide (k<1)) (decide (10<k)),.m 14 13] ?_
 refine d3 14 [15,16,17] ?_ rfl (fun hq=>?_) ?_
 rotate_left
 refine sqp [.k 15 (po ay 1)] ?_
 refine am 0 ax ?_
 refine sqp [.k 17 (.bool (decide (x<0)))] ?_
 exact sqe
 refine c7 ?_
 refine sqp [sPo 18 ((decide (k<1))||(decide (10<k))) (decide (x<0)),.m 19 18] ?_
 refine d3 19 [20,21,22] ?_ rfl (fun hq=>?_) ?_
 rotate_left
 refine sqp [.k 20 (po ay 1)] ?_
 refine am 0 ax ?_
 refine sqp [.k 22 (.bool (decide (127<x)))] ?_
 exact sqe
 refine c7 ?_
 refine sqp [sPo 23 (((decide (k<1))||(decide (10<k)))||(decide (x<0))) (decide (127<x)),.m 24 23] ?_
 refine d3 24 [25,26,27] ?_ rfl (fun hq=>?_) ?_
 rotate_left
 refine sqp [.k 25 (po ay 2)] ?_
 refine am 0 ax ?_
 refine sqp [.k 27 (.bool (decide (t<0)))] ?_
 exact sqe
 refine c7 ?_
 refine sqp [sPo 28 ((((decide (k<1))||(decide (10<k)))||(decide (x<0)))||(decide (127<x))) (decide (t<0)),.m 29 28] ?_
 refine d3 29 [30,31,32] ?_ rfl (fun hq=>?_) ?_
 rotate_left
 refine sqp [.k 30 (po ay 2)] ?_
 refine am 0 ax ?_
 refine sqp [.k 32 (.bool (decide (65535<t)))] ?_
 exact sqe
 refine c7 ?_
 refine sqp [sPo 33 (((((decide (k<1))||(decide (10<k)))||(decide (x<0)))||(decide (127<x)))||(decide (t<0))) (decide (65535<t)),.m 34 33] ?_
 refine d3 34 [35,36,37,38] ?_ rfl (fun hq=>?_) ?_
 rotate_left
 refine sqp [.k 35 (po ay 5)] ?_
 refine am 0 ax ?_
 refine sqp [.k 37 (vi ((l.length:Int))),.k 38 (.bool (decide (64<(l.length:Int))))] ?_
 exact sqe
 refine c7 ?_
 refine sqp [sPo 39 ((((((decide (k<1))||(decide (10<k)))||(decide (x<0)))||(decide (127<x)))||(decide (t<0)))||(decide (65535<t))) (decide (64<(l.length:Int))),.m 40 39] ?_
 refine d3 40 [41,42,43,44] ?_ rfl (fun hq=>?_) ?_
 rotate_left
 refine sqp [.k 41 (po ay 6)] ?_
 refine am 0 ax ?_
 refine sqp [.k 43 (vi 0),.k 44 (.bool false)] ?_
 exact sqe
 refine c7 ?_
 refine sqp [sPo 45 (((((((decide (k<1))||(decide (10<k)))||(decide (x<0)))||(decide (127<x)))||(decide (t<0)))||(decide (65535<t)))||(decide (64<(l.length:Int)))) false,.m 46 45] ?_
 refine d3 46 [47,48,49,50] ?_ rfl (fun hq=>?_) ?_
 rotate_left
 refine sqp [.k 47 (po ay 7)] ?_
 refine am 0 ax ?_
 refine sqp [.k 49 (vi ((note.size:Int))),.k 50 (.bool (decide (60000<(note.size:Int))))] ?_
 exact sqe
 refine c7 ?_
 refine sqp [sPo 51 ((((((((decide (k<1))||(decide (10<k)))||(decide (x<0)))||(decide (127<x)))||(decide (t<0)))||(decide (65535<t)))||(decide (64<(l.length:Int))))||false) (decide (60000<(note.size:Int)))] ?_
 refine aa (wbs (fun Am=>?_) fun Am=>?_)
 have x3:=Am
 simp only[zB] at x3
 refine wsq [.k 2 (.bool false)] ?_
 refine aa (wp_ret (ai ?_))
 exact bpr (.bool false) (ag results16 rpt) (Ret.bool (BP fun hh=>by have h1:=d4 hh;have a1:=h1.kind;have a2:=h1.xid;have a3:=h1.tbl;have a4:=h1.many;have a5:=h1.note;dsimp only at a1 a2 a3 a4 a5;have h_:=Am;simp at h_;omega) ax.ext)
 have x3:=Am
 simp only[zB] at x3
 obtain⟨⟨⟨⟨⟨⟨⟨⟨R1,R2⟩,R3⟩,R4⟩,R5⟩,R6⟩,R7⟩,R8⟩,R9⟩:=x3
 refine wp_skip (aa (wq (wsq [.k 3 (vi 0)] ?_)))
 refine aa (wp_block ?_)
 refine aQ (fun t_ mz az W=>∃j:Nat,j<=l.length/\(∀i x,i<j->l[i]? =some x->edR x=true)/\mz=l.length-j/\az=⟨(ovr (jv az) [(2,2,1,[vi ((j:Int))]),(0,4,1,[]),(47,52,15,[])] t_).toArray,[]⟩/\St w [] [eB ay 27 #[vi k,vi x,vi t,sn,sn,.slice A l.length c,sn,.string note]] W) (l.length-0) ?_ ?_
 exact⟨0,Nat.zero_le _,fun i x h=>absurd h (Nat.not_lt_zero i),rfl,(by kernel_rfl),ax.pk [0]⟩
 rintro RZ a52 B1 ⟨j,hj,ha,rfl,hj_,cJ⟩
 refine ovz hj_ fun QT=>?_
 refine wq (wsq [.m 52 3,.k 53 (po ay 5)] ?_)
 refine am 0 cJ ?_
 refine sqp [.k 55 (vi ((l.length:Int))),.k 56 (.bool (decide ((j:Int)<(l.length:Int))))] ?_
 refine aa (wds (fun QV Pk=>?_) fun QV Pk=>?_)
 refine wp_skip (aa (wq (wp_block (wq ?_))))
 obtain⟨ep,es,eb,hek⟩:=k9 (l:=l) (k:=j) (by omega)
 have hez:eb.size<=9223372036854775807:=hz _ (List.mem_of_getElem? hek)
 refine sqs [.k 59 (po ay 5)] ?_
 refine am 0 cJ ?_
 refine sqp [.m 61 3] ?_
 refine sql (.pointer (some ((ad A).add (j*3)))) cJ (fun cx=>aD (e:=84) (m:=j) (sz:=3) rfl (by kernel_rfl) (by kernel_rfl) (cx.ou 60) (cx.ou 61) (by omega) (by omega) (hA.ext cx.upd.to_ext) (bm (sz:=3) bE (by decide) (by omega))) ?_
 refine sql (.agg #[vi ep,vi es,.string eb]) cJ (fun cx=>bS (f:=edC) (m:=j) (sz:=3) (off:=0) (n:=3) rfl (by kernel_rfl) (by kernel_rfl) (cx.ou 62) rfl bE (hA.ext cx.upd.to_ext) hek (fun k hk=>match k,hk with|0,_=>rfl|1,_=>rfl|2,_=>rfl|k+3,hk=>absurd hk (by omega))) ?_
 refine sqk (.bool (edR (ep,es,eb))) cJ (fun cx=>⟨_,AU ep es eb _ hez,(av (cx.ou 63))⟩) fun JD gG=>?_
 refine sqp [.m 4 64] ?_
 refine aa (wsq [.m 65 4,.k 66 (.bool (!(edR (ep,es,eb))))] ?_)
 refine aa ?_
 rcases Bool.eq_false_or_eq_true (edR (ep,es,eb)) with An|An
 refine wp_cond_false (show Act.eval _ _= .bool false from(congrArg Value.bool (by rw[An];rfl))) (wp_skip (aq (aa (sqs [.m 57 3,sI 58 ((j:Int)+1) (by omega),.m 3 58] ?_))))
 refine aa ?_
 refine⟨l.length-((j+1)),by omega,?_⟩
 exact⟨(j+1),by omega,y9 ha hek (by simpa using An),rfl,(by kernel_rfl),gG.pk [0]⟩
 refine wp_cond_true (show Act.eval _ _= .bool true from(congrArg Value.bool (by rw[An];rfl))) (wsq [.k 2 (.bool false)] ?_)
 refine aa (wp_ret (aY (ai (ai (aY (ai ?_))))))
 exact bpr (.bool false) (ag results16 rpt) (Ret.bool (BP fun hh=>by have h1:=(d4 hh).eds _ (List.mem_of_getElem? hek);have h_:=An;simp[h1] at h_) gG.ext)
 refine wp_exit (al (al (bf (aa (wq (wsq [.k 5 (vi 0)] ?_))))))
 refine aa (wp_block ?_)
 refine aQ (fun t_ mz az W=>∃j2:Nat,j2<=0/\mz=0-j2/\az=⟨(ovr (jv az) [(2,2,1,[]),(2,5,0,[vi ((j2:Int))]),(61,67,21,[])] t_).toArray,[]⟩/\St w [] [eB ay 27 #[vi k,vi x,vi t,sn,sn,.slice A l.length c,sn,.string note]] W) (0-0) ?_ ?_
 exact⟨0,Nat.zero_le _,rfl,(by kernel_rfl),cJ.pk [0]⟩
 rintro UU a74 Jr ⟨j2,hj2,rfl,hj_,gZ⟩
 refine ovz hj_ fun TT=>?_
 refine wq (wsq [.m 67 5,.k 68 (po ay 6)] ?_)
 refine am 0 gZ ?_
 have hd80:(decide ((j2:Int)<0))=false:=(decide_eq_false (by omega))
 refine sqp [.k 70 (vi 0),.e 71 (.bool (decide ((j2:Int)<0))) (.bool false) (congrArg Value.bool hd80)] ?_
 refine aa (wcf rfl (wp_exit (al (al (bf (aa (wsq [.k 88 (po ay 3)] ?_)))))))
 refine am 0 gZ ?_
 refine sqk (.bool true) gZ (fun cx=>⟨_,sU _,(av (cx.ou 89))⟩) fun UV JE=>?_
 refine sqp [.k 91 (.bool true)] ?_
 refine de 91 [92,93,94] rfl rfl ?_
 refine sqp [.k 92 (po ay 4)] ?_
 refine am 0 JE ?_
 refine sqk (.bool true) JE (fun cx=>⟨_,sU _,(av (cx.ou 93))⟩) fun PZ pL=>?_
 refine sqp [.k 95 (.bool true),.k 2 (.bool true)] ?_
 exact aa (wp_ret (bpr (.bool true) (ag results16 rpt) (Ret.bool (Hz (by have h_:=Am;simp at h_;exact⟨by dsimp only;omega,by dsimp only;omega,by dsimp only;omega,by dsimp only;omega,fun y hy=>by obtain⟨i,hi,rfl⟩:=List.mem_iff_getElem.1 hy;exact ha i _ (by dsimp only at hi;omega) (List.getElem?_eq_getElem hi),by dsimp only;omega⟩)) pL.ext)))
theorem zF(k x t:Int)(A:Option Addr)(c:Nat)(l:List EdT)(note:ByteArray)(w:World)(hA:At w A (l.flatMap edC))(hl:l.length<=1000000)(hz:∀e∈l,e.2.2.size<=9223372036854775807)(hns:note.size<=9223372036854775807):
  Calls P_ 73 #[.agg #[.int .i64 k,.int .i64 x,.int .i64 t,sn,sn,.slice A l.length c,sn,.string note]] w (Ret (.string (aw ⟨k,x,t,l,note⟩)) w):=by
 go_enter func73,ntmps73
 have aj:=St.start w
 refine wq (sqr ?_)
 refine bX #[vi k,vi x,vi t,sn,sn,.slice A l.length c,sn,.string note] aj fun ay W1 ax=>?_
 refine sqp [.k 2 (.string ⟨#[]⟩)] ?_
 refine aa (wq (wq (sqr ?_)))
 refine bD 0 8 ax ?_
 refine sqk (.bool (bt ⟨k,x,t,l,note⟩)) ax (fun cx=>⟨_,mB k x t _ _ l note _ (hA.ext cx.upd.to_ext) hl hz hns,(av (cx.ou 6))⟩) fun W4 aZ=>?_
 refine sqp [.k 8 (.bool (!(bt ⟨k,x,t,l,note⟩)))] ?_
 refine aa ?_
 rcases Bool.eq_false_or_eq_true (bt ⟨k,x,t,l,note⟩) with dC|dC
 refine wp_cond_false (show Act.eval _ _= .bool false from(congrArg Value.bool (by rw[dC];rfl))) (wp_skip (aa (wq ?_)))
 have hrr:=dC
 have hro:=d4 hrr
 have hrm:l.length<=64:=hro.many
 have hrn:note.size<=60000:=hro.note
 have pZ:∀z:Int,(ah z 1).size=1:=fun z=>aE z 1 (by omega)
 have oC:∀z:Int,(ah z 2).size=2:=fun z=>aE z 2 (by omega)
 have htz:(aV ⟨#[0]⟩).size=3:=gA _
 refine bG [0,1,3,0,8,31,63,0,128,447,1023,0,2048,7103,15295,32767,0,65536,228287,490431,1048575,0,2097152,6291456,15694783,33554431,67108863] [[],[0],[],[],[0],[],[],[],[0],[],[],[],[0],[],[],[],[],[0],[],[],[],[],[0]] [.k 9 (vp ay),.c 10 (vi k),.c 11 (.string (ah k 1)),.k 12 (po ay 1),.c 13 (vi x),.c 14 (.string (ah x 1)),tS 15 (ah k 1) (ah x 1) (by simp only[ByteArray.size_append,pZ,oC,htz];omega),.k 16 (po ay 2),.c 17 (vi t),.c 18 (.string (ah t 2)),tS 19 ((ah k 1)++(ah x 1)) (ah t 2) (by simp only[ByteArray.size_append,pZ,oC,htz];omega),.k 20 (po ay 3),.c 21 (sn),.c 22 (.string ((⟨#[0]⟩:ByteArray))),.c 23 (.string (aV (⟨#[0]⟩:ByteArray))),tS 24 (((ah k 1)++(ah x 1))++(ah t 2)) (aV (⟨#[0]⟩:ByteArray)) (by simp only[ByteArray.size_append,pZ,oC,htz];omega),.k 25 (po ay 4),.c 26 (sn),.c 27 (.string ((⟨#[0]⟩:ByteArray))),.c 28 (.string (aV (⟨#[0]⟩:ByteArray))),tS 29 ((((ah k 1)++(ah x 1))++(ah t 2))++(aV (⟨#[0]⟩:ByteArray))) (aV (⟨#[0]⟩:ByteArray)) (by simp only[ByteArray.size_append,pZ,oC,htz];omega),.k 30 (po ay 5),.c 31 (.slice A l.length c),.k 32 (vi ((l.length:Int))),.c 33 (.string (ah (l.length:Int) 1)),tS 34 (((((ah k 1)++(ah x 1))++(ah t 2))++(aV (⟨#[0]⟩:ByteArray)))++(aV (⟨#[0]⟩:ByteArray))) (ah (l.length:Int) 1) (by simp only[ByteArray.size_append,pZ,oC,htz];omega),.k 3 (.string ((((((ah k 1)++(ah x 1))++(ah t 2))++(aV (⟨#[0]⟩:ByteArray)))++(aV (⟨#[0]⟩:ByteArray)))++(ah (l.length:Int) 1)))] [0] [1,2,4,5,8,9,12,13,14,17,18,19,22,24] [(3,26,1,4),(5,0,26,31)] aZ ?_ fun W7 aW=>?_
 refine⟨?_,?_,?_,?_,?_,?_,?_,?_,?_,?_,?_,?_,?_,?_,trivial⟩
 exact xs4 rfl id fun cx=>rL1 (cx.an 0) ((cx.bi 0 rfl).cell 0)
 exact xsc rfl id rfl rfl fun cx=>⟨_,fb k 1 _ (by omega),(aN (cx.an 1) (cx.co _))⟩
 exact xs4 rfl id fun cx=>rL1 (cx.an 3) ((cx.bi 0 rfl).cell 1)
 exact xsc rfl id rfl rfl fun cx=>⟨_,fb x 1 _ (by omega),(aN (cx.an 4) (cx.co _))⟩
 exact xs4 rfl id fun cx=>rL1 (cx.an 7) ((cx.bi 0 rfl).cell 2)
 exact xsc rfl id rfl rfl fun cx=>⟨_,fb t 2 _ (by omega),(aN (cx.an 8) (cx.co _))⟩
 exact xs4 rfl id fun cx=>rL1 (cx.an 11) ((cx.bi 0 rfl).cell 3)
 exact xsc rfl id rfl rfl fun cx=>⟨_,ua _,(av (cx.an 12))⟩
 exact xsc rfl id rfl rfl fun cx=>⟨_,kO (⟨#[0]⟩:ByteArray) _ (by decide),(av (cx.an 13))⟩
 exact xs4 rfl id fun cx=>rL1 (cx.an 16) ((cx.bi 0 rfl).cell 4)
 exact xsc rfl id rfl rfl fun cx=>⟨_,ua _,(av (cx.an 17))⟩
 exact xsc rfl id rfl rfl fun cx=>⟨_,kO (⟨#[0]⟩:ByteArray) _ (by decide),(av (cx.an 18))⟩
 exact xs4 rfl id fun cx=>rL1 (cx.an 21) ((cx.bi 0 rfl).cell 5)
 exact xsc rfl id rfl rfl fun cx=>⟨_,fb (l.length:Int) 1 _ (by omega),(aN (cx.an 23) (cx.co _))⟩
 refine aa (wq (wsq [.k 4 (vi 0)] ?_))
 refine aa (wp_block ?_)
 refine aQ (fun t_ mz az W=>∃j:Nat,∃sj:ByteArray,j<=l.length/\sj=cW (hdB ⟨k,x,t,l,note⟩) (l.take j)/\mz=l.length-j/\az=⟨(ovr (jv az) [(3,3,0,[.string sj,vi ((j:Int))]),(30,35,33,[])] t_).toArray,[]⟩/\St w [] [eB ay 27 #[vi k,vi x,vi t,sn,sn,.slice A l.length c,sn,.string note]] W) (l.length-0) ?_ ?_
 exact⟨0,(((((ah k 1)++(ah x 1))++(ah t 2))++(aV (⟨#[0]⟩:ByteArray)))++(aV (⟨#[0]⟩:ByteArray)))++(ah (l.length:Int) 1),Nat.zero_le _,Ox _ _ _ _ _ _,rfl,(by kernel_rfl),aW.pk [0]⟩
 rintro n9 a9 W9 ⟨j,sj,hj,hsj,rfl,hj_,cw⟩
 refine ovz hj_ fun Sa=>?_
 refine wq (wsq [.m 35 4,.k 36 (po ay 5)] ?_)
 refine am 0 cw ?_
 refine sqp [.k 38 (vi ((l.length:Int))),.k 39 (.bool (decide ((j:Int)<(l.length:Int))))] ?_
 refine aa (wds (fun dF kW=>?_) fun dF kW=>?_)
 refine wp_skip (aa (wq (wp_block ?_)))
 obtain⟨ep,es,eb,hek⟩:=k9 (l:=l) (k:=j) (by omega)
 have her:edR (ep,es,eb)=true:=hro.eds _ (List.mem_of_getElem? hek)
 have hez:eb.size<=400:=dn her
 obtain⟨hep_,hes_⟩:=ll her
 have hes_: -1<=es/\es<=23:=hes_
 have hsz:=jG (l:=l.take j) (fun e he=>dn (hro.eds e (List.mem_of_mem_take he))) (hdB ⟨k,x,t,l,note⟩)
 rw[<-hsj,gU,List.length_take] at hsz
 have htb:=gA eb
 refine bG [0,0,2,0,14,30,62,126,255,0,512,0,3584,7680,15872,32256,65278,131071,0,262144,0,1835008,3932160,8126464,16645886,33554431,67108863] [[],[],[0],[],[],[],[],[],[],[],[0],[],[],[],[],[],[],[],[],[0]] [.k 42 (.string sj),.k 43 (po ay 5),.c 44 (.slice A l.length c),.k 45 (vi ((j:Int))),.c 46 (.pointer (some ((ad A).add (j*3)))),.c 47 (.pointer (some ((ad A).add (j*3+0)))),.c 48 (vi ep),.c 49 (.string (ah ep 2)),tS 50 sj (ah ep 2) (by simp only[ByteArray.size_append,pZ,oC,htz];omega),.k 51 (po ay 5),.c 52 (.slice A l.length c),.k 53 (vi ((j:Int))),.c 54 (.pointer (some ((ad A).add (j*3)))),.c 55 (.pointer (some ((ad A).add (j*3+1)))),.c 56 (vi es),tI 57 (es+1) (by omega),.c 58 (.string (ah (es+1) 1)),tS 59 (sj++(ah ep 2)) (ah (es+1) 1) (by simp only[ByteArray.size_append,pZ,oC,htz];omega),.k 60 (po ay 5),.c 61 (.slice A l.length c),.k 62 (vi ((j:Int))),.c 63 (.pointer (some ((ad A).add (j*3)))),.c 64 (.pointer (some ((ad A).add (j*3+2)))),.c 65 (.string eb),.c 66 (.string (aV eb)),tS 67 ((sj++(ah ep 2))++(ah (es+1) 1)) (aV eb) (by simp only[ByteArray.size_append,pZ,oC,htz];omega),.k 3 (.string (((sj++(ah ep 2))++(ah (es+1) 1))++(aV eb)))] [0] [2,4,5,6,7,10,12,13,14,16,19,21,22,23,24] [(3,26,1,4),(38,0,26,64)] cw ?_ fun p5 dl=>?_
 refine⟨?_,?_,?_,?_,?_,?_,?_,?_,?_,?_,?_,?_,?_,?_,?_,trivial⟩
 exact xs4 rfl id fun cx=>rL1 (cx.an 1) ((cx.bi 0 rfl).cell 5)
 exact xs4 rfl id fun cx=>aD (e:=84) (m:=j) (sz:=3) rfl (by kernel_rfl) (by kernel_rfl) (cx.an 2) (cx.an 3) (by omega) (by omega) (hA.ext cx.upd.to_ext) (bm (sz:=3) bE (by decide) (by omega))
 exact xs4 rfl id fun cx=>bn rfl (by kernel_rfl) (cx.an 4)
 exact xs4 rfl id fun cx=>rL1 (cx.an 5) (At.eltc (f:=edC) (k:=0) bE (hA.ext cx.upd.to_ext) hek rfl)
 exact xsc rfl id rfl rfl fun cx=>⟨_,fb ep 2 _ (by omega),(aN (cx.an 6) (cx.co _))⟩
 exact xs4 rfl id fun cx=>rL1 (cx.an 9) ((cx.bi 0 rfl).cell 5)
 exact xs4 rfl id fun cx=>aD (e:=84) (m:=j) (sz:=3) rfl (by kernel_rfl) (by kernel_rfl) (cx.an 10) (cx.an 11) (by omega) (by omega) (hA.ext cx.upd.to_ext) (bm (sz:=3) bE (by decide) (by omega))
 exact xs4 rfl id fun cx=>bn rfl (by kernel_rfl) (cx.an 12)
 exact xs4 rfl id fun cx=>rL1 (cx.an 13) (At.eltc (f:=edC) (k:=1) bE (hA.ext cx.upd.to_ext) hek rfl)
 exact xsc rfl id rfl rfl fun cx=>⟨_,fb (es+1) 1 _ (by omega),(aN (cx.an 15) (cx.co _))⟩
 exact xs4 rfl id fun cx=>rL1 (cx.an 18) ((cx.bi 0 rfl).cell 5)
 exact xs4 rfl id fun cx=>aD (e:=84) (m:=j) (sz:=3) rfl (by kernel_rfl) (by kernel_rfl) (cx.an 19) (cx.an 20) (by omega) (by omega) (hA.ext cx.upd.to_ext) (bm (sz:=3) bE (by decide) (by omega))
 exact xs4 rfl id fun cx=>bn rfl (by kernel_rfl) (cx.an 21)
 exact xs4 rfl id fun cx=>rL1 (cx.an 22) (At.eltc (f:=edC) (k:=2) bE (hA.ext cx.upd.to_ext) hek rfl)
 exact xsc rfl id rfl rfl fun cx=>⟨_,kO eb _ (by omega),(av (cx.an 23))⟩
 refine aq (aa (sqs [.m 40 4,sI 41 ((j:Int)+1) (by omega),.m 4 41] ?_))
 refine aa ?_
 refine⟨l.length-((j+1)),by omega,?_⟩
 exact⟨(j+1),(((sj++(ah ep 2))++(ah (es+1) 1))++(aV eb)),by omega,by rw[w3 hek,<-hsj];exact(OK _ _ _ _).symm,rfl,(by kernel_rfl),dl.pk [0]⟩
 refine wp_exit (al (al (bf (aa (wq ?_)))))
 obtain rfl:j=l.length:=by omega
 rw[List.take_length] at hsj
 have hsz:=jG (l:=l) (fun e he=>dn (hro.eds e he)) (hdB ⟨k,x,t,l,note⟩)
 rw[<-hsj,gU] at hsz
 have htn:=gA note
 refine sqs [.m 68 3,.k 69 (po ay 6)] ?_
 refine am 0 cw ?_
 refine sqp [.k 71 (vi 0)] ?_
 refine sqk (.string (ah 0 1)) cw (fun cx=>⟨_,fb 0 1 _ (by omega),(aN (cx.ou 71) (cx.co _))⟩) fun uV et=>?_
 refine sqp [sS 73 sj (ah 0 1) (by simp only[ByteArray.size_append,pZ,oC,htz];omega),.m 3 73] ?_
 refine aa (wq (wsq [.k 5 (vi 0)] ?_))
 refine aa (wp_block ?_)
 refine aQ (fun t_ mz az W=>∃j2:Nat,j2<=0/\mz=0-j2/\az=⟨(ovr (jv az) [(5,5,0,[vi ((j2:Int))]),(68,74,15,[])] t_).toArray,[]⟩/\St w [] [eB ay 27 #[vi k,vi x,vi t,sn,sn,.slice A l.length c,sn,.string note]] W) (0-0) ?_ ?_
 exact⟨0,Nat.zero_le _,rfl,(by kernel_rfl),et.pk [0]⟩
 rintro UW a28 zN ⟨j2,hj2,rfl,hj_,dN⟩
 refine ovz hj_ fun TU=>?_
 refine wq (wsq [.m 74 5,.k 75 (po ay 6)] ?_)
 refine am 0 dN ?_
 have hd34:(decide ((j2:Int)<0))=false:=(decide_eq_false (by omega))
 refine sqp [.k 77 (vi 0),.e 78 (.bool (decide ((j2:Int)<0))) (.bool false) (congrArg Value.bool hd34)] ?_
 refine aa (wcf rfl (wp_exit (al (al (bf (aa (wsq [.m 89 3,.k 90 (po ay 7)] ?_)))))))
 refine am 0 dN ?_
 refine sqk (.string (aV note)) dN (fun cx=>⟨_,kO note _ (by omega),(av (cx.ou 91))⟩) fun FP iC=>?_
 refine sqp [sS 93 (sj++(ah 0 1)) (aV note) (by simp only[ByteArray.size_append,pZ,oC,htz];omega),.m 2 93] ?_
 exact aa (wp_ret (bpr (.string ((sj++(ah 0 1))++(aV note))) (ag results73 rpt) (Ret.of (congrArg Value.string (by rw[aw,if_pos hrr,<-hsj];exact(On _ _ _))) iC.ext)))
 refine wp_cond_true (show Act.eval _ _= .bool true from(congrArg Value.bool (by rw[dC];rfl))) (wsq [.k 2 (.string ⟨#[]⟩)] ?_)
 refine aa (wp_ret (ai ?_))
 exact bpr (.string ⟨#[]⟩) (ag results73 rpt) (Ret.of (by rw[aw,dC];rfl) aZ.ext)
theorem jQ(k x t:Int)(A:Option Addr)(c:Nat)(l:List EdT)(note:ByteArray)(w:World)(hA:At w A (l.flatMap edC))(hl:l.length<=1000000)(hz:∀e∈l,e.2.2.size<=9223372036854775807)(hns:note.size<=9223372036854775807):
  Calls P_ 29 #[.agg #[.int .i64 k,.int .i64 x,.int .i64 t,sn,sn,.slice A l.length c,sn,.string note]] w (Ret (.string (aA ⟨k,x,t,l,note⟩)) w):=by
 go_enter func29,ntmps29
 have aj:=St.start w
 refine wq (sqr ?_)
 refine bX #[vi k,vi x,vi t,sn,sn,.slice A l.length c,sn,.string note] aj fun ay W1 ax=>?_
 refine sqp [.k 2 (.string ⟨#[]⟩)] ?_
 refine aa (wq (wq (sqr ?_)))
 refine bD 0 8 ax ?_
 refine sqk (.bool (bt ⟨k,x,t,l,note⟩)) ax (fun cx=>⟨_,mB k x t _ _ l note _ (hA.ext cx.upd.to_ext) hl hz hns,(av (cx.ou 4))⟩) fun W4 aZ=>?_
 refine sqp [.k 6 (.bool (!(bt ⟨k,x,t,l,note⟩)))] ?_
 refine aa ?_
 rcases Bool.eq_false_or_eq_true (bt ⟨k,x,t,l,note⟩) with dC|dC
 refine wp_cond_false (show Act.eval _ _= .bool false from(congrArg Value.bool (by rw[dC];rfl))) (wp_skip (aa (wq (sqr ?_))))
 refine bD 0 8 aZ ?_
 refine sqk (.string (aw ⟨k,x,t,l,note⟩)) aZ (fun cx=>⟨_,zF k x t _ _ l note _ (hA.ext cx.upd.to_ext) hl hz hns,(av (cx.ou 7))⟩) fun W8 dI=>?_
 refine sqp [.m 3 8] ?_
 refine aa (wq ?_)
 have hbz:=jk ⟨k,x,t,l,note⟩
 have hsl:=kD (aw ⟨k,x,t,l,note⟩)
 have zI:∀z:Int,(ah z 4).size=4:=fun z=>aE z 4 (by omega)
 refine sqs [.m 9 3,.k 10 (vi (((aw ⟨k,x,t,l,note⟩).size:Int)))] ?_
 refine sqk (.string (ah ((aw ⟨k,x,t,l,note⟩).size:Int) 4)) dI (fun cx=>⟨_,fb ((aw ⟨k,x,t,l,note⟩).size:Int) 4 _ (by omega),(aN (cx.ou 10) (cx.co _))⟩) fun sF cP=>?_
 refine sqp [.m 12 3] ?_
 refine sqk (.int .u32 ((bc (aw ⟨k,x,t,l,note⟩):Int))) cP (fun cx=>⟨_,yP (aw ⟨k,x,t,l,note⟩) _ (by omega),(av (cx.ou 12))⟩) fun uY bZ=>?_
 refine sqp [sW 14 .i64 (bc (aw ⟨k,x,t,l,note⟩):Int) (bc (aw ⟨k,x,t,l,note⟩):Int) (IntWalk.i64_in _ (by omega))] ?_
 refine sqk (.string (ah (bc (aw ⟨k,x,t,l,note⟩):Int) 4)) bZ (fun cx=>⟨_,fb (bc (aw ⟨k,x,t,l,note⟩):Int) 4 _ (by omega),(aN (cx.ou 14) (cx.co _))⟩) fun p5 dl=>?_
 refine sqp [sS 16 (ah ((aw ⟨k,x,t,l,note⟩).size:Int) 4) (ah (bc (aw ⟨k,x,t,l,note⟩):Int) 4) (by simp only[ByteArray.size_append,zI];omega),.m 17 3,sS 18 ((ah ((aw ⟨k,x,t,l,note⟩).size:Int) 4)++(ah (bc (aw ⟨k,x,t,l,note⟩):Int) 4)) (aw ⟨k,x,t,l,note⟩) (by simp only[ByteArray.size_append,zI];omega),.m 2 18] ?_
 exact aa (wp_ret (bpr (.string (((ah ((aw ⟨k,x,t,l,note⟩).size:Int) 4)++(ah (bc (aw ⟨k,x,t,l,note⟩):Int) 4))++(aw ⟨k,x,t,l,note⟩))) (ag results29 rpt) (Ret.of (congrArg Value.string (by rw[aA,if_pos dC];exact Mw _ _ _)) dl.ext)))
 refine wp_cond_true (show Act.eval _ _= .bool true from(congrArg Value.bool (by rw[dC];rfl))) (wsq [.k 2 (.string ⟨#[]⟩)] ?_)
 refine aa (wp_ret (ai ?_))
 exact bpr (.string ⟨#[]⟩) (ag results29 rpt) (Ret.of (by rw[aA,dC];rfl) aZ.ext)
end
section
open Go.RowKit
theorem yB{L:List RecM}(h:s=dZ L):uv s (szF L):= .inl (by rw[h,cj];omega)
theorem LQ{L:List RecM}(h:s=dZ L):s=dZ L++⟨#[]⟩:=by rw[jW];exact h
abbrev nS:ByteArray:=⟨#[110]⟩
def kS(k:Nat):ByteArray:=⟨#[UInt8.ofNat k]⟩
def r1:RecM:=⟨1,0,0,[(1,-1,kS 1)],⟨#[]⟩⟩
theorem yY:bt r1=true:=by decide
theorem Mh:ck r1.eds=[1]:=rfl
theorem MB:r1.eds.any (d8 2)=false:=by decide
theorem OG:DoA r1:=⟨yY,by decide,by decide⟩
theorem LZ:cV (af [au nS]) r1.eds=0:=by decide+kernel
theorem ME:rfE 2 [au nS] r1=0:=xR OG MB LZ (by
 have h1:=eV yY
 have h2:=eV (dz (note:=nS) (by decide))
 have h3:szF (dy [au nS] (ck r1.eds))<=200000:=by
  rw[Mh]
  show szF [⟨8,0,1,[],aG bp⟩]<= _
  have h4:bt ⟨8,0,1,[],aG bp⟩=true:=by
   have h1:=cR yn
   have a2:decide (((aG bp).size:Int)<=60000)=true:=decide_eq_true (by omega)
   show (inB 8 1 10&&(inB 0 0 127&&(inB 1 0 65535&&(decide ((([]:List EdT).length:Int)<=64)&&((([]:List EdT).all edR)&&decide (((aG bp).size:Int)<=60000))))))=true
   rw[a2];decide
  have:=eV h4
  have e0:szF []=0:=rfl
  rw[mF,e0];omega
 rw[y8];omega)
theorem P8:(rfL [au nS] r1).length=3:=by decide+kernel
theorem LH:af (rfL [au nS] r1) 1=(1,3,[]):=by decide+kernel
theorem Lr:be (rfL [au nS] r1)=1:=rfl
theorem yp(p:Int)(k:Nat)(w:World)(hk:k<256):
  Calls P_ 42 #[.int .i64 p,.int .i64 ((k:Int))] w (Ret (.agg #[.int .i64 p,.int .i64 (-1),.string (kS k)]) w):=by
 go_enter func42,ntmps42
 have aj:=St.start w
 refine wq (sqr (bW #[vi 0,vi 0,.string ByteArray.empty] aj fun Dn W1 ax=>?_))
 refine aa (wsq [.m 5 0,.m 6 1,sW 7 .u8 (k:Int) (k:Int) (IntWalk.u8_in _ (by omega))] ?_)
 refine d9 (fun x_=>sA x_) (fun Dv=> .slice Dv 1 1) (fun Dv=>eO 5 1 (.slice Dv 1 1) 1 ([.int .u8 ((k:Int))])) ax (by
   refine svA fun d f W X cx=>?_
   have FY:d (.tmp 7)= .int .u8 ((k:Int)):=(cx.ou 7)
   exact dA (e:=5) (xs:=[.int .u8 ((k:Int))]) rfl (by simp[go_sem,FY]) rfl (by decide) rfl rfl (fun _ _ _ _ _=> .intro)) fun Dv W5 aK=>?_
 refine sql (.string (strOfNums ([((k:Int))]))) aK (fun cx=>k8 (e:=5) rfl (by kernel_rfl) (by kernel_rfl) (by kernel_rfl) (cx.ou 8) (cx.ri 1 rfl)) ?_
 refine sqp [.k 10 (.agg #[vi p,vi (-1),.string (strOfNums ([((k:Int))]))])] ?_
 refine aT (n:=3) 0 #[vi p,vi (-1),.string (strOfNums ([((k:Int))]))] aK fun W8 dI=>?_
 exact aa (wp_ret (bpr (.agg #[vi p,vi (-1),.string (strOfNums ([((k:Int))]))]) (bB (n:=3) results42 rfl (by kernel_rfl) (by kernel_rfl) (dI.blk 0 rfl) rfl) (Ret.of (rfl) dI.ext)))
end
section
open Go.RowKit
section
variable{a:Prop}{p c:Nat}{S S2:StM}{told:Int->Bool}{er:Int}
theorem Iy{u:BfT}(hok:SOk S c)(ht:t∈S.pool)(h0:(aJ S t).2=0)(hu:u∈(aJ S t).1.pool)(hd:u.dirty=true):u∈S.pool/\u.n≠t.n:=by
 have huniq:∀u∈S.pool,u.n=t.n->u=t:=fun u hu e=>by
  have h1:=sO hok.nodup ht
  have h2:=sO hok.nodup hu
  rw[e] at h2
  exact Option.some.inj (h2.symm.trans h1)
 unfold aJ at h0 hu
 split at hu
 rename_i hdt
 rw[if_pos hdt] at h0
 rw[(nY (hok.right t ht) h0).2] at hu
 obtain⟨v,hv,rfl⟩:=List.mem_map.1 hu
 by_cases e:v.n=t.n
 rw[if_pos e] at hd;cases hd
 rw[if_neg e] at hd |-;exact⟨hv,e⟩
 rename_i hdt
 refine⟨hu,fun e=>?_⟩
 rw[huniq u hu e] at hd
 exact hdt hd
theorem ClA.clean{l:List Int}(h:ClA S l S2 er):∀{c:Nat},SOk S c->er=0->∀u∈S2.pool,u.dirty=true->u∈S.pool/\u.n∉l:=by
 induction h with
 |nil S=>intro c _ _ u hu _;exact⟨hu,List.not_mem_nil⟩
 |bad ht he=>intro c _ h0;exact absurd h0 he
 |cons ht he hr ih=>
  intro c hok h0 u hu hd
  obtain⟨a1,a2⟩:=ih (hok.clean _ ht) h0 u hu hd
  obtain⟨b1,b2⟩:=Iy hok ht he a1 hd
  exact⟨b1,fun hm=>(List.mem_cons.1 hm).elim b2 a2⟩
def Whole(S:StM):Prop:=∀(n:Nat) x,S.D.pgs[n]? =some x->x.ws=[]/\rdP x.safe.1=af S.L (n:Int)
theorem CM{q:List RcT}{ns:List Int}{S1:StM}(hok:SOk S c)(hw:WI S told)(hns:∀n,n∈ns<->∃t∈S.pool,t.n=n)(hc:ClA {S with rr:=q} ns S1 0)(h1:(opD S1.D 0 syD).2=0):
  Ev {S with rr:=q} S1/\SOk S1 (c+ns.length)/\(opD S1.D 0 syD).1.pgs=S1.D.pgs.map syS/\(opD S1.D 0 syD).1.fl=S1.D.fl/\Whole (dB S1 (opD S1.D 0 syD).1):=by
 obtain⟨ev,ok1,_⟩:=hc.run (hok.rr q)
 have e3:=(mL h1).2.2
 have ep:(opD S1.D 0 syD).1.pgs=S1.D.pgs.map syS:=by rw[e3];rfl
 refine⟨ev,ok1,ep,by rw[e3];rfl,fun n x hx=>?_⟩
 have hx:(opD S1.D 0 syD).1.pgs[n]? =some x:=hx
 rw[ep,List.getElem?_map] at hx
 obtain⟨y,hy,rfl⟩:=Option.map_eq_some_iff.1 hx
 have hcl:∀u∈S1.pool,u.dirty=false:=fun u hu=>by
  cases hd:u.dirty with
  |false=>rfl
  |true=>obtain⟨z1,z2⟩:=hc.clean (hok.rr q) rfl u hu hd;exact absurd ((hns u.n).2 ⟨u,z1,rfl⟩) z2
 have hcur:aF S1 (n:Int)=shP S1.D (n:Int):=by
  by_cases hm:∃u∈S1.pool,u.n=(n:Int)
  obtain⟨u,hu,e⟩:=hm
  rw[<-e,dp ok1.nodup hu];exact ok1.cl u hu (hcl u hu)
  exact gN fun u hu e=>hm ⟨u,hu,e⟩
 have hlen:S1.D.pgs.length=S.D.pgs.length:=ev.len
 have hn:=(List.getElem?_eq_some_iff.1 hy).1
 refine⟨rfl,?_⟩
 have e5:aF S1 (n:Int)=af S.L (n:Int):=(ev.cur (n:Int) (by omega)).trans (hw.cur (n:Int) (by omega) (by omega))
 have e6:S1.L=S.L:=ev.L
 show rdP (rdT y).1=af S1.L (n:Int)
 rw[e6,<-e5,hcur,shP]
 show _=rdP (rdT (S1.D.pgs.getD n fO)).1
 rw[List.getD_eq_getElem?_getD,hy];rfl
end
end
end Go.Proofs.YtcdjaepgahbhfaaGreat
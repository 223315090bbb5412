import Derived.Test.YtcdjaepgahbhfaaGreatZ4
set_option linter.unusedVariables false
set_option linter.unusedSimpArgs false
set_option maxRecDepth 100000
set_option maxHeartbeats 16000000
open Go.Proofs.Tryz
open Go.Proofs.Tryz renaming prog->P_
namespace Go.Proofs.YtcdjaepgahbhfaaGreat
variable{A EA LA RA:Option Addr}{D:DkM}{L:List RecM}{L0:List Ent}{N:Int->PgS}{S S' S2:StM}{W w' w0:World}{args:Array Value}{bor fp fp' fpd:List Nat}{c db ec ib j lc mb rc sb tb:Nat}{e:EdT}{er lsn:Int}{f:FuncId}{l:List EdT}{os:List Int}{p:PgS}{pg:PgR}{r:RecM}{rt:RcT}{t u:BfT}
section
open Go.RowKit
theorem oz{l:List BfT}{rows:List PgR}(h:∀t∈l,t.pg∈rows){l2:List BfT}{rows2:List PgR}(hl:∀u∈l2,(∃t∈l,u.pg=t.pg)\/u.pg∈rows2)(hr:∀r∈rows,r∈rows2):∀u∈l2,u.pg∈rows2:=fun u hu=>by
 rcases hl u hu with ⟨t,ht,e⟩|e
 rw[e];exact hr _ (h t ht)
 exact e
theorem K3{A B:List BfT}{t u:BfT}(he:u.pg=t.pg){rows:List PgR}:∀v∈A++u::B,(∃t'∈A++t::B,v.pg=t'.pg)\/v.pg∈rows:=fun v hv=>by
 rcases List.mem_append.1 hv with h|h
 exact .inl ⟨v,by simp[h],rfl⟩
 rcases List.mem_cons.1 h with rfl|h
 exact .inl ⟨t,by simp,he⟩
 exact .inl ⟨v,by simp[h],rfl⟩
theorem HG{S0 S1:StM}(hb:S0.bufs<=(S0.pool.length:Int))(hc:aJ S0 u=(S1,er))(h0:er=0)(hp:rmB S1.pool u.n=S2.pool)(hS:S2={S1 with pool:=S2.pool}):bq S0 u=(S2,0):=by
 rw[wI hb (by rw[hc];exact h0),hc]
 dsimp only
 rw[hp,<-hS]
theorem s6{S:StM}{n:Int}(h:∀t∈S.pool,t.n≠n)(he:(rdS S.D n).2=0)(hu:S.bufs<=(S.pool.length:Int)->u∈S.pool)(hev:bq (tick S) u=(S2,0))(blk:Nat)(A:Option Addr)(c:Nat){k:Int}(hk:k=S.time+1):
  LdQ S n {S2 with pool:=S2.pool++[⟨n,blk,⟨rdP (rdS S.D n).1,A,c⟩,false,k⟩],rows:=S2.rows++[⟨rdP (rdS S.D n).1,A,c⟩]} 0 (po blk 0):=by
 subst hk
 have h1:=LdR.new (S:=S) (n:=n) u blk A c h he hu
 have e:j6 (tick S) n u blk A c=({S2 with pool:=S2.pool++[⟨n,blk,⟨rdP (rdS S.D n).1,A,c⟩,false,S.time+1⟩],rows:=S2.rows++[⟨rdP (rdS S.D n).1,A,c⟩]},0):=by
  rw[j6,hev,if_neg (by simp)];rfl
 rw[e] at h1
 exact⟨h1,fun _=>⟨_,List.mem_append_right _ (List.mem_singleton.2 rfl),rfl,rfl⟩⟩
theorem Fc{S:StM}{n:Int}(h:∀t∈S.pool,t.n≠n)(he:(rdS S.D n).2=0)(hb:S.bufs<=(S.pool.length:Int))(hu:u∈S.pool)(hc:(aJ (tick S) u).2≠0):LdQ S n (aJ (tick S) u).1 (aJ (tick S) u).2 (.pointer none):=by
 have h1:=LdR.new (S:=S) (n:=n) u 0 none 0 h he (fun _=>hu)
 have e:j6 (tick S) n u 0 none 0=aJ (tick S) u:=by
  have e1:bq (tick S) u=aJ (tick S) u:=w4 hb hc
  rw[j6,e1,if_pos hc]
 rw[e] at h1
 exact⟨h1,fun h0=>absurd h0 hc⟩
theorem mC{a b:Int}(h:(a != b)=false):a=b:=by simpa using h
theorem qr{a b:Int}(h:(a != b)=true):a≠b:=by simpa using h
theorem l7{l:List BfT}(h:(l.map BfT.n).Nodup)(hn:∀u∈l,u.n≠t.n):((l++[t]).map BfT.n).Nodup:=by
 rw[List.map_append,List.map_cons,List.map_nil]
 refine List.nodup_append.2 ⟨h,by simp,fun a ha b hb=>?_⟩
 obtain⟨u,hu,rfl⟩:=List.mem_map.1 ha
 rw[List.mem_singleton.1 hb]
 exact hn u hu
theorem KU{A B:List BfT}(h:((A++t::B).map BfT.n).Nodup):mzD (atM (A++t::B)) t.n (A++t::B).length=(A++B).length:=by
 rw[mzD,lk h];simp
theorem oZ:(bq S t).1.time=S.time:=by
 unfold bq
 split
 split
 exact(o6 S t).2.2.1
 exact(o6 S t).2.2.1
 rfl
theorem ny(sb db:Nat)(S:StM)(n:Int)(c:Nat)(fp:List Nat)(w:World)(hB:(eSt sb db S fp).holds w)(hlt:∀k∈fp,k<w.heap.size)(hok:SOk S c)(hc:c<=800000000)(hkn:kcI.ok n):
  Calls P_ 64 #[po sb 0,.int .i64 n] w (jY sb db S n fp w):=by
 have st1:St w fp [eSt sb db S fp] w:=St.lend hB (dx _ _ _ _) hlt
 go_enter func64,ntmps64
 have aj:=st1
 obtain⟨⟨hrw,hrr⟩,mb,RA,rc,EA,ec,ib,tb,fpd,hv1_⟩:=aj.unf
 have hw:∀x∈S.D.pgs,x.ws.length<=1000000000:=fun x hx=>Nat.le_trans (hok.ws x hx) (by omega)
 have hkk:∀t∈S.pool,kcI.ok t.n:=fun t ht=>by have:=hok.keys t ht;have:=hok.pgs;constructor<;>omega
 have htt:=hok.time
 have hbb:=hok.bufs
 have hll:=hok.len
 refine wsq [.k 4 (.pointer none),.k 5 (vi 0)] ?_
 refine aa (wsq [.m 15 0,.k 16 (vp sb),.k 17 (po sb 3)] ?_)
 refine am 0 hv1_ ?_
 refine sqp [sI 19 (S.time+1) (by omega),.k 20 (vp sb),.k 21 (po sb 3)] ?_
 refine aT (n:=1) 0 #[vp db,vi S.bufs,.map (some mb),vi (S.time+1),.slice RA S.recs.length rc,.slice EA S.recs.length ec,.map (some ib),.map (some tb),vi S.frm] hv1_ fun FK fY=>?_
 refine aa (wq (wq ?_))
 have htk:=hok.tick
 rcases BC S.pool n with hno|⟨A,t,B,hAB,rfl⟩
 refine sqs [.m 22 0,.k 23 (vp sb),.k 24 (po sb 2)] ?_
 refine am 0 fY ?_
 refine sqp [.m 26 1] ?_
 refine sql (.pointer none) fY (fun cx=>(da (e:=115) (C:=ptX) (K:=kcI) (x:=n) rfl (cx.ou 25) (cx.ou 26) (CtxV.mx cx (cx.init 1 _ rfl) rfl) (h0:=by rfl) (hx:=hkn) (hk:=show Program.underlying _ _= _ from by kernel_rfl)).trans (by rw[kG hno];rfl)) ?_
 refine sqp [.m 6 27] ?_
 refine aa (wsq [.m 28 6] ?_)
 refine sqv (.bool false) fY (by
   exact sv0 rfl rfl rfl rfl rfl (fun _ _ _ h=>h) fun g b W X cx=>by
    have IV:g (.tmp 28)= .pointer none:=(cx.ou 28)
    simp[go_sem,cx.sees.const,IV]) fun M7 ki=>?_
 refine aa (wcf rfl (wp_skip (aa (wsq [.m 39 0,.k 40 (vp sb),.k 41 (vp sb)] ?_))))
 refine am 0 ki ?_
 refine sqp [.m 43 1] ?_
 refine sqk (.tuple #[.string ((rdS S.D n).1),vi ((rdS S.D n).2)]) ki (fun cx=>⟨_,DG db S.D n _ (eP (CtxV.holdF cx (cx.init 9 _ rfl) rfl)) hw,(aN (cx.ou 42) (cx.ou 43))⟩) fun xD fD=>?_
 refine sqp [.m 38 44,.k 45 (.string ((rdS S.D n).1)),.k 46 (vi ((rdS S.D n).2)),.m 7 45,.m 8 46] ?_
 refine aa (wq (wsq [.m 47 8,.k 48 (.bool (((rdS S.D n).2) != 0))] ?_))
 refine aa (wbs (fun kH=>?_) fun kH=>?_)
 have pD:=bne_iff_ne.1 kH
 refine wsq [.m 49 8,.k 4 (.pointer none),.m 5 49] ?_
 refine aa (wp_ret (ai ?_))
 refine bpr (.tuple #[.pointer none,vi ((rdS S.D n).2)]) (aL results64 rpt rpt) ?_
 obtain⟨fp38_,hk38_⟩:=St.stf (S:=(tick S)) (fD) (hrw) (hrr)
 exact jY.of ⟨LdR.bad hno (qr kH),fun h_=>absurd h_ (qr kH)⟩ hk38_
 have pD:=bne_eq_false_iff_eq.1 kH
 refine wp_skip (aa ?_)
 refine mu (fun t_ az W=>∃S2:StM,∃u:BfT,∃fp2:List Nat,bq (tick S) u=(S2,0)/\(S.bufs<=(S.pool.length:Int)->u∈S.pool)/\az=⟨(ovr (jv az) [(4,4,2,[]),(3,9,4,[]),(37,50,50,[])] t_).toArray,[]⟩/\St w fp [eSt sb db S2 fp2] W) ?_ ?_
 refine wq (bG [0,1,3,7,15,0,32,96,224,511] [[],[],[],[0],[1],[],[],[],[0]] [.k 50 (vp sb),.k 51 (vp sb),.k 52 (po sb 2),.c 53 (.map (some mb)),.c 54 (vi ((S.pool.length:Int))),.k 55 (vp sb),.k 56 (vp sb),.k 57 (po sb 1),.c 58 (vi S.bufs),.k 59 (.bool (decide (S.bufs<=(S.pool.length:Int))))] [0,1,2,3,4,5,6,7,8,9] [3,4,8] [(50,0,10,60)] fD ?_ fun xC d7=>?_)
 refine⟨?_,?_,?_,trivial⟩
 exact xs4 rfl id fun cx=>rL1 (cx.an 2) ((cx.bi 0 rfl).cell 2)
 exact xs4 rfl id fun cx=>EK (e:=115) (m:=(atM S.pool)) (K:=kcI) (C:=ptX) rfl rfl rfl rfl (cx.an 3) (CtxV.mx cx (cx.init 1 _ rfl) rfl)
 exact xs4 rfl id fun cx=>rL1 (cx.an 7) ((cx.bi 0 rfl).cell 1)
 refine aa (wds (fun lR Dh=>?_) fun lR Dh=>?_)
 refine wsq [.k 9 (vi (-1))] ?_
 refine aa (wq (wsq [.m 60 0,.k 61 (vp sb),.k 62 (po sb 2)] ?_))
 refine am 0 d7 ?_
 refine P6 (fun x_=>pb x_) (fun oG=>vp oG) (fun oG=>eRx P_ 3 mb oG S.pool.length (atM S.pool) (fun x=>((atM S.pool) x).isSome) S.pool.length none) 1 d7 (by
   refine svA fun g b W X cx=>?_
   exact EV (e:=115) rfl (cx.ou 63) cx (cx.init 1 _ rfl) rfl rfl rfl rfl (fun _ _ _ _ _=> .intro)) fun oG MP gp=>?_
 refine aa (wp_block ?_)
 refine aQ (fun t_ mz az W=>∃o:Int,∃left:Int->Bool,∃cnt:Nat,∃cur:Option (Int×Option Nat),((o= -1/\∀x,left x=(atM S.pool x).isSome)\/∃u∈S.pool,u.n=o)/\mz=2*cnt/\az=⟨(ovr (jv az) [(9,9,0,[vi o]),(0,10,2,[]),(53,65,24,[])] t_).toArray,[]⟩/\St w fp [eB sb 109 #[vp db,vi S.bufs,.map (some mb),vi (S.time+1),.slice RA S.recs.length rc,.slice EA S.recs.length ec,.map (some ib),.map (some tb),vi S.frm],eRx P_ 3 mb oG S.pool.length (atM S.pool) (left) cnt cur,eA (List.map fx S.pool),eM (List.map dw S.rows),eO 27 8 (.slice RA S.recs.length rc) S.recs.length (S.recs.flatMap rcC),eO 3 1 (.slice EA S.recs.length ec) S.recs.length ((cL S.L S.recs.length).map (Value.int .i64)),eRc S.rr,eMx kcI ecB P_ 3 ib S.ni (S.im),eMx kcI ecB P_ 3 tb S.nt (S.told),eDk db S.D fpd] W) (2*S.pool.length) ?_ ?_
 exact⟨(-1),(fun x=>((atM S.pool) x).isSome),S.pool.length,none,.inl ⟨rfl,fun x=>rfl⟩,rfl,(by kernel_rfl),gp.pk [0,1,2,3,4,5,6,7,8,9]⟩
 rintro RI a48 P1 ⟨o,left,cnt,cur,ho,rfl,hj_,nK⟩
 refine ovz hj_ fun Qx=>?_
 refine wq (aB [0,1] [[1],[]] [[10]] [[1]] [.a 65,.a 66] (fun ix d b X=>match ix with|0=>CO P_ 3 mb oG S.pool.length (atM S.pool) (left) cnt (d 65) (X 10)|1=>d 66= .bool (nxB (d 65))|_=>True) [0,2,3,4,5,6,7,8,9,10] [0,1] [(65,0,2,67)] nK ?_ ?_ ?_)
 exact fun ix _ _ _ _ _ _ hs hb hx h=>match ix,h with
 |0,h=>by(try dsimp only at h |-);rw[<-hs 65 rfl,<-hx 10 rfl];exact h
 |1,h=>by(try dsimp only at h |-);rw[<-hs 66 rfl,<-hs 65 rfl];exact h
 |_+2,_=>trivial
 refine⟨?_,?_,trivial⟩
 refine svA fun g b W X cx=>?_
 exact Gv rfl (cx.ou 64) cx (cx.init 1 _ rfl) rfl rfl rfl rfl (fun d i X' hs hb hN=>hN)
 refine svA fun g b W X cx=>?_
 exact MH (d1:=65) rfl (dTn (cx.an 0)) rfl rfl rfl (fun d i X' hv hs=>by(try dsimp only);rw[hs 65 (by decide)];exact hv)
 intro d b X MQ hD eo fr aC
 have hq0_:=dTn (hD 0 lq)
 have hq1_:=dTn (hD 1 lq)
 try dsimp only at hq0_ hq1_
 rcases hq0_ with ⟨ha_,hl49,hb_⟩|⟨kx49,kc49,ha_,hx49,hl49,hm49,hc49,hb_⟩
 rw[ha_] at hq1_
 simp only[exq 10 hb_] at eo
 simp only[ed 65 ha_,ed 66 hq1_,Oo] at aC
 clear hD ha_ hq1_ hb_;subst aC;clear d b X
 refine aa (wq (wcf rfl (wp_exit (al (al (bf (aa (wq (wq ?_)))))))))
 rcases ho with ⟨rfl,hl0⟩|⟨u,hu,rfl⟩
 exact(Lw (by have h1_:=hok.bufs;have h2_:=of_decide_eq_true lR;omega) hl0 hkk hl49).elim
 have hr51_:=eo.u9.erf
 obtain⟨fp52_,hk52_⟩:=St.stf (S:=(tick S)) (hr51_.u1) (hrw) (hrr)
 obtain⟨A,B,hAB⟩:=List.append_of_mem hu
 have hAB2:(tick S).pool=A++u::B:=hAB
 have hnd:((A++u::B).map BfT.n).Nodup:=by rw[<-hAB];exact hok.nodup
 refine sqs [.m 89 0,.m 90 9] ?_
 refine bF (fun X_=>X_.fp) (vi ((aJ (tick S) u).2)) (fun Jv=>eSt sb db ((aJ (tick S) u).1) Jv) 0 hk52_ (by
   refine svA fun g b W X cx=>?_
   refine ak.call (rCF (args:=#[vp sb,vi u.n]) cx.sees (aN (cx.ou 89) (cx.ou 90))) ?_
   refine(uu sb db (tick S) A B u (c+1) _ _ (CtxV.holdF cx (cx.init 0 _ rfl) rfl) (CtxV.ltF cx (cx.init 0 _ rfl) rfl) htk (by omega) hAB2).mono ?_
   rintro e W1 ⟨rfl,fp4,aM⟩
   refine⟨_,rfl,aI (E:=eSt sb db (tick S) fp52_) [eSt sb db (aJ (tick S) u).1 fp4] (cx.init 0 _ rfl) rfl rfl aM (fun d i X' hs hb hv hN=>?_)⟩
   have aH:=(hv 91 rfl).1;have aO:=(hv 91 rfl).2
   exact⟨aH.trans rfl,gR ((List.cons.inj hN).1)⟩) fun Jv Rt rZ=>?_
 refine sqp [.m 12 91] ?_
 refine aa (wsq [.m 92 12,.k 93 (.bool (((aJ (tick S) u).2) != 0))] ?_)
 refine aa (wbs (fun pM=>?_) fun pM=>?_)
 have Di:=bne_iff_ne.1 pM
 refine wsq [.m 94 12,.k 4 (.pointer none),.m 5 94] ?_
 refine aa (wp_ret (ai (ai ?_)))
 exact bpr (.tuple #[.pointer none,vi ((aJ (tick S) u).2)]) (aL results64 rpt rpt) (jY.of (Fc hno (mC kH) (of_decide_eq_true lR) hu (qr pM)) rZ)
 have Di:=bne_eq_false_iff_eq.1 pM
 refine wp_skip (aa ?_)
 have hc0_:=mC pM
 obtain⟨u2,hu2,hn2,hb2,oC⟩:=tV hAB2 hnd
 obtain⟨S1,hS1⟩:∃z,(aJ (tick S) u).1=z:=⟨_,rfl⟩
 rw[hS1] at rZ hu2
 obtain⟨⟨hrw1,hrr1⟩,mb1,RA1,rc1,EA1,ec1,ib1,tb1,fpd1,hv64_⟩:=rZ.unf
 rw[hu2] at hv64_
 have ho65_:=St.obf (t:=u2) hv64_.u2
 have hnd2:((A++u2::B).map BfT.n).Nodup:=by rw[List.map_append,List.map_cons,hn2];rw[List.map_append,List.map_cons] at hnd;exact hnd
 refine sqs [.m 95 0,.k 96 (vp sb),.k 97 (po sb 2)] ?_
 refine am 2 ho65_ ?_
 refine sqp [.m 99 9] ?_
 refine sqc (eMx kcI ptX P_ 3 mb1 ((mzD (atM (A++u2::B)) u.n ((A++u2::B).length))) (cd (atM (A++u2::B)) u.n none)) 3 ho65_ (by
   refine svA fun g b W X cx=>?_
   exact GV (e:=115) (x:=u.n) rfl rfl rfl rfl (cx.ou 98) (show g _=Kc.enc kcI _ from(cx.ou 99)) cx (cx.init 3 _ rfl) rfl ((hkk u hu)) rfl rfl rfl (fun _ _ _ _ _=>id) (hk:=show Program.underlying _ _= _ from by kernel_rfl)) fun P2 vo=>?_
 refine aa ?_
 have hd72_:=vo.u1.c0
 rw[<-hn2,KT hnd2,show mzD (atM (A++u2::B)) u2.n (A++u2::B).length=(A++B).length from KU hnd2] at hd72_
 obtain⟨fp73_,hk73_⟩:=St.stf (S:={S1 with pool:=A++B}) (hd72_.u2.u2) (oz hrw1 (fun v hv=> .inl ⟨v,by rw[hu2];rcases List.mem_append.1 hv with h|h<;>simp[h],rfl⟩) (fun r h=>h)) (hrr1)
 exact⟨{S1 with pool:=A++B},u,fp73_,HG (S1:=S1) (er:=(aJ (tick S) u).2) (of_decide_eq_true lR) (Prod.ext hS1 rfl) hc0_ (by rw[hu2,<-hn2,BK hnd2]) rfl,(fun _=>hu),(by kernel_rfl),hk73_.pk [0]⟩
 rw[ha_] at hq1_
 simp only[exq 10 hb_] at eo
 simp only[ed 65 ha_,ed 66 hq1_,Om] at aC
 clear hD ha_ hq1_ hb_;subst aC;clear d b X
 refine aa (wq (wct rfl (wp_skip (aa (wp_block (wq ?_))))))
 obtain⟨t1,ht1,rfl,rfl⟩:=GC hm49
 refine sqr ?_
 refine sql (.tuple #[vi t1.n,nX (some t1.blk)]) eo (fun cx=>CS rfl (cx.ou 64) (CtxV.holdE cx (cx.init 9 _ rfl) rfl)) ?_
 refine sqp [.k 68 (vi t1.n),.k 69 (nX (some t1.blk)),.m 10 68,.m 11 69] ?_
 refine aa (wq ?_)
 rcases ho with ⟨rfl,hl0⟩|⟨u0,hu0,rfl⟩
 refine AV [0,1,3,7,15,31,63,7,135,391,903,7,3975,8071,16263,32647,65535,131071] [.k 70 (vi (-1)),.e 71 (.bool (decide ((-1)<0))) (.bool true) (congrArg Value.bool (show (decide ((-1)<0))=true from(by decide))),.k 72 (.bool true),.u 73,.u 74,.u 75,.u 76,.u 77,.u 78,.u 79,.u 80,.u 81,.u 82,.u 83,.u 84,.u 85,.u 86,.k 87 (.bool true)] [(70,0,18,88)] eo fun RG Dg=>?_
 refine aa (wct rfl (sqs [.m 88 10,.m 9 88] ?_))
 refine aq (aa ?_)
 refine⟨2*((cnt-1)),by omega,?_⟩
 exact⟨t1.n,(fun y=>(left) y&&y != t1.n),(cnt-1),(some (t1.n,(some t1.blk))),.inr ⟨t1,ht1,rfl⟩,rfl,(by kernel_rfl),Dg.pk [0,9,1,2,3,4,5,6,7,8]⟩
 have hk0:=hok.keys u0 hu0
 have hd83:(decide (u0.n<0))=false:=(by simp;omega)
 refine bG [0,1,3,7,15,31,63,7,135,391,903,7,3975,8071,16263,32647,65535,131071] [[],[],[],[],[],[],[1],[],[],[],[0],[],[9],[],[],[1]] [.k 70 (vi u0.n),.e 71 (.bool (decide (u0.n<0))) (.bool false) (congrArg Value.bool hd83),.k 72 (.bool false),.k 73 (po t1.blk 0),.k 74 (po t1.blk 0),.k 75 (po t1.blk 4),.c 76 (vi t1.used),.k 77 (vp sb),.k 78 (vp sb),.k 79 (po sb 2),.c 80 (.map (some mb)),.k 81 (vi u0.n),.c 82 (po u0.blk 0),.k 83 (po u0.blk 0),.k 84 (po u0.blk 4),.c 85 (vi u0.used),.k 86 (.bool (decide (t1.used<u0.used))),.k 87 (.bool (decide (t1.used<u0.used)))] [0,1,2,3,4,5,6,7,8,9] [6,10,12,15] [(70,0,18,88)] eo ?_ fun UJ Jw=>?_
 refine⟨?_,?_,?_,?_,trivial⟩
 exact xs5 rfl id (fun cx=>(cx.an 2)) fun cx=>rL1 (cx.an 5) (Blk.cell (Bx (CtxV.holdF cx (cx.init 1 _ rfl) rfl) ht1) 4)
 exact xs5 rfl id (fun cx=>(cx.an 2)) fun cx=>rL1 (cx.an 9) ((cx.bi 0 rfl).cell 2)
 exact xs5 rfl id (fun cx=>(cx.an 2)) fun cx=>(da (e:=115) (C:=ptX) (K:=kcI) (x:=u0.n) rfl (cx.an 10) (cx.an 11) (CtxV.rx cx (cx.init 9 _ rfl) rfl) (h0:=by rfl) (hx:=hkk u0 hu0) (hk:=show Program.underlying _ _= _ from by kernel_rfl)).trans (by rw[KX hok.nodup hu0];rfl)
 exact xs5 rfl id (fun cx=>(cx.an 2)) fun cx=>rL1 (cx.an 14) (Blk.cell (Bx (CtxV.holdF cx (cx.init 1 _ rfl) rfl) hu0) 4)
 refine aa (wds (fun zW Dj=>?_) fun zW Dj=>?_)
 refine sqs [.m 88 10,.m 9 88] ?_
 refine aq (aa ?_)
 refine⟨2*((cnt-1)),by omega,?_⟩
 exact⟨t1.n,(fun y=>(left) y&&y != t1.n),(cnt-1),(some (t1.n,(some t1.blk))),.inr ⟨t1,ht1,rfl⟩,rfl,(by kernel_rfl),Jw.pk [0,9,1,2,3,4,5,6,7,8]⟩
 refine wp_skip (aq (aa ?_))
 refine⟨2*((cnt-1)),by omega,?_⟩
 exact⟨u0.n,(fun y=>(left) y&&y != t1.n),(cnt-1),(some (t1.n,(some t1.blk))),.inr ⟨u0,hu0,rfl⟩,rfl,(by kernel_rfl),Jw.pk [0,9,1,2,3,4,5,6,7,8]⟩
 refine wp_skip (aa ?_)
 obtain⟨fp87_,hk87_⟩:=St.stf (S:=(tick S)) (d7) (hrw) (hrr)
 exact⟨(tick S),bf0,fp87_,zv (S:=tick S) (of_decide_eq_false lR),(fun h_=>absurd h_ (of_decide_eq_false lR)),(by kernel_rfl),hk87_.pk [0]⟩
 rintro a39 qU ⟨S2,u,fp2,hev,hu,hj_,du⟩
 refine ovz hj_ fun Qy=>?_
 refine wq ?_
 have hok2:SOk S2 (c+2):=by have h_:=htk.evict u hu;rw[hev] at h_;exact h_
 have hlen2:=xd htk hu (by rw[hev])
 rw[hev] at hlen2
 have hno2:∀x∈S2.pool,x.n≠n:=by have h_:=px (S:=tick S) (t:=u) hno;rw[hev] at h_;exact h_
 have he0:(rdS S.D n).2=0:=mC kH
 have hsz5:=Gr he0
 obtain⟨⟨hrw2,hrr2⟩,mb2,RA2,rc2,EA2,ec2,ib2,tb2,fpd2,hv88_⟩:=du.unf
 rcases bV:rdX (rdS S.D n).1 with _|p
 have hrp:=o9 bV
 refine aB [0,1,3,7,7,0,47,127] [[],[],[],[],[],[],[10]] [[],[],[],[],[],[10],[11]] [[],[],[],[],[],[],[10]] [.k 101 (.string ((rdS S.D n).1)),.a 102,.a 100,.c 103 (.agg #[vi 0,vi 0,sn]),.a 104,.a 13,.n,.a 14] (fun ix d b X=>match ix with|0=>True|1=>d 102= .tuple #[.agg #[vi 0,vi 0,sn],vi (nzI (tE (b 102)))]|2=>d 100= .tuple #[.agg #[vi 0,vi 0,sn],vi (nzI (tE (b 102)))]|3=>True|4=>d 104=vi (nzI (tE (b 102)))|5=>d 13=vp (pb (b 13))/\X 10=eB (pb (b 13)) 48 #[vi 0,vi 0,sn]|6=>X 11=eB (pb (b 13)) 48 #[vi 0,vi 0,sn]|7=>d 14=vi (nzI (tE (b 102)))|_=>True) [0,1,2,3,4,5,6,7,8,9,11] [1,2,3,4,5,6,7] [(13,5,3,15),(85,2,1,86),(0,0,2,2),(0,3,2,2)] hv88_ ?_ ?_ ?_
 exact fun ix _ _ _ _ _ _ hs hb hx h=>match ix,h with
 |1,h=>by dsimp only;rw[<-hs 102 rfl,<-hb 102 rfl];exact h
 |2,h=>by dsimp only;rw[<-hs 100 rfl,<-hb 102 rfl];exact h
 |4,h=>by dsimp only;rw[<-hs 104 rfl,<-hb 102 rfl];exact h
 |5,h=>by dsimp only;rw[<-hs 13 rfl,<-hb 13 rfl,<-hx 10 rfl];exact h
 |6,h=>by dsimp only;rw[<-hb 13 rfl,<-hx 11 rfl];exact h
 |7,h=>by dsimp only;rw[<-hs 14 rfl,<-hb 102 rfl];exact h
 |0,_|3,_|_+8,_=>trivial
 refine⟨?_,?_,?_,?_,?_,?_,?_,trivial⟩
 refine svA fun g b W X cx=>?_
 refine ak.call (rCF (args:=#[.string ((rdS S.D n).1)]) cx.sees (av (cx.an 0))) ?_
 refine(KG bV (mG _ _ hsz5)).mono ?_
 rintro e W1 ⟨er4,hn4,rfl,hx⟩
 refine⟨_,rfl,bK [] rfl rfl hx (by simp) List.Pairwise.nil (fun d i X' hs hb hv hN=>?_)⟩
 have aH:=(hv 102 rfl).1;have aO:=(hv 102 rfl).2
 exact aH.trans (by rw[aO];exact congrArg (fun z=>Value.tuple #[.agg #[vi 0,vi 0,sn],vi z]) (JW hn4).symm)
 exact sv rfl rfl rfl rfl rfl _ (fun _ _ _ h=>h) (fun b i h=>by rw[h 102 (by decide)]) fun g b W X cx=>cM rfl (dTn (cx.an 1))
 exact xs4 rfl id fun cx=>bH rfl (dTn (cx.an 2)) rfl
 exact sv rfl rfl rfl rfl rfl _ (fun _ _ _ h=>h) (fun b i h=>by rw[h 102 (by decide)]) fun g b W X cx=>bH rfl (dTn (cx.an 2)) rfl
 refine svA fun g b W X cx=>?_
 exact dVA (cs:=#[vi 0,vi 0,sn]) rfl rfl rfl (fun _ _ _ _ _=> .intro)
 refine svA fun g b W X cx=>?_
 exact dVS (n:=3) rfl (dTn (cx.an 5)).1 (cx.an 3) cx (dTn (cx.an 5)).2 rfl (nle rfl) rfl rfl rfl (fun d i X' hs hb hx=>by rw[hb 13];exact hx)
 exact sv rfl rfl rfl rfl rfl _ (fun _ _ _ h=>h) (fun b i h=>by rw[h 102 (by decide)]) fun g b W X cx=>cS rfl (dTn (cx.an 4))
 intro d b X M8 hD me fr aC
 simp only[exq 11 ((dTn (hD 6 lq)))] at me
 simp only[ed 102 ((dTn (hD 1 lq))),ed 100 ((dTn (hD 2 lq))),ed 104 ((dTn (hD 4 lq))),ed 13 ((dTn (hD 5 lq)).1),ed 14 ((dTn (hD 7 lq)))] at aC
 generalize tE (b 102)=Lx,pb (b 13)=RJ at me aC
 clear hD;subst aC;clear d b X
 refine aa (wq (wsq [.m 105 14,.k 106 (.bool ((nzI Lx) != 0))] ?_))
 refine aa (wbs (fun IW=>?_) fun IW=>?_)
 have OX:=bne_iff_ne.1 IW
 refine sqr (sqk (.agg #[vi 0,vi 0,sn]) me (fun cx=>⟨_,FG 0 _,(av (cx.co _))⟩) fun RK Dk=>?_)
 refine aT (n:=3) 10 #[vi 0,vi 0,sn] Dk fun PW vj=>?_
 refine aa (wq ?_)
 have hn95:=St.nilrow vj 9
 simp only[List.cons_append,List.nil_append] at hn95
 have hmz:mzP (atM S2.pool) n S2.pool.length=S2.pool.length+1:=by rw[mzP,kG hno2];rfl
 have hl5:S2.pool.length<1000000:=by have:=hok2.len;have:=hok2.bufs;omega
 refine aB [0,1,3,7,0,0,0,64,192,448,992,2016,4095] [[],[],[],[0],[],[10],[],[],[],[0],[],[],[1]] [[],[],[],[],[],[],[],[],[],[],[],[12],[13]] [[],[],[],[],[],[],[],[],[],[],[],[],[1]] [.k 108 (vp sb),.k 109 (vp sb),.k 110 (po sb 2),.c 111 (.map (some mb2)),.k 112 (vi n),.c 113 (.agg #[vi 0,vi 0,sn]),.k 114 (vp sb),.k 115 (vp sb),.k 116 (po sb 3),.c 117 (vi S2.time),.k 118 (.agg #[vi 0,vi 0,sn,.bool false,vi S2.time]),.a 119,.n] (fun ix d b X=>match ix with|0|1|2|3|4|5|6|7|8|9|10=>True|11=>d 119=vp (pb (b 119))/\X 12=eB (pb (b 119)) 120 #[vi 0,vi 0,sn,.bool false,vi S2.time]|12=>X 13=eMx kcI ptX P_ 3 mb2 ((mzP (atM S2.pool) n S2.pool.length)) (cd (atM S2.pool) n (some (some (pb (b 119)))))|_=>True) [0,2,3,4,5,6,7,8,9,10,11,12,13] [3,5,9,11,12] [(108,0,12,120)] hn95 ?_ ?_ ?_
 exact fun ix _ _ _ _ _ _ hs hb hx h=>match ix,h with
 |11,h=>by dsimp only;rw[<-hs 119 rfl,<-hb 119 rfl,<-hx 12 rfl];exact h
 |12,h=>by dsimp only;rw[<-hb 119 rfl,<-hx 13 rfl];exact h
 |0,_|1,_|2,_|3,_|4,_|5,_|6,_|7,_|8,_|9,_|10,_|_+13,_=>trivial
 refine⟨?_,?_,?_,?_,?_,trivial⟩
 exact xs4 rfl id fun cx=>rL1 (cx.an 2) ((cx.bi 0 rfl).cell 2)
 exact xs4 rfl id fun cx=>rLB (n:=3) (cx.ou 13) (cx.bi 10 rfl) (nle rfl) rfl
 exact xs4 rfl id fun cx=>rL1 (cx.an 8) ((cx.bi 0 rfl).cell 3)
 refine svA fun g b W X cx=>?_
 exact qp (cs:=#[vi 0,vi 0,sn,.bool false,vi S2.time]) rfl (cx.an 10) rfl rfl rfl (fun _ _ _ _ _=> .intro)
 refine svA fun g b W X cx=>?_
 exact gy (e:=115) (v:=(some (pb (b 119)))) (.inl rfl) (cx.an 3) (show g _=Kc.enc kcI n from(cx.an 4)) (show g _=Ec.enc ptX (some (pb (b 119))) from(dTn (cx.an 11)).1) cx (cx.init 1 _ rfl) rfl (trivial) (by omega) (hkn) rfl rfl rfl (fun d i X' hs hb hx=>by rw[hb 119];exact hx) (hk:=show Program.underlying _ _= _ from by kernel_rfl)
 intro d b X UK hD Dl fr aC
 simp only[exq 12 ((dTn (hD 11 lq)).2),exq 13 ((dTn (hD 12 lq)))] at Dl
 simp only[ed 119 ((dTn (hD 11 lq)).1)] at aC
 generalize pb (b 119)=fM at Dl aC
 clear hD;subst aC;clear d b X
 refine aa (wq ?_)
 have hg97_:=St.apf (r:=(⟨bp,none,0⟩:PgR)) Dl.u11.u2.u11.u4
 have hj97_:=St.abf (t:=(⟨n,fM,(⟨bp,none,0⟩:PgR),false,S2.time⟩:BfT)) hg97_.u2.u2
 rw[hmz,show cd (atM S2.pool) n (some (some fM))=atM (S2.pool++[(⟨n,fM,(⟨bp,none,0⟩:PgR),false,S2.time⟩:BfT)]) from wo (t:=(⟨n,fM,(⟨bp,none,0⟩:PgR),false,S2.time⟩:BfT)) hno2] at hj97_
 have hnd9:((S2.pool++[(⟨n,fM,(⟨bp,none,0⟩:PgR),false,S2.time⟩:BfT)]).map BfT.n).Nodup:=l7 hok2.nodup hno2
 refine sqs [.m 120 0,.k 121 (vp sb),.k 122 (po sb 2)] ?_
 refine am 2 hj97_ ?_
 refine sqp [.m 124 1] ?_
 refine sql (vp fM) hj97_ (fun cx=>(da (e:=115) (C:=ptX) (K:=kcI) (x:=n) rfl (cx.ou 123) (cx.ou 124) (CtxV.mx cx (cx.init 10 _ rfl) rfl) (h0:=by rfl) (hx:=hkn) (hk:=show Program.underlying _ _= _ from by kernel_rfl)).trans (by rw[show atM (S2.pool++[(⟨n,fM,(⟨bp,none,0⟩:PgR),false,S2.time⟩:BfT)]) n=some (some fM) from lk (A:=S2.pool) (B:=[]) hnd9];rfl)) ?_
 refine sqp [.m 4 125,.k 5 (vi 0)] ?_
 refine aa (wp_ret ?_)
 refine bpr (.tuple #[vp fM,vi 0]) (aL results64 rpt rpt) ?_
 obtain⟨fp106_,hk106_⟩:=St.stf (S:={S2 with pool:=S2.pool++[(⟨n,fM,(⟨bp,none,0⟩:PgR),false,S2.time⟩:BfT)],rows:=S2.rows++[(⟨bp,none,0⟩:PgR)]}) (by have h_:=hj97_.u9.c0.u9.u3;rw[show S2.pool.length+1=(S2.pool++[(⟨n,fM,(⟨bp,none,0⟩:PgR),false,S2.time⟩:BfT)]).length by simp] at h_;exact h_) (oz hrw2 (l2:=S2.pool++[(⟨n,fM,(⟨bp,none,0⟩:PgR),false,S2.time⟩:BfT)]) (rows2:=S2.rows++[(⟨bp,none,0⟩:PgR)]) (fun v hv=>(List.mem_append.1 hv).elim (fun h=> .inl ⟨v,h,rfl⟩) (fun h=> .inr (by rw[List.mem_singleton.1 h];simp))) (fun r h=>by simp[h])) (hrr2)
 exact jY.of (by have h_:=s6 hno he0 hu hev fM none 0 (k:=S2.time) (by have h5:=oZ (S:=tick S) (t:=u);rw[hev] at h5;exact h5);rw[hrp] at h_;exact h_) hk106_
 have OX:=bne_eq_false_iff_eq.1 IW
 refine wp_skip (aa (wq ?_))
 have hn107:=St.nilrow me 9
 simp only[List.cons_append,List.nil_append] at hn107
 have hmz:mzP (atM S2.pool) n S2.pool.length=S2.pool.length+1:=by rw[mzP,kG hno2];rfl
 have hl5:S2.pool.length<1000000:=by have:=hok2.len;have:=hok2.bufs;omega
 refine aB [0,1,3,7,0,0,0,64,192,448,992,2016,4095] [[],[],[],[0],[],[10],[],[],[],[0],[],[],[1]] [[],[],[],[],[],[],[],[],[],[],[],[12],[13]] [[],[],[],[],[],[],[],[],[],[],[],[],[1]] [.k 108 (vp sb),.k 109 (vp sb),.k 110 (po sb 2),.c 111 (.map (some mb2)),.k 112 (vi n),.c 113 (.agg #[vi 0,vi 0,sn]),.k 114 (vp sb),.k 115 (vp sb),.k 116 (po sb 3),.c 117 (vi S2.time),.k 118 (.agg #[vi 0,vi 0,sn,.bool false,vi S2.time]),.a 119,.n] (fun ix d b X=>match ix with|0|1|2|3|4|5|6|7|8|9|10=>True|11=>d 119=vp (pb (b 119))/\X 12=eB (pb (b 119)) 120 #[vi 0,vi 0,sn,.bool false,vi S2.time]|12=>X 13=eMx kcI ptX P_ 3 mb2 ((mzP (atM S2.pool) n S2.pool.length)) (cd (atM S2.pool) n (some (some (pb (b 119)))))|_=>True) [0,2,3,4,5,6,7,8,9,10,11,12,13] [3,5,9,11,12] [(108,0,12,120)] hn107 ?_ ?_ ?_
 exact fun ix _ _ _ _ _ _ hs hb hx h=>match ix,h with
 |11,h=>by dsimp only;rw[<-hs 119 rfl,<-hb 119 rfl,<-hx 12 rfl];exact h
 |12,h=>by dsimp only;rw[<-hb 119 rfl,<-hx 13 rfl];exact h
 |0,_|1,_|2,_|3,_|4,_|5,_|6,_|7,_|8,_|9,_|10,_|_+13,_=>trivial
 refine⟨?_,?_,?_,?_,?_,trivial⟩
 exact xs4 rfl id fun cx=>rL1 (cx.an 2) ((cx.bi 0 rfl).cell 2)
 exact xs4 rfl id fun cx=>rLB (n:=3) (cx.ou 13) (cx.bi 10 rfl) (nle rfl) rfl
 exact xs4 rfl id fun cx=>rL1 (cx.an 8) ((cx.bi 0 rfl).cell 3)
 refine svA fun g b W X cx=>?_
 exact qp (cs:=#[vi 0,vi 0,sn,.bool false,vi S2.time]) rfl (cx.an 10) rfl rfl rfl (fun _ _ _ _ _=> .intro)
 refine svA fun g b W X cx=>?_
 exact gy (e:=115) (v:=(some (pb (b 119)))) (.inl rfl) (cx.an 3) (show g _=Kc.enc kcI n from(cx.an 4)) (show g _=Ec.enc ptX (some (pb (b 119))) from(dTn (cx.an 11)).1) cx (cx.init 1 _ rfl) rfl (trivial) (by omega) (hkn) rfl rfl rfl (fun d i X' hs hb hx=>by rw[hb 119];exact hx) (hk:=show Program.underlying _ _= _ from by kernel_rfl)
 intro d b X Qz hD oH fr aC
 simp only[exq 12 ((dTn (hD 11 lq)).2),exq 13 ((dTn (hD 12 lq)))] at oH
 simp only[ed 119 ((dTn (hD 11 lq)).1)] at aC
 generalize pb (b 119)=e8 at oH aC
 clear hD;subst aC;clear d b X
 refine aa (wq ?_)
 have hg109_:=St.apf (r:=(⟨bp,none,0⟩:PgR)) oH.u11.u2.u11.u4
 have hj109_:=St.abf (t:=(⟨n,e8,(⟨bp,none,0⟩:PgR),false,S2.time⟩:BfT)) hg109_.u2.u2
 rw[hmz,show cd (atM S2.pool) n (some (some e8))=atM (S2.pool++[(⟨n,e8,(⟨bp,none,0⟩:PgR),false,S2.time⟩:BfT)]) from wo (t:=(⟨n,e8,(⟨bp,none,0⟩:PgR),false,S2.time⟩:BfT)) hno2] at hj109_
 have hnd9:((S2.pool++[(⟨n,e8,(⟨bp,none,0⟩:PgR),false,S2.time⟩:BfT)]).map BfT.n).Nodup:=l7 hok2.nodup hno2
 refine sqs [.m 120 0,.k 121 (vp sb),.k 122 (po sb 2)] ?_
 refine am 2 hj109_ ?_
 refine sqp [.m 124 1] ?_
 refine sql (vp e8) hj109_ (fun cx=>(da (e:=115) (C:=ptX) (K:=kcI) (x:=n) rfl (cx.ou 123) (cx.ou 124) (CtxV.mx cx (cx.init 10 _ rfl) rfl) (h0:=by rfl) (hx:=hkn) (hk:=show Program.underlying _ _= _ from by kernel_rfl)).trans (by rw[show atM (S2.pool++[(⟨n,e8,(⟨bp,none,0⟩:PgR),false,S2.time⟩:BfT)]) n=some (some e8) from lk (A:=S2.pool) (B:=[]) hnd9];rfl)) ?_
 refine sqp [.m 4 125,.k 5 (vi 0)] ?_
 refine aa (wp_ret ?_)
 refine bpr (.tuple #[vp e8,vi 0]) (aL results64 rpt rpt) ?_
 obtain⟨fp118_,hk118_⟩:=St.stf (S:={S2 with pool:=S2.pool++[(⟨n,e8,(⟨bp,none,0⟩:PgR),false,S2.time⟩:BfT)],rows:=S2.rows++[(⟨bp,none,0⟩:PgR)]}) (by have h_:=hj109_.u9.c0.u9.u3;rw[show S2.pool.length+1=(S2.pool++[(⟨n,e8,(⟨bp,none,0⟩:PgR),false,S2.time⟩:BfT)]).length by simp] at h_;exact h_) (oz hrw2 (l2:=S2.pool++[(⟨n,e8,(⟨bp,none,0⟩:PgR),false,S2.time⟩:BfT)]) (rows2:=S2.rows++[(⟨bp,none,0⟩:PgR)]) (fun v hv=>(List.mem_append.1 hv).elim (fun h=> .inl ⟨v,h,rfl⟩) (fun h=> .inr (by rw[List.mem_singleton.1 h];simp))) (fun r h=>by simp[h])) (hrr2)
 exact jY.of (by have h_:=s6 hno he0 hu hev e8 none 0 (k:=S2.time) (by have h5:=oZ (S:=tick S) (t:=u);rw[hev] at h5;exact h5);rw[hrp] at h_;exact h_) hk118_
 have hrp:=pm bV
 refine sqs [.m 101 7] ?_
 refine iz (fun cz cC=> .tuple #[.agg #[vi p.1,vi p.2.1,.slice cz p.2.2.length cC],vi 0]) (fun cz cC=>eO 9 1 (.slice cz p.2.2.length cC) p.2.2.length (p.2.2.map Value.string)) hv88_ (fun cx=>⟨_,(JU bV (mG _ _ hsz5)).mono (by rintro e W1 ⟨A4,c4,rfl,ho,hx⟩;exact⟨_,_,rfl,St.one hx (cf ho)⟩),(av (cx.ou 101))⟩) fun cz cC QC vq=>?_
 refine sqp [.m 100 102,.k 103 (.agg #[vi p.1,vi p.2.1,.slice cz p.2.2.length cC]),.k 104 (vi 0)] ?_
 refine bW #[vi 0,vi 0,sn] vq fun Rc QD vr=>?_
 refine aT (n:=3) 11 #[vi p.1,vi p.2.1,.slice cz p.2.2.length cC] vr fun Ti M9=>?_
 refine sqp [.m 14 104] ?_
 refine aa (wq (wsq [.m 105 14,.k 106 (.bool false)] ?_))
 refine aa (wcf rfl (wp_skip (aa (wq ?_))))
 have hmz:mzP (atM S2.pool) n S2.pool.length=S2.pool.length+1:=by rw[mzP,kG hno2];rfl
 have hl5:S2.pool.length<1000000:=by have:=hok2.len;have:=hok2.bufs;omega
 refine aB [0,1,3,7,0,0,0,64,192,448,992,2016,4095] [[],[],[],[0],[],[11],[],[],[],[0],[],[],[1]] [[],[],[],[],[],[],[],[],[],[],[],[12],[13]] [[],[],[],[],[],[],[],[],[],[],[],[],[1]] [.k 108 (vp sb),.k 109 (vp sb),.k 110 (po sb 2),.c 111 (.map (some mb2)),.k 112 (vi n),.c 113 (.agg #[vi p.1,vi p.2.1,.slice cz p.2.2.length cC]),.k 114 (vp sb),.k 115 (vp sb),.k 116 (po sb 3),.c 117 (vi S2.time),.k 118 (.agg #[vi p.1,vi p.2.1,.slice cz p.2.2.length cC,.bool false,vi S2.time]),.a 119,.n] (fun ix d b X=>match ix with|0|1|2|3|4|5|6|7|8|9|10=>True|11=>d 119=vp (pb (b 119))/\X 12=eB (pb (b 119)) 120 #[vi p.1,vi p.2.1,.slice cz p.2.2.length cC,.bool false,vi S2.time]|12=>X 13=eMx kcI ptX P_ 3 mb2 ((mzP (atM S2.pool) n S2.pool.length)) (cd (atM S2.pool) n (some (some (pb (b 119)))))|_=>True) [0,2,3,4,5,6,7,8,9,10,11,12,13] [3,5,9,11,12] [(108,0,12,120)] M9 ?_ ?_ ?_
 exact fun ix _ _ _ _ _ _ hs hb hx h=>match ix,h with
 |11,h=>by dsimp only;rw[<-hs 119 rfl,<-hb 119 rfl,<-hx 12 rfl];exact h
 |12,h=>by dsimp only;rw[<-hb 119 rfl,<-hx 13 rfl];exact h
 |0,_|1,_|2,_|3,_|4,_|5,_|6,_|7,_|8,_|9,_|10,_|_+13,_=>trivial
 refine⟨?_,?_,?_,?_,?_,trivial⟩
 exact xs4 rfl id fun cx=>rL1 (cx.an 2) ((cx.bi 0 rfl).cell 2)
 exact xs4 rfl id fun cx=>rLB (n:=3) (cx.ou 13) (cx.bi 11 rfl) (nle rfl) rfl
 exact xs4 rfl id fun cx=>rL1 (cx.an 8) ((cx.bi 0 rfl).cell 3)
 refine svA fun g b W X cx=>?_
 exact qp (cs:=#[vi p.1,vi p.2.1,.slice cz p.2.2.length cC,.bool false,vi S2.time]) rfl (cx.an 10) rfl rfl rfl (fun _ _ _ _ _=> .intro)
 refine svA fun g b W X cx=>?_
 exact gy (e:=115) (v:=(some (pb (b 119)))) (.inl rfl) (cx.an 3) (show g _=Kc.enc kcI n from(cx.an 4)) (show g _=Ec.enc ptX (some (pb (b 119))) from(dTn (cx.an 11)).1) cx (cx.init 1 _ rfl) rfl (trivial) (by omega) (hkn) rfl rfl rfl (fun d i X' hs hb hx=>by rw[hb 119];exact hx) (hk:=show Program.underlying _ _= _ from by kernel_rfl)
 intro d b X Tj hD zX fr aC
 simp only[exq 12 ((dTn (hD 11 lq)).2),exq 13 ((dTn (hD 12 lq)))] at zX
 simp only[ed 119 ((dTn (hD 11 lq)).1)] at aC
 generalize pb (b 119)=e9 at zX aC
 clear hD;subst aC;clear d b X
 refine aa (wq ?_)
 have hg130_:=St.apf (r:=(⟨p,cz,cC⟩:PgR)) zX.u11.u2.u10.u4
 have hj130_:=St.abf (t:=(⟨n,e9,(⟨p,cz,cC⟩:PgR),false,S2.time⟩:BfT)) hg130_.u2.u2
 rw[hmz,show cd (atM S2.pool) n (some (some e9))=atM (S2.pool++[(⟨n,e9,(⟨p,cz,cC⟩:PgR),false,S2.time⟩:BfT)]) from wo (t:=(⟨n,e9,(⟨p,cz,cC⟩:PgR),false,S2.time⟩:BfT)) hno2] at hj130_
 have hnd9:((S2.pool++[(⟨n,e9,(⟨p,cz,cC⟩:PgR),false,S2.time⟩:BfT)]).map BfT.n).Nodup:=l7 hok2.nodup hno2
 refine sqs [.m 120 0,.k 121 (vp sb),.k 122 (po sb 2)] ?_
 refine am 2 hj130_ ?_
 refine sqp [.m 124 1] ?_
 refine sql (vp e9) hj130_ (fun cx=>(da (e:=115) (C:=ptX) (K:=kcI) (x:=n) rfl (cx.ou 123) (cx.ou 124) (CtxV.mx cx (cx.init 10 _ rfl) rfl) (h0:=by rfl) (hx:=hkn) (hk:=show Program.underlying _ _= _ from by kernel_rfl)).trans (by rw[show atM (S2.pool++[(⟨n,e9,(⟨p,cz,cC⟩:PgR),false,S2.time⟩:BfT)]) n=some (some e9) from lk (A:=S2.pool) (B:=[]) hnd9];rfl)) ?_
 refine sqp [.m 4 125,.k 5 (vi 0)] ?_
 refine aa (wp_ret ?_)
 refine bpr (.tuple #[vp e9,vi 0]) (aL results64 rpt rpt) ?_
 obtain⟨fp139_,hk139_⟩:=St.stf (S:={S2 with pool:=S2.pool++[(⟨n,e9,(⟨p,cz,cC⟩:PgR),false,S2.time⟩:BfT)],rows:=S2.rows++[(⟨p,cz,cC⟩:PgR)]}) (by have h_:=hj130_.u9.c0.u9.u3;rw[show S2.pool.length+1=(S2.pool++[(⟨n,e9,(⟨p,cz,cC⟩:PgR),false,S2.time⟩:BfT)]).length by simp] at h_;exact h_) (oz hrw2 (l2:=S2.pool++[(⟨n,e9,(⟨p,cz,cC⟩:PgR),false,S2.time⟩:BfT)]) (rows2:=S2.rows++[(⟨p,cz,cC⟩:PgR)]) (fun v hv=>(List.mem_append.1 hv).elim (fun h=> .inl ⟨v,h,rfl⟩) (fun h=> .inr (by rw[List.mem_singleton.1 h];simp))) (fun r h=>by simp[h])) (hrr2)
 exact jY.of (by have h_:=s6 hno he0 hu hev e9 cz cC (k:=S2.time) (by have h5:=oZ (S:=tick S) (t:=u);rw[hev] at h5;exact h5);rw[hrp] at h_;exact h_) hk139_
 rw[hAB] at fY
 have ho140_:=St.obf (t:=t) fY.u2
 have htm:t∈S.pool:=by rw[hAB];simp
 have hnd:((A++t::B).map BfT.n).Nodup:=by rw[<-hAB];exact hok.nodup
 refine sqs [.m 22 0,.k 23 (vp sb),.k 24 (po sb 2)] ?_
 refine am 2 ho140_ ?_
 refine sqp [.m 26 1] ?_
 refine sql (po t.blk 0) ho140_ (fun cx=>(da (e:=115) (C:=ptX) (K:=kcI) (x:=t.n) rfl (cx.ou 25) (cx.ou 26) (CtxV.mx cx (cx.init 3 _ rfl) rfl) (h0:=by rfl) (hx:=hkn) (hk:=show Program.underlying _ _= _ from by kernel_rfl)).trans (by rw[lk hnd];rfl)) ?_
 refine sqp [.m 6 27] ?_
 refine aa (wsq [.m 28 6] ?_)
 refine sqv (.bool true) ho140_ (by
   exact sv0 rfl rfl rfl rfl rfl (fun _ _ _ h=>h) fun g b W X cx=>by
    have IV:g (.tmp 28)=po t.blk 0:=(cx.ou 28)
    simp[go_sem,cx.sees.const,IV]) fun Tk FX=>?_
 refine aa (wct rfl (wsq [.m 30 6,.m 31 0,.k 32 (vp sb),.k 33 (po sb 3)] ?_))
 refine am 2 FX ?_
 refine sqp [.k 35 (po t.blk 0),.k 36 (po t.blk 4)] ?_
 refine aT (n:=1) 1 #[vi t.pg.p.1,vi t.pg.p.2.1,.slice t.pg.A t.pg.p.2.2.length t.pg.c,.bool t.dirty,vi (S.time+1)] FX fun Tl Na=>?_
 refine aa (wsq [.m 37 6,.m 4 37,.k 5 (vi 0)] ?_)
 refine aa (wp_ret (ai ?_))
 refine bpr (.tuple #[po t.blk 0,vi 0]) (aL results64 rpt rpt) ?_
 have hi161_:=St.ibf (t:=(lP (S.time+1) t)) Na
 obtain⟨fp162_,hk162_⟩:=St.stf (S:={tick S with pool:=A++lP (S.time+1) t::B}) (by have h_:=hi161_.u2.u2;rw[<-oq (A:=A) (B:=B) (t:=t) (u:=lP (S.time+1) t) rfl rfl,show (A++t::B).length=(A++lP (S.time+1) t::B).length by simp] at h_;exact h_) (oz hrw (by rw[hAB];exact K3 (t:=t) (u:=lP (S.time+1) t) rfl) (fun r h=>h)) (hrr)
 exact jY.of ⟨by have h_:=LdR.hit (S:=S) t htm rfl;rw[hAB,ku hnd] at h_;exact h_,fun _=>⟨lP (S.time+1) t,by show _∈A++lP (S.time+1) t::B;simp,rfl,rfl⟩⟩ hk162_
end
section
open Go.RowKit
theorem wm{n:Int}(h:(rdS D n).2=0):0<=n/\n<(D.pgs.length:Int):=by
 unfold rdS at h
 split at h
 cases h
 split at h
 assumption
 cases h
theorem Fr(S:StM)(t:BfT):(bq S t).1.D.pgs.length=S.D.pgs.length:=by
 have hw:∀S:StM,(bL S t).1.D.pgs.length=S.D.pgs.length:=fun S=>by
  have h1:(wrD0 S t).1.pgs.length=S.D.pgs.length:=by
   unfold wrD0
   split
   rw[tj]
   rfl
  unfold bL
  split
  exact h1
  exact((DOk.write _ t.n _).pgs).trans h1
 have hc:(aJ S t).1.D.pgs.length=S.D.pgs.length:=by
  unfold aJ
  split
  exact hw S
  rfl
 unfold bq
 split
 split
 exact hc
 exact hc
 rfl
theorem CP(S:StM)(t:BfT):(bq S t).1.rows=S.rows/\(bq S t).1.recs=S.recs/\(bq S t).1.frm=S.frm/\(bq S t).1.im=S.im/\(bq S t).1.told=S.told:=by
 have hc:(aJ S t).1.rows=S.rows/\(aJ S t).1.recs=S.recs/\(aJ S t).1.frm=S.frm/\(aJ S t).1.im=S.im/\(aJ S t).1.told=S.told:=by
  unfold aJ
  split
  unfold bL
  split<;>exact⟨rfl,rfl,rfl,rfl,rfl⟩
  exact⟨rfl,rfl,rfl,rfl,rfl⟩
 unfold bq
 split
 split
 exact hc
 exact hc
 exact⟨rfl,rfl,rfl,rfl,rfl⟩
theorem Fb{n:Int}(h:(rdS D n).2=0):(rdS D n).1=(rdT (D.pgs.getD n.toNat fO)).1:=by
 unfold rdS at h |-
 split at h
 cases h
 rename_i ho
 rw[if_neg ho]
 split at h
 rename_i hn;rw[if_pos hn]
 cases h
theorem Gs{S:StM}(h:SOk S c)(ht:S.bufs<=(S.pool.length:Int)->t∈S.pool){m:Int}(hm:0<=m)(hn:∀u∈S.pool,u.n≠m):shP (bq S t).1.D m=shP S.D m:=by
 unfold bq
 split
 rename_i hb
 have hr:=h.right t (ht hb)
 have hc:shP (aJ S t).1.D m=shP S.D m:=by
  unfold aJ
  split
  rcases zn (S:=S) hr hm with h1|⟨h1,_⟩
  exact h1
  exact absurd h1.symm (hn t (ht hb))
  rfl
 split
 exact hc
 exact hc
 rfl
theorem SOk.load{n:Int}(h:SOk S c)(hl:LdR S n S' er):SOk S' (c+3):=by
 cases hl with
 |hit t ht hn=>exact(h.tick.setp (f:=lP (S.time+1)) (fun _=>rfl) (fun t ht=>h.right t ht) (fun t ht _ hd=>h.cl t ht hd)).mono (by omega)
 |bad h1 h2=>exact h.tick.mono (by omega)
 |new t blk A cc h1 h2 h3=>
  have he:=(h.tick.evict t h3)
  unfold j6
  split
  exact he.mono (by omega)
  rename_i h4
  have h4:(bq (Go.Proofs.YtcdjaepgahbhfaaGreat.tick S) t).2=0:=by simpa using h4
  have hlen:=xd h.tick h3 h4
  have hr:=wm h2
  have hp:(bq (Go.Proofs.YtcdjaepgahbhfaaGreat.tick S) t).1.D.pgs.length=S.D.pgs.length:=Fr _ _
  have he2:=he.mono (show c+1+1<=c+3 by omega)
  refine⟨he2.bufs,he2.pgs,he2.ws,he2.time,he2.ni,he2.nt,fun u hu=>?_,l7 he2.nodup (px (S:=Go.Proofs.YtcdjaepgahbhfaaGreat.tick S) h1),?_,fun u hu=>?_,he2.recs,he2.log,he2.lsz,he2.fl,fun u hu hd=>?_⟩
  rcases List.mem_append.1 hu with hu|hu
  exact he2.right u hu
  rw[List.mem_singleton.1 hu];exact sX _
  show (((bq (Go.Proofs.YtcdjaepgahbhfaaGreat.tick S) t).1.pool++[_]).length:Int)<=(bq (Go.Proofs.YtcdjaepgahbhfaaGreat.tick S) t).1.bufs
  rw[List.length_append,List.length_singleton]
  omega
  rcases List.mem_append.1 hu with hu|hu
  exact he2.keys u hu
  rw[List.mem_singleton.1 hu]
  show 0<=n/\n<((bq (Go.Proofs.YtcdjaepgahbhfaaGreat.tick S) t).1.D.pgs.length:Int)
  rw[hp];exact hr
  rcases List.mem_append.1 hu with hu|hu
  exact he2.cl u hu hd
  rw[List.mem_singleton.1 hu]
  show rdP (rdS S.D n).1=shP (bq (Go.Proofs.YtcdjaepgahbhfaaGreat.tick S) t).1.D n
  rw[Gs h.tick h3 hr.1 h1,Fb h2];rfl
theorem LdR.rows{S:StM}{n:Int}(hl:LdR S n S' er):(∀r∈S.rows,r∈S'.rows)/\S'.recs=S.recs/\S'.frm=S.frm/\S'.im=S.im/\S'.told=S.told:=by
 cases hl with
 |hit t ht hn=>exact⟨fun r h=>h,rfl,rfl,rfl,rfl⟩
 |bad h1 h2=>exact⟨fun r h=>h,rfl,rfl,rfl,rfl⟩
 |new t blk A cc h1 h2 h3=>
  have he:=CP (tick S) t
  unfold j6
  split
  exact⟨fun r h=>by rw[he.1];exact h,he.2⟩
  exact⟨fun r h=>List.mem_append_left _ (by rw[he.1];exact h),he.2⟩
def gz(pg:PgR)(t:BfT):BfT:={t with pg:=pg,dirty:=true}
def ej(S:StM)(n:Int)(pg:PgR)(S':StM)(er:Int):Prop:=∃S1,LdR S n S1 er/\((er≠0/\S'=S1)\/(er=0/\(∃t∈S1.pool,t.n=n)/\S'={S1 with pool:=dh S1.pool n (gz pg)}))
theorem SOk.put{n:Int}(h:SOk S c)(hr:bI pg.p)(hp:ej S n pg S' er):SOk S' (c+3):=by
 obtain⟨S1,h1,⟨_,rfl⟩|⟨_,_,rfl⟩⟩:=hp
 exact h.load h1
 exact(h.load h1).setp (fun _=>rfl) (fun _ _=>hr) (fun _ _ _ hd=>by cases hd)
def qH(sb db:Nat)(S:StM)(n:Int)(pg:PgR)(fp:List Nat)(w:World)(e:Ending)(w':World):Prop:=∃er,e= .returned (.int .i64 er)/\∃fp',St w fp [eSx sb db (fun S2=>ej S n pg S2 er) fp'] w'
theorem qH.of{n:Int}{w:World}(h:ej S n pg S2 er)(hs:St w fp ([]++[eSt sb db S2 fp']) w'):qH sb db S n pg fp w (.returned (.int .i64 er)) w':=⟨er,rfl,fp',St.sx (L:=[]) hs h⟩
theorem td(sb db:Nat)(S:StM)(n:Int)(pg:PgR)(c:Nat)(fp:List Nat)(w:World)(hB:(eSt sb db S fp).holds w)(hlt:∀k∈fp,k<w.heap.size)(hok:SOk S c)(hc:c<=800000000)(hkn:kcI.ok n)(hpg:pg∈S.rows):
  Calls P_ 58 #[po sb 0,.int .i64 n,.agg #[.int .i64 pg.p.1,.int .i64 pg.p.2.1,.slice pg.A pg.p.2.2.length pg.c]] w (qH sb db S n pg fp w):=by
 have st1:St w fp [eSt sb db S fp] w:=St.lend hB (dx _ _ _ _) hlt
 go_enter func58,ntmps58
 have aj:=st1
 refine wq (sqr ?_)
 refine bX #[vi pg.p.1,vi pg.p.2.1,.slice pg.A pg.p.2.2.length pg.c] aj fun tC W1 ax=>?_
 refine sqp [.k 6 (vi 0)] ?_
 refine aa (wsq [.m 10 0,.m 11 1] ?_)
 refine xP (fun x_=>tE x_) (fun x_=>tF x_) (fun X_=>X_.fp) (fun er12_5 vp12_5=> .tuple #[vp12_5,vi er12_5]) (fun er12_5 vp12_5 qZ=>eSx sb db (fun S2=>LdQ S n S2 er12_5 vp12_5) qZ) 0 ax (by
   refine svA fun d g W X cx=>?_
   refine ak.call (rCF (args:=#[vp sb,vi n]) cx.sees (aN (cx.ou 10) (cx.ou 11))) ?_
   refine(ny sb db S n c _ _ (CtxV.holdF cx (cx.init 0 _ rfl) rfl) (CtxV.ltF cx (cx.init 0 _ rfl) rfl) hok hc hkn).mono ?_
   rintro e W1 ⟨er4,vp4,rfl,fp4,aM⟩
   refine⟨_,rfl,aI (E:=eSt sb db S fp) [eSx sb db (fun S2=>LdQ S n S2 er4 vp4) fp4] (cx.init 0 _ rfl) rfl rfl aM (fun b a X' hs hb hv hN=>?_)⟩
   have aH:=(hv 12 rfl).1;have aO:=(hv 12 rfl).2
   exact⟨aH.trans (by rw[aO];exact rfl),(by rw[aO];exact eY ((List.cons.inj hN).1))⟩) fun er12_5 vp12_5 qZ W5 aK=>?_
 refine sqp [.m 9 12,.k 13 (vp12_5),.k 14 (vi er12_5),.m 7 13,.m 8 14] ?_
 refine aa (wq (wq ?_))
 obtain⟨S1,hL,hy11_⟩:=aK.unx
 have hok1:=hok.load hL.1
 refine sqs [.m 15 8,.k 16 (.bool (er12_5==0))] ?_
 refine aa (wbs (fun gO=>?_) fun gO=>?_)
 have pF:=beq_iff_eq.1 gO
 obtain⟨t,htm_t,rfl,rfl⟩:=hL.2 (by simpa using gO)
 obtain⟨⟨hrw1,hrr1⟩,mb1,RA1,rc1,EA1,ec1,ib1,tb1,fpd1,hv15_⟩:=hy11_.unf
 obtain⟨A,B,hAB⟩:=List.append_of_mem htm_t
 have hnd:((A++t::B).map BfT.n).Nodup:=by rw[<-hAB];exact hok1.nodup
 rw[hAB] at hv15_
 have ho16_:=St.obf (t:=t) hv15_.u2
 refine sqs [.m 17 7,.m 18 7] ?_
 refine bD 11 3 ho16_ ?_
 refine sqp [.k 20 (po t.blk 0),.k 21 (po t.blk 0)] ?_
 refine aT (n:=3) 1 #[vi pg.p.1,vi pg.p.2.1,.slice pg.A pg.p.2.2.length pg.c,.bool t.dirty,vi t.used] ho16_ fun uZ dv=>?_
 refine sqp [.k 22 (po t.blk 0),.k 23 (po t.blk 3)] ?_
 refine aT (n:=1) 1 #[vi pg.p.1,vi pg.p.2.1,.slice pg.A pg.p.2.2.length pg.c,.bool true,vi t.used] dv fun xy dM=>?_
 refine aa (wsq [.m 24 8,.m 6 24] ?_)
 refine aa (wp_ret ?_)
 refine bpr (vi er12_5) (ag results58 rpt) ?_
 have hi28_:=St.ibf (t:=(gz pg t)) dM
 obtain⟨fp29_,hk29_⟩:=St.stf (S:={S1 with pool:=A++gz pg t::B}) (by have h_:=hi28_.u10.c0.u2.u2;rw[<-oq (A:=A) (B:=B) (t:=t) (u:=gz pg t) rfl rfl,show (A++t::B).length=(A++gz pg t::B).length by simp] at h_;exact h_) (fun u hu=>(List.mem_append.1 hu).elim (fun h=>hrw1 u (by rw[hAB];simp[h])) fun h=>(List.mem_cons.1 h).elim (fun h=>by rw[h];exact hL.1.rows.1 pg hpg) fun h=>hrw1 u (by rw[hAB];simp[h])) (hrr1)
 exact qH.of ⟨S1,hL.1,.inr ⟨by simpa using gO,⟨t,htm_t,rfl⟩,by rw[hAB,ku hnd]⟩⟩ hk29_
 have pF:=beq_eq_false_iff_ne.1 gO
 refine wp_skip (aa (wsq [.m 24 8,.m 6 24] ?_))
 exact aa (wp_ret (bpr (vi er12_5) (ag results58 rpt) (qH.of ⟨S1,hL.1,.inl ⟨by simpa using gO,rfl⟩⟩ (hy11_.pick [0] (by decide) rfl))))
end
section
open Go.RowKit
theorem sO{l:List BfT}(hd:(l.map BfT.n).Nodup)(ht:t∈l):l.find? (fun u=>u.n==t.n)=some t:=by
 obtain⟨A,B,rfl⟩:=List.append_of_mem ht
 rw[List.map_append,List.map_cons] at hd
 have h1:A.find? (fun u=>u.n==t.n)=none:=by
  rw[List.find?_eq_none]
  intro u hu hc
  exact(List.nodup_append.1 hd).2.2 u.n (List.mem_map.2 ⟨u,hu,rfl⟩) t.n (by simp) (by simpa using hc)
 rw[List.find?_append,h1]
 simp
theorem dp(hd:(S.pool.map BfT.n).Nodup)(ht:t∈S.pool):aF S t.n=t.pg.p:=by
 rw[aF,sO hd ht]
theorem gN{S:StM}{m:Int}(h:∀t∈S.pool,t.n≠m):aF S m=shP S.D m:=by
 rw[aF,List.find?_eq_none.2 (fun t ht=>by simpa using h t ht)]
theorem Ia(L:List RecM){a b:Nat}(h:a<=b):flN L a<=flN L b:=by
 unfold flN
 refine List.countP_mono_left fun x _ hx=>?_
 simp only[decide_eq_true_eq] at hx |-
 omega
theorem H1(L:List RecM){fl:Nat}(h:szF L<=fl):flN L fl=L.length:=by
 unfold flN
 rw[List.countP_eq_length.2,kw]
 intro x hx
 obtain⟨i,hi,rfl⟩:=List.mem_map.1 hx
 have h1:=yd L (i:=i+1) (j:=L.length) (by have:=List.mem_range.1 hi;omega)
 rw[List.take_length] at h1
 simp only[decide_eq_true_eq]
 omega
structure Ev (S S':StM):Prop where
 bufs:S'.bufs=S.bufs
 recs:S'.recs=S.recs
 frm:S'.frm=S.frm
 im:S'.im=S.im
 told:S'.told=S.told
 rows:∀r∈S.rows,r∈S'.rows
 log:S'.D.log=S.D.log
 len:S'.D.pgs.length=S.D.pgs.length
 fl:S'.D.fl=S.D.fl\/S'.D.fl=S.D.log.size
 armed:S'.D.armed=S.D.armed
 off:S.D.off=true->S'.D.off=true
 noarm:S.D.armed=false->S'.D.off=S.D.off
 pgs:∀(j:Nat) x y,S.D.pgs[j]? =some x->S'.D.pgs[j]? =some y->y.safe=x.safe/\∃zs,y.ws=x.ws++zs/\∀z∈zs,z.1=aG (aF S (j:Int))/\((aF S (j:Int)).2.1<=(S'.F:Int)\/S'.D.fl=S'.D.log.size)
 cur:∀m:Int,0<=m->aF S' m=aF S m
theorem Ev.refl(S:StM):Ev S S:=⟨rfl,rfl,rfl,rfl,rfl,fun r h=>h,rfl,rfl,.inl rfl,rfl,id,fun _=>rfl,fun j x y hx hy=>by rw[hx] at hy;cases hy;exact⟨rfl,[],by simp,fun z hz=>by cases hz⟩,fun m _=>rfl⟩
theorem Ev.flm(h:Ev S S')(hf:S.D.fl<=S.D.log.size):S.D.fl<=S'.D.fl:=by
 rcases h.fl with e|e<;>omega
theorem Ev.Fm(h:Ev S S')(hf:S.D.fl<=S.D.log.size):S.F<=S'.F:=by
 have e:S'.L=S.L:=by rw[StM.L,h.recs]
 rw[StM.F,StM.F,e]
 exact Ia _ (h.flm hf)
theorem Ev.trans{A B C:StM}(h:Ev A B)(g:Ev B C)(hf:A.D.fl<=A.D.log.size):Ev A C:=by
 have hfB:B.D.fl<=B.D.log.size:=by rw[h.log];rcases h.fl with e|e<;>omega
 refine⟨g.bufs.trans h.bufs,g.recs.trans h.recs,g.frm.trans h.frm,g.im.trans h.im,g.told.trans h.told,fun r hr=>g.rows r (h.rows r hr),g.log.trans h.log,g.len.trans h.len,?_,g.armed.trans h.armed,fun ho=>g.off (h.off ho),fun ha=>(g.noarm (h.armed.trans ha)).trans (h.noarm ha),fun j x y hx hy=>?_,fun m hm=>(g.cur m hm).trans (h.cur m hm)⟩
 rcases g.fl with e|e
 rw[e];exact h.fl
 exact .inr (e.trans (by rw[h.log]))
 obtain⟨z,hz⟩:∃z,B.D.pgs[j]? =some z:=⟨_,List.getElem?_eq_getElem (by rw[h.len];exact(List.getElem?_eq_some_iff.1 hx).1)⟩
 obtain⟨h1,zs,h2,h3⟩:=h.pgs j x z hx hz
 obtain⟨g1,ys,g2,g3⟩:=g.pgs j z y hz hy
 have hFm:=g.Fm hfB
 refine⟨g1.trans h1,zs++ys,by rw[g2,h2,List.append_assoc],fun v hv=>?_⟩
 rcases List.mem_append.1 hv with hv|hv
 obtain⟨a,b⟩:=h3 v hv
 refine⟨a,b.imp (fun b=>by omega) fun b=>?_⟩
 rcases g.fl with e|e
 rw[e,b,g.log]
 rw[e,g.log]
 obtain⟨a,b⟩:=g3 v hv
 rw[h.cur (j:Int) (by omega)] at a b
 exact⟨a,b⟩
theorem mV(D:DkM):(D.off=true/\opD D 0 flD=(D,24))\/(D.off=false/\D.armed=true/\opD D 0 flD=({D with off:=true},24))\/(D.off=false/\opD D 0 flD=(flD {D with left:=cX D.left},0)):=by
 unfold opD
 split
 rename_i h;exact .inl ⟨h,rfl⟩
 rename_i h
 rw[if_neg (by decide)]
 split
 rename_i h2;exact .inr (.inl ⟨by simpa using h,h2.1,rfl⟩)
 exact .inr (.inr ⟨by simpa using h,rfl⟩)
theorem Ev.disk(hp:D.pgs=S.D.pgs)(hl:D.log=S.D.log)(hf:D.fl=S.D.fl\/D.fl=S.D.log.size)(ha:D.armed=S.D.armed)(ho:S.D.off=true->D.off=true)(hn:S.D.armed=false->D.off=S.D.off):Ev S {S with D:=D}:=by
 refine⟨rfl,rfl,rfl,rfl,rfl,fun r h=>h,hl,by show D.pgs.length= _;rw[hp],hf,ha,ho,hn,fun j x y hx hy=>?_,fun m _=>?_⟩
 have hy:D.pgs[j]? =some y:=hy
 rw[hp,hx] at hy;cases hy;exact⟨rfl,[],by simp,fun z hz=>by cases hz⟩
 show aF {S with D:=D} m=aF S m
 rw[aF,aF,ie hp]
theorem Ev.wrD0(S:StM)(t:BfT):Ev S {S with D:=(wrD0 S t).1}/\((wrD0 S t).2=0->(t.pg.p.2.1<=(flN S.L (wrD0 S t).1.fl:Int)\/(wrD0 S t).1.fl=(wrD0 S t).1.log.size))/\((wrD0 S t).2≠0->(wrD0 S t).1.off=true):=by
 unfold Go.Proofs.YtcdjaepgahbhfaaGreat.wrD0
 split
 rename_i hlt
 rcases mV S.D with ⟨h1,h2⟩|⟨h1,h2,h3⟩|⟨h1,h2⟩
 rw[h2];exact⟨Ev.refl S,(fun h=>by cases h),fun _=>h1⟩
 rw[h3];exact⟨Ev.disk rfl rfl (.inl rfl) rfl (fun _=>rfl) (fun h=>by rw[h2] at h;cases h),(fun h=>by cases h),fun _=>rfl⟩
 rw[h2];exact⟨Ev.disk rfl rfl (.inr rfl) rfl (fun h=>by rw[h1] at h;cases h) (fun _=>rfl),fun _=> .inr rfl,fun h=>absurd rfl h⟩
 rename_i hlt
 exact⟨Ev.refl S,fun _=> .inl (Int.not_lt.1 hlt),fun h=>absurd rfl h⟩
theorem wX(D:DkM)(n:Int)(s:ByteArray)(hn:0<=n/\n<(D.pgs.length:Int))(hs:s.size=512):(D.off=true/\opD D (wrE D n s) (wrD n s)=(D,24))\/(D.off=false/\D.armed=true/\opD D (wrE D n s) (wrD n s)=({D with off:=true},24))\/(D.off=false/\opD D (wrE D n s) (wrD n s)=(jx n.toNat ⟨s,hs⟩ {D with left:=cX D.left},0)):=by
 have he:wrE D n s=0:=by rw[wrE,if_pos hn,if_pos hs]
 have hw:∀D':DkM,wrD n s D'=jx n.toNat ⟨s,hs⟩ D':=fun D'=>by rw[wrD,dif_pos hs]
 unfold opD
 rw[he]
 split
 rename_i h;exact .inl ⟨h,rfl⟩
 rename_i h
 rw[if_neg (by decide)]
 split
 rename_i h2;exact .inr (.inl ⟨by simpa using h,h2.1,rfl⟩)
 exact .inr (.inr ⟨by simpa using h,by rw[hw]⟩)
theorem Ev.write(h:SOk S c)(ht:t∈S.pool):Ev S (bL S t).1/\((bL S t).2≠0->(bL S t).1.D.off=true):=by
 obtain⟨h1,h2,h3⟩:=Ev.wrD0 S t
 have hr:=h.right t ht
 have hpg:=(rW S t).2
 unfold bL
 split
 rename_i he;exact⟨h1,fun _=>h3 he⟩
 rename_i he
 have he:(Go.Proofs.YtcdjaepgahbhfaaGreat.wrD0 S t).2=0:=by simpa using he
 dsimp only
 have hn:0<=t.n/\t.n<((Go.Proofs.YtcdjaepgahbhfaaGreat.wrD0 S t).1.pgs.length:Int):=by rw[hpg];exact h.keys t ht
 obtain⟨D1,hD1⟩:∃z,(Go.Proofs.YtcdjaepgahbhfaaGreat.wrD0 S t).1=z:=⟨_,rfl⟩
 rw[hD1] at h1 h2 hpg hn |-
 rcases wX D1 t.n (aG t.pg.p) hn (cR hr) with ⟨a1,a2⟩|⟨a1,a2,a3⟩|⟨a1,a2⟩
 rw[a2];exact⟨h1,fun _=>a1⟩
 rw[a3]
 refine⟨h1.trans (Ev.disk (S:={S with D:=D1}) rfl rfl (.inl rfl) rfl (fun _=>rfl) (fun hh=>by have hh:D1.armed=false:=hh;rw[a2] at hh;cases hh)) h.fl,fun _=>rfl⟩
 rw[a2,if_pos rfl]
 refine⟨?_,fun hh=>absurd rfl hh⟩
 refine h1.trans (B:={S with D:=D1}) ?_ h.fl
 have hcur:∀m:Int,0<=m->aF {S with D:=jx t.n.toNat ⟨aG t.pg.p,cR hr⟩ {D1 with left:=cX D1.left},pool:=dh S.pool t.n clB} m=aF {S with D:=D1} m:=fun m hm=>by
  by_cases hmem:∃u∈S.pool,u.n=m
  obtain⟨u,hu,rfl⟩:=hmem
  have hd2:((dh S.pool t.n clB).map BfT.n).Nodup:=by rw[uN (f:=clB) (fun _=>rfl)];exact h.nodup
  rw[dp (S:={S with D:=D1}) h.nodup hu]
  by_cases e:u.n=t.n
  have hu2:clB u∈dh S.pool t.n clB:=List.mem_map.2 ⟨u,hu,by rw[if_pos e]⟩
  have h9:=dp (S:={S with D:=jx t.n.toNat ⟨aG t.pg.p,cR hr⟩ {D1 with left:=cX D1.left},pool:=dh S.pool t.n clB}) (t:=clB u) hd2 hu2
  exact h9
  have hu2:u∈dh S.pool t.n clB:=List.mem_map.2 ⟨u,hu,by rw[if_neg e]⟩
  exact dp (S:={S with D:=jx t.n.toNat ⟨aG t.pg.p,cR hr⟩ {D1 with left:=cX D1.left},pool:=dh S.pool t.n clB}) hd2 hu2
  have hno:∀u∈S.pool,u.n≠m:=fun u hu e=>hmem ⟨u,hu,e⟩
  rw[gN (S:={S with D:=D1}) hno,gN (S:={S with D:=jx t.n.toNat ⟨aG t.pg.p,cR hr⟩ {D1 with left:=cX D1.left},pool:=dh S.pool t.n clB}) (fun u hu=>by
   obtain⟨v,hv,rfl|rfl⟩:=mO hu
   exact hno v hv
   exact hno _ hv)]
  rw[zC (D:={D1 with left:=cX D1.left}) hn hm,if_neg (fun e=>hno t ht e.symm)]
  exact ie rfl m
 refine⟨rfl,rfl,rfl,rfl,rfl,fun r hh=>hh,rfl,List.length_set,.inl rfl,rfl,(fun hh=>by have hh:D1.off=true:=hh;rw[a1] at hh;cases hh),fun _=>rfl,fun j x y hx hy=>?_,hcur⟩
 have hy:(D1.pgs.set t.n.toNat _)[j]? =some y:=hy
 have hx:D1.pgs[j]? =some x:=hx
 by_cases e:j=t.n.toNat
 subst e
 rw[List.getElem?_set_self (List.getElem?_eq_some_iff.1 hx).1] at hy
 cases hy
 have hg:D1.pgs.getD t.n.toNat fO=x:=by rw[List.getD_eq_getElem?_getD,hx];rfl
 refine⟨by show (D1.pgs.getD t.n.toNat fO).safe= _;rw[hg],[⟨aG t.pg.p,cR hr⟩],by show (D1.pgs.getD t.n.toNat fO).ws++ _= _;rw[hg],fun z hz=>?_⟩
 rw[List.mem_singleton.1 hz]
 have hc:=dp (S:={S with D:=D1}) h.nodup ht
 rw[show ((t.n.toNat:Nat):Int)=t.n by omega,hc]
 exact⟨rfl,h2 he⟩
 rw[List.getElem?_set_ne (by omega),hx] at hy
 cases hy
 exact⟨rfl,[],by simp,fun z hz=>by cases hz⟩
theorem Ev.clean(h:SOk S c)(ht:t∈S.pool):Ev S (aJ S t).1/\((aJ S t).2≠0->(aJ S t).1.D.off=true):=by
 unfold aJ
 split
 exact Ev.write h ht
 exact⟨Ev.refl S,fun hh=>absurd rfl hh⟩
theorem Ev.rm{S:StM}(hd:(S.pool.map BfT.n).Nodup){n:Int}(hn:∀t∈S.pool,t.n=n->t.pg.p=shP S.D n):Ev S {S with pool:=rmB S.pool n}:=by
 have hd2:((rmB S.pool n).map BfT.n).Nodup:=hd.sublist ((we S.pool n).map _)
 refine⟨rfl,rfl,rfl,rfl,rfl,fun r h=>h,rfl,rfl,.inl rfl,rfl,id,fun _=>rfl,fun j x y hx hy=>by have hy:S.D.pgs[j]? =some y:=hy;rw[hx] at hy;cases hy;exact⟨rfl,[],by simp,fun z hz=>by cases hz⟩,fun m _=>?_⟩
 by_cases hm:m=n
 subst hm
 rw[gN (S:={S with pool:=rmB S.pool m}) (fun u hu=>(mh hu).2)]
 by_cases hmem:∃u∈S.pool,u.n=m
 obtain⟨u,hu,rfl⟩:=hmem
 rw[dp hd hu];exact(hn u hu rfl).symm
 rw[gN (fun u hu e=>hmem ⟨u,hu,e⟩)]
 by_cases hmem:∃u∈S.pool,u.n=m
 obtain⟨u,hu,rfl⟩:=hmem
 rw[dp hd hu]
 exact dp (S:={S with pool:=rmB S.pool n}) hd2 (show u∈rmB S.pool n from List.mem_filter.2 ⟨hu,by simpa using hm⟩)
 rw[gN (fun u hu e=>hmem ⟨u,hu,e⟩),gN (S:={S with pool:=rmB S.pool n}) (fun u hu e=>hmem ⟨u,(mh hu).1,e⟩)]
theorem G2{S:StM}(h:SOk S c){t:BfT}(ht:t∈S.pool)(h0:(aJ S t).2=0):∀u∈(aJ S t).1.pool,u.n=t.n->u.pg.p=shP (aJ S t).1.D t.n:=fun u hu e=>by
 have hok:=h.clean t ht
 have hev:=(Ev.clean h ht).1
 have hr:=h.right t ht
 have h1:=dp hok.nodup hu
 rw[e,hev.cur t.n (h.keys t ht).1,dp h.nodup ht] at h1
 rw[<-h1]
 unfold aJ at h0 |-
 split
 rename_i hd
 rw[if_pos hd] at h0
 exact(nY hr h0).1.symm
 rename_i hd
 exact h.cl t ht (by simpa using hd)
theorem Ev.evict(h:SOk S c)(ht:S.bufs<=(S.pool.length:Int)->t∈S.pool):Ev S (bq S t).1/\((bq S t).2≠0->(bq S t).1.D.off=true):=by
 unfold bq
 split
 rename_i hb
 have hc:=Ev.clean h (ht hb)
 split
 rename_i he;exact⟨hc.1,fun _=>hc.2 he⟩
 rename_i he
 have he:(aJ S t).2=0:=by simpa using he
 exact⟨hc.1.trans (Ev.rm (h.clean t (ht hb)).nodup (G2 h (ht hb) he)) h.fl,fun hh=>absurd rfl hh⟩
 exact⟨Ev.refl S,fun hh=>absurd rfl hh⟩
theorem Ev.tick(S:StM):Ev S (Go.Proofs.YtcdjaepgahbhfaaGreat.tick S):=⟨rfl,rfl,rfl,rfl,rfl,fun r h=>h,rfl,rfl,.inl rfl,rfl,id,fun _=>rfl,fun j x y hx hy=>by have hy:S.D.pgs[j]? =some y:=hy;rw[hx] at hy;cases hy;exact⟨rfl,[],by simp,fun z hz=>by cases hz⟩,fun m _=>rfl⟩
theorem qN{S:StM}{n:Int}{f:BfT->BfT}(hd:(S.pool.map BfT.n).Nodup)(hn:∀t,(f t).n=t.n)(m:Int):aF {S with pool:=dh S.pool n f} m=aF S m\/∃t∈S.pool,t.n=n/\m=n/\aF {S with pool:=dh S.pool n f} m=(f t).pg.p:=by
 have hd2:((dh S.pool n f).map BfT.n).Nodup:=by rw[uN hn];exact hd
 by_cases hmem:∃u∈S.pool,u.n=m
 obtain⟨u,hu,rfl⟩:=hmem
 by_cases e:u.n=n
 refine .inr ⟨u,hu,e,e,?_⟩
 have h1:=dp (S:={S with pool:=dh S.pool n f}) hd2 (t:=f u) (List.mem_map.2 ⟨u,hu,by rw[if_pos e]⟩)
 rw[hn] at h1;exact h1
 refine .inl ?_
 rw[dp hd hu]
 exact dp (S:={S with pool:=dh S.pool n f}) hd2 (List.mem_map.2 ⟨u,hu,by rw[if_neg e]⟩)
 refine .inl ?_
 rw[gN (fun u hu e=>hmem ⟨u,hu,e⟩),gN (S:={S with pool:=dh S.pool n f}) (fun u hu=>by
  obtain⟨v,hv,rfl|rfl⟩:=mO hu
  rw[hn];exact fun e=>hmem ⟨v,hv,e⟩
  exact fun e=>hmem ⟨_,hv,e⟩)]
theorem Ev.load{S':StM}{n:Int}(h:SOk S c)(hl:LdR S n S' er):Ev S S'/\(er≠0->S'.D.off=true\/¬(0<=n/\n<(S.D.pgs.length:Int)))/\(er=0->(0<=n/\n<(S.D.pgs.length:Int))/\∃t∈S'.pool,t.n=n/\t.pg.p=aF S n):=by
 have hS':=h.load hl
 have key:Ev S S'->(∃t∈S'.pool,t.n=n)->0<=n->∃t∈S'.pool,t.n=n/\t.pg.p=aF S n:=fun hev ⟨t,ht,e⟩ h0=>⟨t,ht,e,by
  have h1:=dp hS'.nodup ht
  rw[e,hev.cur n h0] at h1;exact h1.symm⟩
 cases hl with
 |hit t ht hn=>
  have h0:0<=n/\n<(S.D.pgs.length:Int):=by rw[<-hn];exact h.keys t ht
  have hev:Ev S {Go.Proofs.YtcdjaepgahbhfaaGreat.tick S with pool:=dh S.pool n (lP (S.time+1))}:=by
   refine⟨rfl,rfl,rfl,rfl,rfl,fun r h=>h,rfl,rfl,.inl rfl,rfl,id,fun _=>rfl,fun j x y hx hy=>by have hy:S.D.pgs[j]? =some y:=hy;rw[hx] at hy;cases hy;exact⟨rfl,[],by simp,fun z hz=>by cases hz⟩,fun m hm=>?_⟩
   rcases qN (S:=Go.Proofs.YtcdjaepgahbhfaaGreat.tick S) (n:=n) (f:=lP (S.time+1)) h.nodup (fun _=>rfl) m with e|⟨u,hu,e1,e2,e3⟩
   exact e
   subst e2
   refine e3.trans ?_
   have h5:=dp h.nodup hu
   rw[e1] at h5;exact h5.symm
  exact⟨hev,fun hh=>absurd rfl hh,fun _=>⟨h0,key hev ⟨lP (S.time+1) t,List.mem_map.2 ⟨t,ht,by rw[if_pos hn]⟩,hn⟩ h0.1⟩⟩
 |bad h1 h2=>
  refine⟨Ev.tick S,fun _=>?_,fun hh=>absurd hh h2⟩
  unfold rdS at h2
  split at h2
  rename_i ho;exact .inl ho
  split at h2
  exact absurd rfl h2
  rename_i hr;exact .inr hr
 |new t blk A cc h1 h2 h3=>
  have hr:=wm h2
  have he:=Ev.evict h.tick h3
  have hev0:=(Ev.tick S).trans he.1 h.fl
  unfold j6 at hS' key |-
  split
  rename_i h4
  rw[if_pos h4] at hS'
  exact⟨hev0,fun _=> .inl (he.2 h4),fun hh=>absurd hh h4⟩
  rename_i h4
  rw[if_neg h4] at hS' key
  dsimp only at hS' key |-
  have hev:Ev S {(bq (Go.Proofs.YtcdjaepgahbhfaaGreat.tick S) t).1 with pool:=(bq (Go.Proofs.YtcdjaepgahbhfaaGreat.tick S) t).1.pool++[⟨n,blk,⟨rdP (rdS (Go.Proofs.YtcdjaepgahbhfaaGreat.tick S).D n).1,A,cc⟩,false,(Go.Proofs.YtcdjaepgahbhfaaGreat.tick S).time⟩],rows:=(bq (Go.Proofs.YtcdjaepgahbhfaaGreat.tick S) t).1.rows++[⟨rdP (rdS (Go.Proofs.YtcdjaepgahbhfaaGreat.tick S).D n).1,A,cc⟩]}:=by
   refine⟨hev0.bufs,hev0.recs,hev0.frm,hev0.im,hev0.told,fun r hh=>List.mem_append_left _ (hev0.rows r hh),hev0.log,hev0.len,hev0.fl,hev0.armed,hev0.off,hev0.noarm,hev0.pgs,fun m hm=>?_⟩
   have hk:=px (S:=Go.Proofs.YtcdjaepgahbhfaaGreat.tick S) (t:=t) h1
   by_cases e:m=n
   subst e
   have h7:=dp hS'.nodup (t:=⟨m,blk,⟨rdP (rdS (Go.Proofs.YtcdjaepgahbhfaaGreat.tick S).D m).1,A,cc⟩,false,(Go.Proofs.YtcdjaepgahbhfaaGreat.tick S).time⟩) (by simp)
   refine h7.trans ?_
   show rdP (rdS S.D m).1=aF S m
   rw[gN h1,Fb h2];rfl
   have h9:=hev0.cur m hm
   rw[<-h9]
   rw[aF,aF,List.find?_append,List.find?_cons]
   have:(n==m)=false:=by simpa using fun h2=>e h2.symm
   dsimp only
   rw[this]
   cases (bq (Go.Proofs.YtcdjaepgahbhfaaGreat.tick S) t).1.pool.find? (fun t=>t.n==m)<;>rfl
  exact⟨hev,fun hh=>absurd rfl hh,fun _=>⟨hr,key hev ⟨_,List.mem_append_right _ (List.mem_singleton.2 rfl),rfl⟩ hr.1⟩⟩
end
section
open Go.RowKit
theorem Tryz.infoStrJ:(Tryz.prog.info? 9).map (fun i=>(i.zero,i.size,i.bytes))=some (some (.string ⟨#[]⟩),1,16):=by kernel_rfl
theorem wa{w:World}{xs:List Value}(h:At w none xs):xs=[]:=by
 cases xs with
 |nil=>rfl
 |cons x xs=>obtain⟨a,h1,_⟩:=h.get (k:=0) (by simp);cases h1
def Ep(I:List ByteArray)(w:World)(e:Ending)(w':World):Prop:=∃A c,e= .returned (.slice A I.length c)/\St w [] [eO 9 1 (.slice A I.length c) I.length (I.map Value.string)] w'
def LL(p:PgS)(w:World)(e:Ending)(w':World):Prop:=∃A c,e= .returned (.agg #[.int .i64 p.1,.int .i64 p.2.1,.slice A p.2.2.length c])/\St w [] [eO 9 1 (.slice A p.2.2.length c) p.2.2.length (p.2.2.map Value.string)] w'
noncomputable def pgF(S:StM)(n:Int)(ok:Bool):PgS:=if ok=true then aF S n else bp
def PaQ(S:StM)(n:Int)(S2:StM)(ok:Bool):Prop:=∃er:Int,LdR S n S2 er/\ok=(er==0)
def mA(sb db:Nat)(S:StM)(n:Int)(fp:List Nat)(w:World)(e:Ending)(w':World):Prop:=∃ok A c,e= .returned (.tuple #[.agg #[.int .i64 (pgF S n ok).1,.int .i64 (pgF S n ok).2.1,.slice A (pgF S n ok).2.2.length c],.bool ok])/\
 ∃fp',St w fp [eSx sb db (fun S2=>PaQ S n S2 ok) fp',eO 9 1 (.slice A (pgF S n ok).2.2.length c) (pgF S n ok).2.2.length ((pgF S n ok).2.2.map Value.string)] w'
theorem mA.no{n:Int}{w:World}(h:LdR S n S2 er)(he:er≠0)(hs:St w fp ([]++[eSt sb db S2 fp']) w'):mA sb db S n fp w (.returned (.tuple #[.agg #[.int .i64 0,.int .i64 0,sn],.bool false])) w':=by
 have h1:=St.sx (L:=[]) (Φ:=fun S2=>PaQ S n S2 false) hs ⟨er,h,by symm;simpa using he⟩
 have h2:=fm h1 9 1
 exact⟨false,none,0,rfl,fp',h2⟩
theorem mA.yes{n:Int}{w:World}(h:LdR S n S2 0)(hp:p=aF S n)(hs:St w fp ([eO 9 1 (.slice A p.2.2.length c) p.2.2.length (p.2.2.map Value.string)]++[eSt sb db S2 fp']) w'):mA sb db S n fp w (.returned (.tuple #[.agg #[.int .i64 p.1,.int .i64 p.2.1,.slice A p.2.2.length c],.bool true])) w':=by
 subst hp
 have h1:=St.sx (Φ:=fun S2=>PaQ S n S2 true) hs ⟨0,h,rfl⟩
 exact⟨true,A,c,rfl,fp',h1.pk [1,0]⟩
def WrQ(S:StM)(n:Int)(S2:StM)(er:Int):Prop:=∃S1 er1,LdR S n S1 er1/\((er1≠0/\S2=S1/\er=er1)\/(er1=0/\∃t∈S1.pool,t.n=n/\bL S1 t=(S2,er)))
def p8(sb db:Nat)(S:StM)(n:Int)(fp:List Nat)(w:World)(e:Ending)(w':World):Prop:=∃er,e= .returned (.int .i64 er)/\∃fp',St w fp [eSx sb db (fun S2=>WrQ S n S2 er) fp'] w'
theorem p8.of{n:Int}{w:World}(h:WrQ S n S2 er)(hs:St w fp ([]++[eSt sb db S2 fp']) w'):p8 sb db S n fp w (.returned (.int .i64 er)) w':=⟨er,rfl,fp',St.sx (L:=[]) hs h⟩
theorem Bv{n:Int}(h:LdR S n S2 er)(h0:er=0):LdR S n S2 0:=h0 ▸ h
theorem LR{I:List ByteArray}{w:World}(hA:At w A (I.map Value.string))(h:A=none)(hs:St w [] [eO 9 1 (sn) 0 []] w'):Ep I w (.returned (sn)) w':=by
 subst h
 have h1:=wa hA
 obtain rfl:I=[]:=by simpa using h1
 exact⟨none,0,rfl,hs⟩
theorem JV(A:Option Addr)(c:Nat)(I:List ByteArray)(w:World)(hA:At w A (I.map Value.string))(hI:I.length<=100000):
  Calls P_ 134 #[.slice A I.length c] w (Ep I w):=by
 go_enter func134,ntmps134
 have aj:=St.start w
 refine wsq [.k 2 (sn)] ?_
 refine aa (wq (wsq [.m 3 0,.k 4 (.bool A.isNone)] ?_))
 refine aa (wbs (fun aM=>?_) fun aM=>?_)
 refine wsq [.k 2 (sn)] ?_
 refine aa (wp_ret (ai ?_))
 refine bpr (sn) (ag results134 rpt) ?_
 have hn6:=St.nilrow aj 9
 simp only[List.cons_append,List.nil_append] at hn6
 exact LR hA (by simpa using aM) hn6
 refine wp_skip (aa (wq (sqr ?_)))
 refine d9 (fun x_=>sA x_) (fun Dm=> .slice Dm 0 0) (fun Dm=>eO 9 1 (.slice Dm 0 0) 0 ([])) aj (by
   refine svA fun a b W X cx=>?_
   exact dA (e:=9) (xs:=[]) rfl (by simp[go_sem]) rfl (by decide) rfl rfl (fun _ _ _ _ _=> .intro)) fun Dm W7 aW=>?_
 refine sqp [.m 6 0] ?_
 refine ti (fun x_=>sA x_) (fun x_=>sC x_) (fun tD tG=> .slice tD I.length tG) (fun tD tG=>eO 9 1 (.slice tD I.length tG) I.length (I.map Value.string)) 0 aW (by
   refine svA fun a b W X cx=>?_
   obtain⟨i0,hi0,hz0,hz1,hz2⟩:=info_parts Tryz.infoStrJ
   refine fj (n:=0) (m:=I.length) (nm:=I.length) (xs:=[]) (news:=I.map Value.string) (xs':=I.map Value.string) rfl (ty:=46) rfl (by kernel_rfl) hi0 hz0 hz1 hz2 rfl (cx.ou 5) cx (cx.init 0 _ rfl) rfl (cx.ou 6) (by rw[List.length_map]) (hA.ext cx.upd.to_ext) (wk _) (by simp only[maxLen];omega) (by omega) rfl rfl rfl (by omega) (rfl) (fun g d X' hs hb hv hx=>?_)
   exact⟨hv,hx⟩) fun tD tG W9 cw=>?_
 refine sqp [.m 2 7] ?_
 exact aa (wp_ret (bpr (.slice tD I.length tG) (ag results134 rpt) (⟨_,_,rfl,cw.pick [0] (by decide) rfl⟩)))
theorem GX(PA:Option Addr)(pc:Nat)(p:PgS)(w:World)(hA:At w PA (p.2.2.map Value.string))(hI:p.2.2.length<=100000):
  Calls P_ 65 #[.agg #[.int .i64 p.1,.int .i64 p.2.1,.slice PA p.2.2.length pc]] w (LL p w):=by
 go_enter func65,ntmps65
 have aj:=St.start w
 refine wq (sqr ?_)
 refine bX #[vi p.1,vi p.2.1,.slice PA p.2.2.length pc] aj fun ay W1 ax=>?_
 refine bW #[vi 0,vi 0,sn] ax fun kI W2 bA=>?_
 refine aa (wsq [.k 3 (po ay 2)] ?_)
 refine am 0 bA ?_
 refine iz (fun tH tK=> .slice tH p.2.2.length tK) (fun tH tK=>eO 9 1 (.slice tH p.2.2.length tK) p.2.2.length (p.2.2.map Value.string)) bA (fun cx=>⟨_,(JV PA pc p.2.2 _ (hA.ext cx.upd.to_ext) hI).mono (by rintro e W1 ⟨A4,c4,rfl,aM⟩;exact⟨_,_,rfl,aM⟩),(av (cx.ou 4))⟩) fun tH tK W5 aK=>?_
 refine sqp [.k 6 (po ay 2)] ?_
 refine aT (n:=1) 0 #[vi p.1,vi p.2.1,.slice tH p.2.2.length tK] aK fun W7 aW=>?_
 refine aa (wq (sqr ?_))
 refine bD 0 3 aW ?_
 refine aT (n:=3) 1 #[vi p.1,vi p.2.1,.slice tH p.2.2.length tK] aW fun W9 cw=>?_
 exact aa (wp_ret (bpr (.agg #[vi p.1,vi p.2.1,.slice tH p.2.2.length tK]) (bB (n:=3) results65 rfl (by kernel_rfl) (by kernel_rfl) (cw.blk 1 rfl) rfl) (⟨_,_,rfl,cw.pick [2] (by decide) rfl⟩)))
theorem qi(sb db:Nat)(S:StM)(n:Int)(c:Nat)(fp:List Nat)(w:World)(hB:(eSt sb db S fp).holds w)(hlt:∀k∈fp,k<w.heap.size)(hok:SOk S c)(hc:c<=800000000)(hkn:kcI.ok n):
  Calls P_ 21 #[po sb 0,.int .i64 n] w (mA sb db S n fp w):=by
 have st1:St w fp [eSt sb db S fp] w:=St.lend hB (dx _ _ _ _) hlt
 go_enter func21,ntmps21
 have aj:=st1
 refine wq (sqr (bW #[vi 0,vi 0,sn] aj fun Dn W1 ax=>?_))
 refine sqp [.k 5 (.bool false)] ?_
 refine aa (wq (wsq [.m 8 0] ?_))
 refine sqv (.bool false) ax (by
   exact sv0 rfl rfl rfl rfl rfl (fun _ _ _ h=>h) fun a b W X cx=>by
    have RL:a (.tmp 8)=vp sb:=(cx.ou 8)
    simp[go_sem,cx.sees.const,RL]) fun W4 aZ=>?_
 refine aa (wcf rfl (wp_skip (aa (wsq [.m 12 0,.m 13 1] ?_))))
 refine xP (fun x_=>tE x_) (fun x_=>tF x_) (fun X_=>X_.fp) (fun er14_7 vp14_7=> .tuple #[vp14_7,vi er14_7]) (fun er14_7 vp14_7 Nb=>eSx sb db (fun S2=>LdQ S n S2 er14_7 vp14_7) Nb) 0 aZ (by
   refine svA fun a b W X cx=>?_
   refine ak.call (rCF (args:=#[vp sb,vi n]) cx.sees (aN (cx.ou 12) (cx.ou 13))) ?_
   refine(ny sb db S n c _ _ (CtxV.holdF cx (cx.init 0 _ rfl) rfl) (CtxV.ltF cx (cx.init 0 _ rfl) rfl) hok hc hkn).mono ?_
   rintro e W1 ⟨er4,vp4,rfl,fp4,aM⟩
   refine⟨_,rfl,aI (E:=eSt sb db S fp) [eSx sb db (fun S2=>LdQ S n S2 er4 vp4) fp4] (cx.init 0 _ rfl) rfl rfl aM (fun g d X' hs hb hv hN=>?_)⟩
   have aH:=(hv 14 rfl).1;have aO:=(hv 14 rfl).2
   exact⟨aH.trans (by rw[aO];exact rfl),(by rw[aO];exact eY ((List.cons.inj hN).1))⟩) fun er14_7 vp14_7 Nb W7 aW=>?_
 refine sqp [.m 11 14,.k 15 (vp14_7),.k 16 (vi er14_7),.m 6 15,.m 7 16] ?_
 refine aa (wq (wq ?_))
 obtain⟨S1,hL,hy13_⟩:=aW.unx
 have hok1:=hok.load hL.1
 refine sqs [.m 17 7,.k 18 (.bool (er14_7 != 0))] ?_
 refine aa (wbs (fun dj=>?_) fun dj=>?_)
 have mf:=bne_iff_ne.1 dj
 refine wsq [.k 19 (.agg #[vi 0,vi 0,sn])] ?_
 refine aT (n:=3) 1 #[vi 0,vi 0,sn] hy13_ fun MY nI=>?_
 refine sqp [.k 5 (.bool false)] ?_
 refine aa (wp_ret (ai ?_))
 exact bpr (.tuple #[.agg #[vi 0,vi 0,sn],.bool false]) (aL results21 (rpa (nI.blk 1 rfl) 0 3) rpt) (mA.no hL.1 (by simpa using dj) (nI.pick [0] (by decide) rfl))
 have mf:=bne_eq_false_iff_eq.1 dj
 refine wp_skip (aa (wq ?_))
 obtain⟨t,htm_t,rfl,rfl⟩:=hL.2 (by simpa using dj)
 obtain⟨⟨hrw1,hrr1⟩,mb1,RA1,rc1,EA1,ec1,ib1,tb1,fpd1,hv20_⟩:=hy13_.unf
 obtain⟨A,B,hAB⟩:=List.append_of_mem htm_t
 have hri:=hok1.right t htm_t
 have hrp:=ef hri.1
 rw[hAB] at hv20_
 have ho21_:=St.obf (t:=t) hv20_.u2
 refine sqs [.m 20 6,.k 21 (po t.blk 0),.k 22 (po t.blk 0)] ?_
 refine bD 1 3 ho21_ ?_
 refine iz (fun oI oJ=> .agg #[vi t.pg.p.1,vi t.pg.p.2.1,.slice oI t.pg.p.2.2.length oJ]) (fun oI oJ=>eO 9 1 (.slice oI t.pg.p.2.2.length oJ) t.pg.p.2.2.length (t.pg.p.2.2.map Value.string)) ho21_ (fun cx=>⟨_,(GX _ _ t.pg.p _ (iw (CtxV.holdF cx (cx.init 4 _ rfl) rfl) (hrw1 t htm_t)) hrp.1).mono (by rintro e W1 ⟨A4,c4,rfl,aM⟩;exact⟨_,_,rfl,aM⟩),(av (cx.ou 23))⟩) fun oI oJ xD fD=>?_
 refine aT (n:=3) 11 #[vi t.pg.p.1,vi t.pg.p.2.1,.slice oI t.pg.p.2.2.length oJ] fD fun xz d6=>?_
 refine sqp [.k 5 (.bool true)] ?_
 refine aa (wp_ret ?_)
 refine bpr (.tuple #[.agg #[vi t.pg.p.1,vi t.pg.p.2.1,.slice oI t.pg.p.2.2.length oJ],.bool true]) (aL results21 (rpa (d6.blk 11 rfl) 0 3) rpt) ?_
 have hi29_:=St.ibf (t:=t) d6
 obtain⟨fp30_,hk30_⟩:=St.stf (S:=S1) (by have h_:=hi29_.u10.c0.u2.u2;rw[<-hAB] at h_;exact h_) (hrw1) (hrr1)
 exact mA.yes (Bv hL.1 (by simpa using dj)) (by have h_:=(Ev.load hok hL.1).1.cur t.n (hok1.keys t htm_t).1;rw[dp hok1.nodup htm_t] at h_;exact h_) hk30_.u1
theorem Bc(sb db:Nat)(S:StM)(n:Int)(c:Nat)(fp:List Nat)(w:World)(hB:(eSt sb db S fp).holds w)(hlt:∀k∈fp,k<w.heap.size)(hok:SOk S c)(hc:c<=800000000)(hkn:kcI.ok n):
  Calls P_ 79 #[po sb 0,.int .i64 n] w (p8 sb db S n fp w):=by
 have st1:St w fp [eSt sb db S fp] w:=St.lend hB (dx _ _ _ _) hlt
 go_enter func79,ntmps79
 have aj:=st1
 refine wsq [.k 4 (vi 0)] ?_
 refine aa (wq (wsq [.m 7 0] ?_))
 refine sqv (.bool false) aj (by
   exact sv0 rfl rfl rfl rfl rfl (fun _ _ _ h=>h) fun a b W X cx=>by
    have FY:a (.tmp 7)=vp sb:=(cx.ou 7)
    simp[go_sem,cx.sees.const,FY]) fun W3 aU=>?_
 refine aa (wcf rfl (wp_skip (aa (wsq [.m 10 0,.m 11 1] ?_))))
 refine xP (fun x_=>tE x_) (fun x_=>tF x_) (fun X_=>X_.fp) (fun er12_6 vp12_6=> .tuple #[vp12_6,vi er12_6]) (fun er12_6 vp12_6 IX=>eSx sb db (fun S2=>LdQ S n S2 er12_6 vp12_6) IX) 0 aU (by
   refine svA fun a b W X cx=>?_
   refine ak.call (rCF (args:=#[vp sb,vi n]) cx.sees (aN (cx.ou 10) (cx.ou 11))) ?_
   refine(ny sb db S n c _ _ (CtxV.holdF cx (cx.init 0 _ rfl) rfl) (CtxV.ltF cx (cx.init 0 _ rfl) rfl) hok hc hkn).mono ?_
   rintro e W1 ⟨er4,vp4,rfl,fp4,aM⟩
   refine⟨_,rfl,aI (E:=eSt sb db S fp) [eSx sb db (fun S2=>LdQ S n S2 er4 vp4) fp4] (cx.init 0 _ rfl) rfl rfl aM (fun g d X' hs hb hv hN=>?_)⟩
   have aH:=(hv 12 rfl).1;have aO:=(hv 12 rfl).2
   exact⟨aH.trans (by rw[aO];exact rfl),(by rw[aO];exact eY ((List.cons.inj hN).1))⟩) fun er12_6 vp12_6 IX W6 bJ=>?_
 refine sqp [.m 9 12,.k 13 (vp12_6),.k 14 (vi er12_6),.m 5 13,.m 6 14] ?_
 refine aa (wq (wq ?_))
 obtain⟨S1,hL,hy12_⟩:=bJ.unx
 have hok1:=hok.load hL.1
 refine sqs [.m 15 6,.k 16 (.bool (er12_6 != 0))] ?_
 refine aa (wbs (fun dF=>?_) fun dF=>?_)
 have kW:=bne_iff_ne.1 dF
 refine wsq [.m 17 6,.m 4 17] ?_
 refine aa (wp_ret (ai ?_))
 exact bpr (vi er12_6) (ag results79 rpt) (p8.of ⟨S1,_,hL.1,.inl ⟨by simpa using dF,rfl,rfl⟩⟩ (hy12_.pick [0] (by decide) rfl))
 have kW:=bne_eq_false_iff_eq.1 dF
 refine wp_skip (aa (wq ?_))
 obtain⟨t,htm_t,rfl,rfl⟩:=hL.2 (by simpa using dF)
 obtain⟨A,B,hAB⟩:=List.append_of_mem htm_t
 refine sqs [.m 18 0,.m 19 1,.m 20 5] ?_
 refine bF (fun X_=>X_.fp) (vi ((bL S1 t).2)) (fun vn=>eSt sb db ((bL S1 t).1) vn) 0 hy12_ (by
   refine svA fun a b W X cx=>?_
   refine ak.call (rCF (args:=#[vp sb,vi t.n,po t.blk 0]) cx.sees (dH (cx.ou 18) (cx.ou 19) (cx.ou 20))) ?_
   refine(uF sb db S1 A B t (c+3) _ _ (CtxV.holdF cx (cx.init 0 _ rfl) rfl) (CtxV.ltF cx (cx.init 0 _ rfl) rfl) hok1 (by omega) hAB).mono ?_
   rintro e W1 ⟨rfl,fp4,aM⟩
   refine⟨_,rfl,aI (E:=eSt sb db S1 IX) [eSt sb db (bL S1 t).1 fp4] (cx.init 0 _ rfl) rfl rfl aM (fun g d X' hs hb hv hN=>?_)⟩
   have aH:=(hv 21 rfl).1;have aO:=(hv 21 rfl).2
   exact⟨aH.trans rfl,gR ((List.cons.inj hN).1)⟩) fun vn uT eN=>?_
 refine sqp [.m 4 21] ?_
 exact aa (wp_ret (bpr (vi ((bL S1 t).2)) (ag results79 rpt) (p8.of ⟨S1,_,hL.1,.inr ⟨by simpa using dF,t,htm_t,rfl,rfl⟩⟩ (eN.pick [0] (by decide) rfl))))
theorem Cy(sb db:Nat)(S:StM)(fp:List Nat)(w:World)(hB:(eSt sb db S fp).holds w)(hlt:∀k∈fp,k<w.heap.size)(hlz:S.D.log.size<=10000000):
  Calls P_ 27 #[po sb 0] w (d5 sb db ({S with D:=(opD S.D 0 flD).1},(opD S.D 0 flD).2) fp w):=by
 have st1:St w fp [eSt sb db S fp] w:=St.lend hB (dx _ _ _ _) hlt
 go_enter func27,ntmps27
 have aj:=st1
 obtain⟨⟨hrw,hrr⟩,mb,RA,rc,EA,ec,ib,tb,fpd,hv1_⟩:=aj.unf
 refine wsq [.k 2 (vi 0)] ?_
 refine aa (wq (wsq [.m 3 0] ?_))
 refine sqv (.bool false) hv1_ (by
   exact sv0 rfl rfl rfl rfl rfl (fun _ _ _ h=>h) fun a b W X cx=>by
    have fy:a (.tmp 3)=vp sb:=(cx.ou 3)
    simp[go_sem,cx.sees.const,fy]) fun W4 aZ=>?_
 refine aa (wcf rfl (wp_skip (aa (wsq [.m 5 0,.k 6 (vp sb),.k 7 (vp sb)] ?_))))
 refine am 0 aZ ?_
 refine bF (fun X_=>X_.fp) (vi ((opD S.D 0 flD).2)) (fun Jx=>eDk db ((opD S.D 0 flD).1) Jx) 9 aZ (by
   refine svA fun a b W X cx=>?_
   refine ak.call (rCF (args:=#[vp db]) cx.sees (av (cx.ou 8))) ?_
   refine(lS db S.D _ _ (CtxV.holdF cx (cx.init 9 _ rfl) rfl) (CtxV.ltF cx (cx.init 9 _ rfl) rfl) (by omega)).mono ?_
   rintro e W1 ⟨rfl,fp4,aM⟩
   refine⟨_,rfl,aI (E:=eDk db S.D fpd) [eDk db (opD S.D 0 flD).1 fp4] (cx.init 9 _ rfl) rfl rfl aM (fun g d X' hs hb hv hN=>?_)⟩
   have aH:=(hv 9 rfl).1;have aO:=(hv 9 rfl).2
   exact⟨aH.trans rfl,cF ((List.cons.inj hN).1)⟩) fun Jx W9 cw=>?_
 refine sqp [.m 2 9] ?_
 refine aa (wp_ret ?_)
 refine bpr (vi ((opD S.D 0 flD).2)) (ag results27 rpt) ?_
 obtain⟨fp11_,hk11_⟩:=St.stf (S:={S with D:=(opD S.D 0 flD).1}) (cw) (hrw) (hrr)
 exact d5.of rfl hk11_
end
section
open Go.RowKit
theorem Fy(L:List RecM)(r:RecM):dZ (L++[r])=dZ L++aA r:=by
 rw[dZ,List.map_append,yM,dZ,List.map_cons,List.map_nil,bx,fP,jW]
theorem kA(L:List RecM)(r:RecM):szF (L++[r])=szF L+(aA r).size:=by
 rw[szF,szF,List.map_append,List.sum_append];simp
theorem E9(L:List RecM)(r:RecM){z:Int}(h:z=(szF (L++[r]):Int)){n:Nat}(hn:L.length=n):(cL L n).map (Value.int .i64)++[.int .i64 z]=(cL (L++[r]) (n+1)).map (Value.int .i64):=by
 subst hn h
 have h1:=wN (L++[r]) L.length
 rw[List.take_of_length_le (by simp)] at h1
 rw[<-h1]
 congr 2
 rw[cL,cL]
 refine List.map_congr_left fun i hi=>?_
 rw[List.take_append_of_le_length (by have:=List.mem_range.1 hi;omega)]
def apR(S:StM)(r:RecM):DkM×Int:=opD S.D (apE S.D (aA r)) (apD (aA r))
def br(S:StM)(rt:RcT):StM×Int:=if (apR S rt.r).2≠0 then ({S with D:=(apR S rt.r).1},(apR S rt.r).2) else ({S with D:=(apR S rt.r).1,recs:=S.recs++[rt]},0)
theorem Fd(h:(apR S r).2=0):S.D.off=false/\(S.D.log.size:Int)+((aA r).size:Int)<=1048576/\(apR S r).1=apD (aA r) {S.D with left:=cX S.D.left}:=by
 obtain⟨h1,h2,h3⟩:=mL h
 refine⟨h1,?_,h3⟩
 unfold apE at h2
 split at h2
 cases h2
 omega
theorem BG(S:StM)(r:RecM):(apR S r).1.pgs=S.D.pgs/\(apR S r).1.fl=S.D.fl:=by
 unfold apR
 refine⟨c5 (P:=fun D'=>D'.pgs=S.D.pgs) rfl rfl fun _=>rfl,c5 (P:=fun D'=>D'.fl=S.D.fl) rfl rfl fun _=>rfl⟩
theorem Mi(h:(apR S r).2≠0):(apR S r).1.log=S.D.log:=by
 unfold apR opD at h |-
 split
 rfl
 rename_i ho
 rw[if_neg ho] at h
 split
 rfl
 rename_i he
 rw[if_neg he] at h
 split
 rfl
 rename_i ha
 rw[if_neg ha] at h
 exact absurd rfl h
theorem SOk.append(h:SOk S c)(hr:bt rt.r=true):SOk (br S rt).1 c:=by
 obtain⟨hp,hf⟩:=BG S rt.r
 unfold br
 have hcl:∀t∈S.pool,t.dirty=false->t.pg.p=shP (apR S rt.r).1 t.n:=fun t ht hd=>by rw[ie hp];exact h.cl t ht hd
 split
 rename_i he
 have hl:=Mi he
 exact⟨h.bufs,by show (apR S rt.r).1.pgs.length<=400;rw[hp];exact h.pgs,by show ∀x∈(apR S rt.r).1.pgs,_;rw[hp];exact h.ws,h.time,h.ni,h.nt,h.right,h.nodup,h.len,fun t ht=>by show 0<=t.n/\t.n<((apR S rt.r).1.pgs.length:Int);rw[hp];exact h.keys t ht,h.recs,hl.trans h.log,by show (apR S rt.r).1.log.size<= _;rw[hl];exact h.lsz,by show (apR S rt.r).1.fl<=(apR S rt.r).1.log.size;rw[hl,hf];exact h.fl,hcl⟩
 rename_i he
 have he:(apR S rt.r).2=0:=by simpa using he
 obtain⟨h1,h2,h3⟩:=Fd he
 have hl:(apR S rt.r).1.log=S.D.log++aA rt.r:=by rw[h3];rfl
 exact⟨h.bufs,by show (apR S rt.r).1.pgs.length<=400;rw[hp];exact h.pgs,by show ∀x∈(apR S rt.r).1.pgs,_;rw[hp];exact h.ws,h.time,h.ni,h.nt,h.right,h.nodup,h.len,fun t ht=>by show 0<=t.n/\t.n<((apR S rt.r).1.pgs.length:Int);rw[hp];exact h.keys t ht,fun r hr2=>by
  have hr2:r∈(S.recs++[rt]).map RcT.r:=hr2
  rw[List.map_append] at hr2
  rcases List.mem_append.1 hr2 with h4|h4
  exact h.recs r h4
  rw[List.mem_singleton.1 h4];exact hr,by show (apR S rt.r).1.log=dZ ((S.recs++[rt]).map RcT.r);rw[hl,h.log,List.map_append];exact(Fy _ _).symm,by show (apR S rt.r).1.log.size<= _;rw[hl,ByteArray.size_append];omega,by show (apR S rt.r).1.fl<=(apR S rt.r).1.log.size;rw[hl,hf,ByteArray.size_append];have:=h.fl;omega,hcl⟩
theorem uS(h:(apR S rt.r).2≠0):br S rt=({S with D:=(apR S rt.r).1},(apR S rt.r).2):=if_pos h
theorem Ey(h:(apR S rt.r).2=0):br S rt=({S with D:=(apR S rt.r).1,recs:=S.recs++[rt]},0):=if_neg (by rw[h];decide)
theorem eV(h:bt r=true):(aA r).size<=200000:=by
 rw[jj h]
 have:=jk r
 omega
def Kj(r:RecM)(w:World)(e:Ending)(w':World):Prop:=∃A c,e= .returned (MA r A c)/\St w [] [gW ⟨r,A,c⟩] w'
def BV(l:List EdT)(w:World)(e:Ending)(w':World):Prop:=∃A c,e= .returned (.slice A l.length c)/\St w [] [eO 84 3 (.slice A l.length c) l.length (l.flatMap edC)] w'
theorem L5{w:World}(hA:At w A (l.flatMap edC))(h:A=none)(hs:St w [] [eO 84 3 (sn) 0 []] w'):BV l w (.returned (sn)) w':=by
 subst h
 have h1:=wa hA
 cases l with
 |nil=>exact⟨none,0,rfl,hs⟩
 |cons x l=>simp[edC] at h1
theorem Tryz.infoEdJ:(Tryz.prog.info? 84).map (fun i=>(i.zero,i.size,i.bytes))=some (some (.agg #[.int .i64 0,.int .i64 0,.string ⟨#[]⟩]),3,32):=by kernel_rfl
theorem J0(l:List EdT):∀v∈l.flatMap edC,v.oneCell'=true:=fun v hv=>by
 obtain⟨x,_,h⟩:=List.mem_flatMap.1 hv
 simp only[edC,List.mem_cons,List.not_mem_nil,or_false] at h
 rcases h with rfl|rfl|rfl<;>rfl
theorem ob(sb db:Nat)(S:StM)(rt:RcT)(c:Nat)(fp:List Nat)(w:World)(hB:(eSt sb db S fp).holds w)(hlt:∀k∈fp,k<w.heap.size)(hok:SOk S c)(hr:bt rt.r=true)(hrt:rt∈S.rr):
  Calls P_ 57 #[po sb 0,.agg #[.int .i64 rt.r.kind,.int .i64 rt.r.xid,.int .i64 rt.r.tbl,sn,sn,.slice rt.A rt.r.eds.length rt.c,sn,.string rt.r.note]] w (d5 sb db (br S rt) fp w):=by
 have st1:St w fp [eSt sb db S fp] w:=St.lend hB (dx _ _ _ _) hlt
 go_enter func57,ntmps57
 have aj:=st1
 obtain⟨⟨hrw,hrr⟩,mb,RA,rc,EA,ec,ib,tb,fpd,hv1_⟩:=aj.unf
 have hlz:=hok.lsz
 have hll:S.recs.length<=1048576:=by have h1:=om hok.recs;have h3:=congrArg ByteArray.size hok.log;rw[cj] at h3;have h2:S.L.length=S.recs.length:=List.length_map ..;omega
 have hro:=d4 hr
 have hez:∀e∈rt.r.eds,e.2.2.size<=9223372036854775807:=fun e he=>by have:=dn (hro.eds e he);omega
 have hns:rt.r.note.size<=9223372036854775807:=by have:=hro.note;omega
 have hnl:=hro.many
 have hfs:=eV hr
 refine wq (sqr ?_)
 refine bX #[vi rt.r.kind,vi rt.r.xid,vi rt.r.tbl,sn,sn,.slice rt.A rt.r.eds.length rt.c,sn,.string rt.r.note] hv1_ fun cY W2 bA=>?_
 refine sqp [.k 4 (vi 0)] ?_
 refine aa (wq (sqr ?_))
 refine bD 10 8 bA ?_
 refine sqk (.string (aA rt.r)) bA (fun cx=>⟨_,j9 rt.r.kind rt.r.xid rt.r.tbl _ _ rt.r.eds rt.r.note _ (dP (CtxV.holdF cx (cx.init 6 _ rfl) rfl) hrt) (by omega) hez hns,(av (cx.ou 7))⟩) fun W5 aK=>?_
 refine sqp [.m 5 8] ?_
 refine aa (wq (wsq [.m 9 0,.k 10 (vp sb),.k 11 (vp sb)] ?_))
 refine am 0 aK ?_
 refine sqp [.m 13 5] ?_
 refine bF (fun X_=>X_.fp) (vi ((apR S rt.r).2)) (fun FZ=>eDk db ((apR S rt.r).1) FZ) 9 aK (by
   refine svA fun g b W X cx=>?_
   refine ak.call (rCF (args:=#[vp db,.string (aA rt.r)]) cx.sees (aN (cx.ou 12) (cx.ou 13))) ?_
   refine(sw db S.D (aA rt.r) _ _ (CtxV.holdF cx (cx.init 9 _ rfl) rfl) (CtxV.ltF cx (cx.init 9 _ rfl) rfl) (by omega) (by omega)).mono ?_
   rintro e W1 ⟨rfl,fp4,aM⟩
   refine⟨_,rfl,aI (E:=eDk db S.D fpd) [eDk db (apR S rt.r).1 fp4] (cx.init 9 _ rfl) rfl rfl aM (fun d i X' hs hb hv hN=>?_)⟩
   have aH:=(hv 14 rfl).1;have aO:=(hv 14 rfl).2
   exact⟨aH.trans rfl,cF ((List.cons.inj hN).1)⟩) fun FZ sF cP=>?_
 refine sqp [.m 6 14] ?_
 refine aa (wsq [.m 15 6,.k 16 (.bool (((apR S rt.r).2) != 0))] ?_)
 refine aa (wbs (fun dj=>?_) fun dj=>?_)
 have mf:=bne_iff_ne.1 dj
 refine wsq [.m 17 6,.m 4 17] ?_
 refine aa (wp_ret (ai ?_))
 refine bpr (vi ((apR S rt.r).2)) (ag results57 rpt) ?_
 obtain⟨fp19_,hk19_⟩:=St.stf (S:={S with D:=(apR S rt.r).1}) (cP.u10.c0) (hrw) (hrr)
 exact d5.of (uS (by simpa using dj)) hk19_
 have mf:=bne_eq_false_iff_eq.1 dj
 refine wp_skip (aa (wq ?_))
 have he0:(apR S rt.r).2=0:=by simpa using dj
 obtain⟨ho0,hl0,hD0⟩:=Fd he0
 obtain⟨D1,hD1⟩:∃z,(apR S rt.r).1=z:=⟨_,rfl⟩
 rw[hD1] at cP hD0
 have hlg:D1.log=S.D.log++aA rt.r:=by rw[hD0];rfl
 have hlg2:(D1.log.size:Int)=(szF (S.L++[rt.r]):Int):=by rw[hlg,ByteArray.size_append,kA,hok.log,cj]
 refine aB [0,0,2,6,14,0,32,126,255,511,1023] [[],[],[],[],[0],[10],[],[11,4],[],[],[0]] [[],[],[],[],[],[],[11],[12],[],[],[13]] [[],[],[],[],[],[],[],[4],[],[],[0]] [.k 18 (vp sb),.k 19 (vp sb),.k 20 (vp sb),.k 21 (po sb 4),.c 22 (.slice RA S.recs.length rc),.c 23 (.agg #[vi rt.r.kind,vi rt.r.xid,vi rt.r.tbl,sn,sn,.slice rt.A rt.r.eds.length rt.c,sn,.string rt.r.note]),.a 24,.a 25,.k 26 (vp sb),.k 27 (po sb 4),.n] (fun ix d b X=>match ix with|0|1|2|3|4|5=>True|6=>d 24= .slice ((some ⟨(pb' (b 24)),0,none⟩)) 1 1/\X 11=eO 27 8 (.slice ((some ⟨(pb' (b 24)),0,none⟩)) 1 1) 1 (rcC rt)|7=>d 25= .slice (sA (b 25)) (S.recs.length+1) (sC (b 25))/\X 12=eO 27 8 (.slice (sA (b 25)) (S.recs.length+1) (sC (b 25))) (S.recs.length+1) ((S.recs++[rt]).flatMap rcC)|8|9=>True|10=>X 13=eB sb 109 #[vp db,vi S.bufs,.map (some mb),vi S.time,.slice (sA (b 25)) (S.recs.length+1) (sC (b 25)),.slice EA S.recs.length ec,.map (some ib),.map (some tb),vi S.frm]|_=>True) [1,2,3,5,6,7,8,9,10,11,12,13] [4,5,6,7,10] [(18,0,10,28)] cP ?_ ?_ ?_
 exact fun ix _ _ _ _ _ _ hs hb hx h=>match ix,h with
 |6,h=>by dsimp only;rw[<-hs 24 rfl,<-hb 24 rfl,<-hx 11 rfl];exact h
 |7,h=>by dsimp only;rw[<-hs 25 rfl,<-hb 25 rfl,<-hx 12 rfl];exact h
 |10,h=>by dsimp only;rw[<-hb 25 rfl,<-hx 13 rfl];exact h
 |0,_|1,_|2,_|3,_|4,_|5,_|8,_|9,_|_+11,_=>trivial
 refine⟨?_,?_,?_,?_,?_,trivial⟩
 exact xs4 rfl id fun cx=>rL1 (cx.an 3) ((cx.bi 0 rfl).cell 4)
 exact xs4 rfl id fun cx=>rLB (n:=8) (cx.ou 3) (cx.bi 10 rfl) (nle rfl) rfl
 refine svA fun g b W X cx=>?_
 have IL:g (.tmp 23)= .agg #[vi rt.r.kind,vi rt.r.xid,vi rt.r.tbl,sn,sn,.slice rt.A rt.r.eds.length rt.c,sn,.string rt.r.note]:=(cx.an 5)
 exact ml (e:=27) (sz:=8) (xs:=[vi rt.r.kind,vi rt.r.xid,vi rt.r.tbl,sn,sn,.slice rt.A rt.r.eds.length rt.c,sn,.string rt.r.note]) rfl (by simp[go_sem,IL]) rfl (by decide) rfl rfl (fun _ _ _ _ _=> .intro)
 refine svA fun g b W X cx=>?_
 obtain⟨i0,hi0,hz0,hz1,hz2⟩:=info_parts Tryz.infoRecJ
 refine i6 (n:=S.recs.length) (m:=1) (nm:=S.recs.length+1) (sz:=8) (xs:=S.recs.flatMap rcC) (news:=rcC rt) (xs':=(S.recs++[rt]).flatMap rcC) rfl (ty:=66) rfl (by kernel_rfl) hi0 hz0 hz1 hz2 rfl (by decide) (cx.an 4) cx (cx.init 4 _ rfl) rfl (dTn (cx.an 6)).1 (by rfl) (At.of_ownN (cx.row (dTn (cx.an 6)).2 rfl)) (by simp[rcC,Value.oneCell']) (by simp only[maxLen];omega) (by omega) rfl rfl rfl (by omega) ((By S.recs rt)) (fun d i X' hs hb hv hx=>?_)
 exact⟨hv,hx⟩
 refine svA fun g b W X cx=>?_
 exact dVS (n:=1) rfl (cx.an 9) (dTn (cx.an 7)).1 cx (cx.init 0 _ rfl) rfl (nle rfl) rfl rfl rfl (fun d i X' hs hb hx=>by rw[hb 25];exact hx)
 intro d b X uT hD eN fr aC
 simp only[exq 11 ((dTn (hD 6 lq)).2),exq 12 ((dTn (hD 7 lq)).2),exq 13 ((dTn (hD 10 lq)))] at eN
 simp only[ed 24 ((dTn (hD 6 lq)).1),ed 25 ((dTn (hD 7 lq)).1)] at aC
 generalize pb' (b 24)=RM,sA (b 25)=Nc,sC (b 25)=Nd at eN aC
 clear hD;subst aC;clear d b X
 refine aa (wq (aB [0,0,2,6,14,0,32,96,224,480,992,2016,4094,8191,16383,32767] [[],[],[],[],[11],[],[],[],[11],[7],[],[],[12,3],[],[],[11]] [[],[],[],[],[],[],[],[],[],[],[],[12],[13],[],[],[14]] [[],[],[],[],[],[],[],[],[],[],[],[],[3],[],[],[11]] [.k 28 (vp sb),.k 29 (vp sb),.k 30 (vp sb),.k 31 (po sb 5),.c 32 (.slice EA S.recs.length ec),.k 33 (vp sb),.k 34 (vp sb),.k 35 (vp sb),.c 36 (vp db),.c 37 (.string D1.log),.k 38 (vi ((D1.log.size:Int))),.a 39,.a 40,.k 41 (vp sb),.k 42 (po sb 5),.n] (fun ix d b X=>match ix with|0|1|2|3|4|5|6|7|8|9|10=>True|11=>d 39= .slice (sA (b 39)) 1 1/\X 12=eO 3 1 (.slice (sA (b 39)) 1 1) 1 ([vi ((D1.log.size:Int))])|12=>d 40= .slice (sA (b 40)) (S.recs.length+1) (sC (b 40))/\X 13=eO 3 1 (.slice (sA (b 40)) (S.recs.length+1) (sC (b 40))) (S.recs.length+1) ((cL (S.L++[rt.r]) (S.recs.length+1)).map (Value.int .i64))|13|14=>True|15=>X 14=eB sb 109 #[vp db,vi S.bufs,.map (some mb),vi S.time,.slice Nc (S.recs.length+1) Nd,.slice (sA (b 40)) (S.recs.length+1) (sC (b 40)),.map (some ib),.map (some tb),vi S.frm]|_=>True) [0,1,2,4,5,6,7,8,9,10,12,13,14] [4,8,9,11,12,15] [(28,0,15,43)] eN ?_ ?_ ?_))
 exact fun ix _ _ _ _ _ _ hs hb hx h=>match ix,h with
 |11,h=>by dsimp only;rw[<-hs 39 rfl,<-hb 39 rfl,<-hx 12 rfl];exact h
 |12,h=>by dsimp only;rw[<-hs 40 rfl,<-hb 40 rfl,<-hx 13 rfl];exact h
 |15,h=>by dsimp only;rw[<-hb 40 rfl,<-hx 14 rfl];exact h
 |0,_|1,_|2,_|3,_|4,_|5,_|6,_|7,_|8,_|9,_|10,_|13,_|14,_|_+16,_=>trivial
 refine⟨?_,?_,?_,?_,?_,?_,trivial⟩
 exact xs4 rfl id fun cx=>rL1 (cx.an 3) ((cx.bi 11 rfl).cell 5)
 exact xs4 rfl id fun cx=>rL1 (cx.an 7) ((cx.bi 11 rfl).cell 0)
 exact xsc rfl id rfl rfl fun cx=>⟨_,ks db D1 _ (eP (CtxV.holdF cx (cx.init 7 _ rfl) rfl)),(av (cx.an 8))⟩
 refine svA fun g b W X cx=>?_
 have QE:g (.tmp 38)=vi ((D1.log.size:Int)):=(cx.an 10)
 exact dA (e:=3) (xs:=[vi ((D1.log.size:Int))]) rfl (by simp[go_sem,QE]) rfl (by decide) rfl rfl (fun _ _ _ _ _=> .intro)
 refine svA fun g b W X cx=>?_
 obtain⟨i0,hi0,hz0,hz1,hz2⟩:=info_parts Tryz.infoIntJ
 refine fj (n:=S.recs.length) (m:=1) (nm:=S.recs.length+1) (xs:=(cL S.L S.recs.length).map (Value.int .i64)) (news:=[vi ((D1.log.size:Int))]) (xs':=(cL (S.L++[rt.r]) (S.recs.length+1)).map (Value.int .i64)) rfl (ty:=25) rfl (by kernel_rfl) hi0 hz0 hz1 hz2 rfl (cx.an 4) cx (cx.init 3 _ rfl) rfl (dTn (cx.an 11)).1 (by first|(simp;done)|(simp;omega)) (At.of_own (cx.row (dTn (cx.an 11)).2 rfl)) (by simp[Value.oneCell']) (by simp only[maxLen];omega) (by omega) rfl rfl rfl (by omega) ((E9 S.L rt.r hlg2 (List.length_map ..))) (fun d i X' hs hb hv hx=>?_)
 exact⟨hv,hx⟩
 refine svA fun g b W X cx=>?_
 exact dVS (n:=1) rfl (cx.an 14) (dTn (cx.an 12)).1 cx (cx.init 11 _ rfl) rfl (nle rfl) rfl rfl rfl (fun d i X' hs hb hx=>by rw[hb 40];exact hx)
 intro d b X uZ hD dv fr aC
 simp only[exq 12 ((dTn (hD 11 lq)).2),exq 13 ((dTn (hD 12 lq)).2),exq 14 ((dTn (hD 15 lq)))] at dv
 simp only[ed 39 ((dTn (hD 11 lq)).1),ed 40 ((dTn (hD 12 lq)).1)] at aC
 generalize sA (b 39)=RN,sA (b 40)=RO,sC (b 40)=RP at dv aC
 clear hD;subst aC;clear d b X
 refine aa (wsq [.k 4 (vi 0)] ?_)
 refine aa (wp_ret ?_)
 refine bpr (vi 0) (ag results57 rpt) ?_
 obtain⟨fp24_,hk24_⟩:=St.stf (S:={S with D:=D1,recs:=S.recs++[rt]}) (by have h_:=dv.u7.c0.u7.c0.u8.c0.u8.u8.u4.u4.u4.u9;rw[stL,stC];dsimp only[StM.L];rw[List.length_append,List.length_singleton,List.map_append];exact h_) (hrw) (fun t ht=>(List.mem_append.1 ht).elim (hrr t) fun h=>by rw[List.mem_singleton.1 h];exact hrt)
 exact d5.of ((Ey he0).trans (by rw[hD1])) hk24_
theorem Ks(A:Option Addr)(c:Nat)(l:List EdT)(w:World)(hA:At w A (l.flatMap edC))(hI:l.length<=100000):
  Calls P_ 115 #[.slice A l.length c] w (BV l w):=by
 go_enter func115,ntmps115
 have aj:=St.start w
 refine wsq [.k 2 (sn)] ?_
 refine aa (wq (wsq [.m 3 0,.k 4 (.bool A.isNone)] ?_))
 refine aa (wbs (fun aM=>?_) fun aM=>?_)
 refine wsq [.k 2 (sn)] ?_
 refine aa (wp_ret (ai ?_))
 refine bpr (sn) (ag results115 rpt) ?_
 have hn6:=fm aj 84 3
 simp only[List.cons_append,List.nil_append] at hn6
 exact L5 hA (by simpa using aM) hn6
 refine wp_skip (aa (wq ?_))
 obtain⟨a,rfl⟩:∃a,A=some a:=by cases A with|none=>cases aM|some a=>exact⟨a,rfl⟩
 refine sqr ?_
 refine mX 84 3 0 [] aj (@fun b d W X cx=>by simp[go_sem]) fun tz W7 aW=>?_
 refine sqp [.m 6 0] ?_
 refine v8 l.length (l.flatMap edC) 0 aW Tryz.infoEdJ (fun cx=>(hA.ext cx.upd.to_ext)) (hl:=by rw[kt bE]) (h1:=J0 _) fun tD tG W9 cw=>?_
 refine sqp [.m 2 7] ?_
 exact aa (wp_ret (bpr (.slice tD l.length tG) (ag results115 rpt) (⟨_,_,rfl,cw.pick [0] (by decide) rfl⟩)))
theorem BB(w:World):
  Calls P_ 114 #[sn] w (Ret (sn) w):=by
 go_enter func114,ntmps114
 have aj:=St.start w
 refine wsq [.k 2 (sn)] ?_
 refine aa (wq (wsq [.m 3 0,.k 4 (.bool true)] ?_))
 refine aa (wct rfl (wsq [.k 2 (sn)] ?_))
 refine aa (wp_ret (ai ?_))
 exact bpr (sn) (ag results114 rpt) (Ret.of rfl aj.ext)
theorem Li(w:World):
  Calls P_ 116 #[sn] w (Ret (sn) w):=by
 go_enter func116,ntmps116
 have aj:=St.start w
 refine wsq [.k 2 (sn)] ?_
 refine aa (wq (wsq [.m 3 0,.k 4 (.bool true)] ?_))
 refine aa (wct rfl (wsq [.k 2 (sn)] ?_))
 refine aa (wp_ret (ai ?_))
 exact bpr (sn) (ag results116 rpt) (Ret.of rfl aj.ext)
theorem C1(A:Option Addr)(c:Nat)(r:RecM)(w:World)(hA:At w A (r.eds.flatMap edC))(hI:r.eds.length<=100000):
  Calls P_ 52 #[.agg #[.int .i64 r.kind,.int .i64 r.xid,.int .i64 r.tbl,sn,sn,.slice A r.eds.length c,sn,.string r.note]] w (Kj r w):=by
 go_enter func52,ntmps52
 have aj:=St.start w
 refine wq (sqr ?_)
 refine bX #[vi r.kind,vi r.xid,vi r.tbl,sn,sn,.slice A r.eds.length c,sn,.string r.note] aj fun ay W1 ax=>?_
 refine bW #[vi 0,vi 0,vi 0,sn,sn,sn,sn,.string ByteArray.empty] ax fun kI W2 bA=>?_
 refine aa (wq (aB [0,1,3,0,8,31,0,64,255,0,512,2047,1759,8191,16383,32767,65535,131071,262143,524287] [[],[0],[],[],[0],[],[],[0],[],[],[0],[],[],[0],[],[3],[],[4],[],[5]] [[],[],[],[],[],[],[],[],[2],[],[],[],[],[3],[],[4],[],[5],[],[6]] [[],[],[],[],[],[],[],[],[],[],[],[],[],[0],[],[3],[],[4],[],[5]] [.k 3 (po ay 3),.c 4 (sn),.c 5 (sn),.k 6 (po ay 4),.c 7 (sn),.c 8 (sn),.k 9 (po ay 5),.c 10 (.slice A r.eds.length c),.a 11,.k 12 (po ay 6),.c 13 (sn),.c 14 (sn),.k 15 (po ay 3),.n,.k 16 (po ay 4),.n,.k 17 (po ay 5),.n,.k 18 (po ay 6),.n] (fun ix d b X=>match ix with|0|1|2|3|4|5|6|7=>True|8=>d 11= .slice (sA (b 11)) r.eds.length (sC (b 11))/\X 2=eO 84 3 (.slice (sA (b 11)) r.eds.length (sC (b 11))) r.eds.length (r.eds.flatMap edC)|9|10|11|12=>True|13=>X 3=eB ay 27 #[vi r.kind,vi r.xid,vi r.tbl,sn,sn,.slice A r.eds.length c,sn,.string r.note]|14=>True|15=>X 4=eB ay 27 #[vi r.kind,vi r.xid,vi r.tbl,sn,sn,.slice A r.eds.length c,sn,.string r.note]|16=>True|17=>X 5=eB ay 27 #[vi r.kind,vi r.xid,vi r.tbl,sn,sn,.slice (sA (b 11)) r.eds.length (sC (b 11)),sn,.string r.note]|18=>True|19=>X 6=eB ay 27 #[vi r.kind,vi r.xid,vi r.tbl,sn,sn,.slice (sA (b 11)) r.eds.length (sC (b 11)),sn,.string r.note]|_=>True) [1,2,6] [1,2,4,5,7,8,10,11,13,15,17,19] [(3,0,19,19)] bA ?_ ?_ ?_))
 exact fun ix _ _ _ _ _ _ hs hb hx h=>match ix,h with
 |8,h=>by dsimp only;rw[<-hs 11 rfl,<-hb 11 rfl,<-hx 2 rfl];exact h
 |13,h=>by dsimp only;rw[<-hx 3 rfl];exact h
 |15,h=>by dsimp only;rw[<-hx 4 rfl];exact h
 |17,h=>by dsimp only;rw[<-hb 11 rfl,<-hx 5 rfl];exact h
 |19,h=>by dsimp only;rw[<-hb 11 rfl,<-hx 6 rfl];exact h
 |0,_|1,_|2,_|3,_|4,_|5,_|6,_|7,_|9,_|10,_|11,_|12,_|14,_|16,_|18,_|_+20,_=>trivial
 refine⟨?_,?_,?_,?_,?_,?_,?_,?_,?_,?_,?_,?_,trivial⟩
 exact xs4 rfl id fun cx=>rL1 (cx.an 0) ((cx.bi 0 rfl).cell 3)
 exact xsc rfl id rfl rfl fun cx=>⟨_,BB _,(av (cx.an 1))⟩
 exact xs4 rfl id fun cx=>rL1 (cx.an 3) ((cx.bi 0 rfl).cell 4)
 exact xsc rfl id rfl rfl fun cx=>⟨_,BB _,(av (cx.an 4))⟩
 exact xs4 rfl id fun cx=>rL1 (cx.an 6) ((cx.bi 0 rfl).cell 5)
 refine svA fun g b W X cx=>?_
 refine ak.call (rCF (args:=#[.slice A r.eds.length c]) cx.sees (av (cx.an 7))) ?_
 refine(Ks A c r.eds _ (hA.ext cx.upd.to_ext) hI).mono ?_
 rintro e W1 ⟨A4,c4,rfl,aM⟩
 refine⟨_,rfl,vV [eO 84 3 (.slice A4 r.eds.length c4) r.eds.length (r.eds.flatMap edC)] rfl rfl aM (fun d i X' hs hb hv hN=>?_)⟩
 have aH:=(hv 11 rfl).1;have aO:=(hv 11 rfl).2
 exact⟨aH.trans (by rw[aO];rfl),(by rw[aO];exact(List.cons.inj hN).1)⟩
 exact xs4 rfl id fun cx=>rL1 (cx.an 9) ((cx.bi 0 rfl).cell 6)
 exact xsc rfl id rfl rfl fun cx=>⟨_,Li _,(av (cx.an 10))⟩
 refine svA fun g b W X cx=>?_
 exact dVS (n:=1) rfl (cx.an 12) (cx.an 2) cx (cx.init 0 _ rfl) rfl (nle rfl) rfl rfl rfl (fun _ _ _ _ _=>id)
 refine svA fun g b W X cx=>?_
 exact dVS (n:=1) rfl (cx.an 14) (cx.an 5) cx (dTn (cx.an 13)) rfl (nle rfl) rfl rfl rfl (fun _ _ _ _ _=>id)
 refine svA fun g b W X cx=>?_
 exact dVS (n:=1) rfl (cx.an 16) (dTn (cx.an 8)).1 cx (dTn (cx.an 15)) rfl (nle rfl) rfl rfl rfl (fun d i X' hs hb hx=>by rw[hb 11];exact hx)
 refine svA fun g b W X cx=>?_
 exact dVS (n:=1) rfl (cx.an 18) (cx.an 11) cx (dTn (cx.an 17)) rfl (nle rfl) rfl rfl rfl (fun d i X' hs hb hx=>by rw[hb 11];exact hx)
 intro d b X W3 hD aU fr aC
 simp only[exq 2 ((dTn (hD 8 lq)).2),exq 6 ((dTn (hD 19 lq)))] at aU
 simp only[ed 11 ((dTn (hD 8 lq)).1)] at aC
 generalize sA (b 11)=xZ,sC (b 11)=x1 at aU aC
 clear hD;subst aC;clear d b X
 refine aa (wq (sqr ?_))
 refine bD 2 8 aU ?_
 refine aT (n:=8) 0 #[vi r.kind,vi r.xid,vi r.tbl,sn,sn,.slice xZ r.eds.length x1,sn,.string r.note] aU fun W5 aK=>?_
 exact aa (wp_ret (bpr (.agg #[vi r.kind,vi r.xid,vi r.tbl,sn,sn,.slice xZ r.eds.length x1,sn,.string r.note]) (bB (n:=8) results52 rfl (by kernel_rfl) (by kernel_rfl) (aK.blk 0 rfl) rfl) (⟨_,_,rfl,aK.pick [1] (by decide) rfl⟩)))
end
section
open Go.RowKit
def doR(p:PgS)(e:EdT)(n:Int):PgS:=if doE p e n=0 then doV p e n else bp
theorem rK{n:Int}(h:doE p e n=0):doR p e n=doV p e n:=if_pos h
theorem Fp{n:Int}{w:World}(h:Calls P_ f args w (gh p e n w)):Calls P_ f args w (dS (doR p e n).1 (doR p e n).2.1 (doR p e n).2.2 (doE p e n) w):=by
 refine h.mono fun e' w' h=>?_
 unfold gh at h
 split at h
 rename_i h0
 rw[rK h0,h0];exact h
 rename_i h0
 rw[doR,if_neg h0];exact h
theorem DW{s:ByteArray}{w:World}(h:Calls P_ f args w (j8 s w)):Calls P_ f args w (fun e w'=>∃er,dS (rdP s).1 (rdP s).2.1 (rdP s).2.2 er w e w'):=by
 refine h.mono fun e' w' h=>?_
 unfold j8 at h
 rcases hx:rdX s with _|p
 rw[hx] at h
 obtain⟨er,_,h1,h2⟩:=h
 rw[o9 hx]
 exact⟨er,none,0,h1,World.ownsRow_nil _ _ _ _,h2⟩
 rw[hx] at h
 rw[pm hx]
 exact⟨0,h⟩
theorem LdR.rr{n:Int}(hl:LdR S n S' er):S'.rr=S.rr:=by
 have hc:∀(S:StM) (t:BfT),(aJ S t).1.rr=S.rr:=fun S t=>by
  unfold aJ
  split
  unfold bL
  split<;>rfl
  rfl
 have he:∀(S:StM) (t:BfT),(bq S t).1.rr=S.rr:=fun S t=>by
  unfold bq
  split
  split
  exact hc S t
  exact hc S t
  rfl
 cases hl with
 |hit t ht hn=>rfl
 |bad h1 h2=>rfl
 |new t blk A cc h1 h2 h3=>
  unfold j6
  split
  exact he _ _
  exact he (Go.Proofs.YtcdjaepgahbhfaaGreat.tick S) t
def tZ:Value->Int
 | .int _ z=>z
 |_=>0
inductive RdE (lsn:Int):StM->List EdT->StM->Int->Prop where
 |nil (S:StM):RdE lsn S [] S 0
 |bad {S S1:StM}{x:EdT}{l:List EdT}{er:Int}(h:LdR S x.1 S1 er) (he:er≠0):RdE lsn S (x::l) S1 er
 |skip {S S1 S2:StM}{x:EdT}{l:List EdT}{er:Int}{t:BfT}(h:LdR S x.1 S1 0) (ht:t∈S1.pool) (hn:t.n=x.1) (hs:lsn<t.pg.p.2.1) (hr:RdE lsn S1 l S2 er):RdE lsn S (x::l) S2 er
 |fail {S S1 S2:StM}{x:EdT}{l:List EdT}{er:Int}{t:BfT}(h:LdR S x.1 S1 0) (ht:t∈S1.pool) (hn:t.n=x.1) (hs:¬lsn<t.pg.p.2.1) (hd:doE t.pg.p x lsn≠0) (hr:RdE lsn S1 l S2 er):RdE lsn S (x::l) S2 er
 |good {S S1 S2:StM}{x:EdT}{l:List EdT}{er:Int}{t:BfT}{pg:PgR}(h:LdR S x.1 S1 0) (ht:t∈S1.pool) (hn:t.n=x.1) (hs:¬lsn<t.pg.p.2.1) (hd:doE t.pg.p x lsn=0) (hp:pg.p=doV t.pg.p x lsn) (hr:RdE lsn {S1 with pool:=dh S1.pool x.1 (gz pg),rows:=S1.rows++[pg]} l S2 er):RdE lsn S (x::l) S2 er
def imS(S:StM)(n:Int):StM:={S with ni:=mzP S.im n S.ni,im:=cd S.im n (some true)}
def RdR(S:StM)(lsn:Int)(r:RecM)(S':StM)(er:Int):Prop:=(r.kind=8/\∃A c,ej (j4 (imS S r.tbl) ⟨rdP r.note,A,c⟩) r.tbl ⟨rdP r.note,A,c⟩ S' er)\/(r.kind≠8/\RdE lsn S r.eds S' er)
theorem SOk.rows(h:SOk S c)(pg:PgR):SOk (j4 S pg) c:=⟨h.bufs,h.pgs,h.ws,h.time,h.ni,h.nt,h.right,h.nodup,h.len,h.keys,h.recs,h.log,h.lsz,h.fl,h.cl⟩
theorem qv{a b:Type}(m:a->Option b)(x:a)(n:Nat):mzP m x n<=n+1:=by unfold mzP;split<;>omega
theorem SOk.im(h:SOk S c)(n:Int):SOk (imS S n) (c+1):=⟨h.bufs,h.pgs,fun x hx=>Nat.le_succ_of_le (h.ws x hx),⟨h.time.1,by have:=h.time.2;show S.time<= _;omega⟩,by have h1:=qv S.im n S.ni;have:=h.ni;show mzP S.im n S.ni<=c+1;omega,Nat.le_succ_of_le h.nt,h.right,h.nodup,h.len,h.keys,h.recs,h.log,h.lsz,h.fl,h.cl⟩
theorem SOk.setR{n:Int}(h:SOk S c)(hr:bI pg.p):SOk {S with pool:=dh S.pool n (gz pg),rows:=S.rows++[pg]} c:=
 ((h.setp (n:=n) (f:=gz pg) (fun _=>rfl) (fun _ _=>hr) (fun _ _ _ hd=>by cases hd))).rows pg
theorem RdE.ok(h:RdE lsn S l S' er):∀{c:Nat},SOk S c->SOk S' (c+3*l.length)/\S'.rr=S.rr/\S'.recs=S.recs/\S'.frm=S.frm:=by
 induction h with
 |nil S=>intro c hc;exact⟨hc,rfl,rfl,rfl⟩
 |bad h he=>intro c hc;exact⟨(hc.load h).mono (by simp only[List.length_cons];omega),h.rr,h.rows.2.1,h.rows.2.2.1⟩
 |skip h ht hn hs hr ih=>intro c hc;obtain⟨a,b,d,e⟩:=ih (hc.load h);exact⟨a.mono (by simp only[List.length_cons];omega),b.trans h.rr,d.trans h.rows.2.1,e.trans h.rows.2.2.1⟩
 |fail h ht hn hs hd hr ih=>intro c hc;obtain⟨a,b,d,e⟩:=ih (hc.load h);exact⟨a.mono (by simp only[List.length_cons];omega),b.trans h.rr,d.trans h.rows.2.1,e.trans h.rows.2.2.1⟩
 |good h ht hn hs hd hp hr ih=>
  intro c hc
  obtain⟨a,b,d,e⟩:=ih ((hc.load h).setR (by rw[hp];exact kC hd))
  exact⟨a.mono (by simp only[List.length_cons];omega),b.trans h.rr,d.trans h.rows.2.1,e.trans h.rows.2.2.1⟩
theorem ej.rr{n:Int}(h:ej S n pg S' er):S'.rr=S.rr/\S'.recs=S.recs/\S'.frm=S.frm:=by
 obtain⟨S1,h1,⟨_,rfl⟩|⟨_,_,rfl⟩⟩:=h
 exact⟨h1.rr,h1.rows.2.1,h1.rows.2.2.1⟩
 exact⟨h1.rr,h1.rows.2.1,h1.rows.2.2.1⟩
theorem RdR.ok(h:RdR S lsn r S' er)(hc:SOk S c)(hr:bt r=true):SOk S' (c+200)/\S'.rr=S.rr/\S'.recs=S.recs/\S'.frm=S.frm:=by
 have hro:=d4 hr
 rcases h with ⟨_,A,cc,h⟩|⟨_,h⟩
 have h1:=SOk.put ((hc.im r.tbl).rows ⟨rdP r.note,A,cc⟩) (sX r.note) h
 exact⟨h1.mono (by omega),h.rr⟩
 obtain⟨a,b⟩:=h.ok hc
 exact⟨a.mono (by have:=hro.many;omega),b⟩
theorem mn(h:(eSt sb db S fp).holds W){t:RcT}(ht:t∈S.rr):At W t.A (t.r.eds.flatMap edC):=by
 obtain⟨mb,RA,rc,EA,ec,ib,tb,h1⟩:=j7 h
 exact h1.own t ht
def mr(sb db:Nat)(S:StM)(lsn:Int)(r:RecM)(fp:List Nat)(w:World)(e:Ending)(w':World):Prop:=∃er,e= .returned (.int .i64 er)/\∃fp',St w fp [eSx sb db (fun S2=>RdR S lsn r S2 er) fp'] w'
theorem mr.of{w:World}(h:RdR S lsn r S2 er)(hs:St w fp ([]++[eSt sb db S2 fp']) w'):mr sb db S lsn r fp w (.returned (.int .i64 er)) w':=⟨er,rfl,fp',St.sx (L:=[]) hs h⟩
theorem xa(sb db:Nat)(S:StM)(lsn:Int)(rt:RcT)(c:Nat)(fp:List Nat)(w:World)(hB:(eSt sb db S fp).holds w)(hlt:∀k∈fp,k<w.heap.size)(hok:SOk S c)(hc:c<=900000)(hr:bt rt.r=true)(hrt:rt∈S.rr)(h8:rt.r.kind=8->rt.r.note.size=512):
  Calls P_ 61 #[po sb 0,.int .i64 lsn,.agg #[.int .i64 rt.r.kind,.int .i64 rt.r.xid,.int .i64 rt.r.tbl,sn,sn,.slice rt.A rt.r.eds.length rt.c,sn,.string rt.r.note]] w (mr sb db S lsn rt.r fp w):=by
 have st1:St w fp [eSt sb db S fp] w:=St.lend hB (dx _ _ _ _) hlt
 have hro:=d4 hr
 have hml:=hro.many
 have hkt:kcI.ok rt.r.tbl:=by have:=hro.tbl;constructor<;>omega
 have hni:=hok.ni
 go_enter func61,ntmps61
 have aj:=st1
 refine wq (sqr ?_)
 refine bX #[vi rt.r.kind,vi rt.r.xid,vi rt.r.tbl,sn,sn,.slice rt.A rt.r.eds.length rt.c,sn,.string rt.r.note] aj fun tC W1 ax=>?_
 refine sqp [.k 6 (vi 0)] ?_
 refine aa (wq (wsq [.k 15 (vp tC)] ?_))
 refine am 1 ax ?_
 refine sqp [.k 17 (.bool (rt.r.kind==8))] ?_
 refine aa (wbs (fun dC=>?_) fun dC=>?_)
 have tw:=beq_iff_eq.1 dC
 refine wq ?_
 have hk8:rt.r.kind=8:=by simpa using dC
 refine aB [0,1,3,7,15,15,0,95,255] [[],[1],[],[],[],[],[],[3]] [[],[],[2],[],[],[],[3],[4]] [[],[],[],[],[],[],[],[3]] [.k 19 (po tC 7),.c 20 (.string rt.r.note),.a 21,.a 18,.a 22,.a 23,.a 7,.n,.a 8] (fun ix d b X=>match ix with|0|1=>True|2=>d 21= .tuple #[.agg #[vi ((rdP rt.r.note).1),vi ((rdP rt.r.note).2.1),.slice (sA (tg (tg (b 21) 0) 2)) ((rdP rt.r.note).2.2.length) (sC (tg (tg (b 21) 0) 2))],vi (tE (b 21))]/\X 2=eO 9 1 (.slice (sA (tg (tg (b 21) 0) 2)) ((rdP rt.r.note).2.2.length) (sC (tg (tg (b 21) 0) 2))) ((rdP rt.r.note).2.2.length) ((rdP rt.r.note).2.2.map Value.string)|3=>d 18= .tuple #[.agg #[vi ((rdP rt.r.note).1),vi ((rdP rt.r.note).2.1),.slice (sA (tg (tg (b 21) 0) 2)) ((rdP rt.r.note).2.2.length) (sC (tg (tg (b 21) 0) 2))],vi (tE (b 21))]|4=>d 22= .agg #[vi ((rdP rt.r.note).1),vi ((rdP rt.r.note).2.1),.slice (sA (tg (tg (b 21) 0) 2)) ((rdP rt.r.note).2.2.length) (sC (tg (tg (b 21) 0) 2))]|5=>d 23=vi (tE (b 21))|6=>d 7=vp (pb (b 7))/\X 3=eB (pb (b 7)) 48 #[vi 0,vi 0,sn]|7=>X 4=eB (pb (b 7)) 48 #[vi ((rdP rt.r.note).1),vi ((rdP rt.r.note).2.1),.slice (sA (tg (tg (b 21) 0) 2)) ((rdP rt.r.note).2.2.length) (sC (tg (tg (b 21) 0) 2))]|8=>d 8=vi (tE (b 21))|_=>True) [0,1,2,4] [1,2,3,4,5,6,7,8] [(7,6,3,9),(9,3,1,10),(0,0,3,3),(0,4,2,2)] ax ?_ ?_ ?_
 exact fun ix _ _ _ _ _ _ hs hb hx h=>match ix,h with
 |2,h=>by dsimp only;rw[<-hs 21 rfl,<-hb 21 rfl,<-hx 2 rfl];exact h
 |3,h=>by dsimp only;rw[<-hs 18 rfl,<-hb 21 rfl];exact h
 |4,h=>by dsimp only;rw[<-hs 22 rfl,<-hb 21 rfl];exact h
 |5,h=>by dsimp only;rw[<-hs 23 rfl,<-hb 21 rfl];exact h
 |6,h=>by dsimp only;rw[<-hs 7 rfl,<-hb 7 rfl,<-hx 3 rfl];exact h
 |7,h=>by dsimp only;rw[<-hb 7 rfl,<-hb 21 rfl,<-hx 4 rfl];exact h
 |8,h=>by dsimp only;rw[<-hs 8 rfl,<-hb 21 rfl];exact h
 |0,_|1,_|_+9,_=>trivial
 refine⟨?_,?_,?_,?_,?_,?_,?_,?_,trivial⟩
 exact xs4 rfl id fun cx=>rL1 (cx.an 0) ((cx.bi 1 rfl).cell 7)
 refine svA fun g b W X cx=>?_
 refine ak.call (rCF (args:=#[.string rt.r.note]) cx.sees (av (cx.an 1))) ?_
 refine(DW (mG rt.r.note _ (h8 hk8))).mono ?_
 rintro e W1 ⟨er4,A4,c4,rfl,ho,hx⟩
 refine⟨_,rfl,bK [eO 9 1 (.slice A4 (rdP rt.r.note).2.2.length c4) (rdP rt.r.note).2.2.length ((rdP rt.r.note).2.2.map Value.string)] rfl rfl hx (one_new (cf ho)) (List.pairwise_singleton _ _) (fun d i X' hs hb hv hN=>?_)⟩
 have aH:=(hv 21 rfl).1;have aO:=(hv 21 rfl).2
 exact⟨aH.trans (by rw[aO];exact rfl),(by rw[aO];exact(List.cons.inj hN).1)⟩
 exact sv rfl rfl rfl rfl rfl _ (fun _ _ _ h=>h) (fun b i h=>by rw[h 21 (by decide)]) fun g b W X cx=>cM rfl (dTn (cx.an 2)).1
 exact sv rfl rfl rfl rfl rfl _ (fun _ _ _ h=>h) (fun b i h=>by rw[h 21 (by decide)]) fun g b W X cx=>bH rfl (dTn (cx.an 3)) rfl
 exact sv rfl rfl rfl rfl rfl _ (fun _ _ _ h=>h) (fun b i h=>by rw[h 21 (by decide)]) fun g b W X cx=>bH rfl (dTn (cx.an 3)) rfl
 refine svA fun g b W X cx=>?_
 exact dVA (cs:=#[vi 0,vi 0,sn]) rfl rfl rfl (fun _ _ _ _ _=> .intro)
 refine svA fun g b W X cx=>?_
 exact dVS (n:=3) rfl (dTn (cx.an 6)).1 (dTn (cx.an 4)) cx (dTn (cx.an 6)).2 rfl (nle rfl) rfl rfl rfl (fun d i X' hs hb hx=>by rw[hb 7,hb 21];exact hx)
 exact sv rfl rfl rfl rfl rfl _ (fun _ _ _ h=>h) (fun b i h=>by rw[h 21 (by decide)]) fun g b W X cx=>cS rfl (dTn (cx.an 5))
 intro d b X W7 hD aW fr aC
 simp only[exq 2 ((dTn (hD 2 lq)).2),exq 4 ((dTn (hD 7 lq)))] at aW
 simp only[ed 21 ((dTn (hD 2 lq)).1),ed 18 ((dTn (hD 3 lq))),ed 22 ((dTn (hD 4 lq))),ed 23 ((dTn (hD 5 lq))),ed 7 ((dTn (hD 6 lq)).1),ed 8 ((dTn (hD 8 lq)))] at aC
 generalize tE (b 21)=SP,sA (tg (tg (b 21) 0) 2)=kj,sC (tg (tg (b 21) 0) 2)=kk,pb (b 7)=Tm at aW aC
 clear hD;subst aC;clear d b X
 refine aa (wq ?_)
 obtain⟨⟨hrw,hrr⟩,mb,RA,rc,EA,ec,ib,tb,fpd,hv8_⟩:=aW.unf
 refine aB [0,1,3,7,0,16,63] [[],[],[],[0],[],[10],[7]] [[],[],[],[],[],[],[13]] [[],[],[],[],[],[],[7]] [.k 24 (vp sb),.k 25 (vp sb),.k 26 (po sb 6),.c 27 (.map (some ib)),.k 28 (po tC 2),.c 29 (vi rt.r.tbl),.n] (fun ix d b X=>match ix with|0|1|2|3|4|5=>True|6=>X 13=eMx kcI ecB P_ 3 ib ((mzP S.im rt.r.tbl S.ni)) (cd S.im rt.r.tbl (some true))|_=>True) [0,1,2,3,4,5,6,8,9,10,11,12,13] [3,5,6] [(24,0,6,30)] hv8_ ?_ ?_ ?_
 exact fun ix _ _ _ _ _ _ hs hb hx h=>match ix,h with
 |6,h=>by dsimp only;rw[<-hx 13 rfl];exact h
 |0,_|1,_|2,_|3,_|4,_|5,_|_+7,_=>trivial
 refine⟨?_,?_,?_,trivial⟩
 exact xs4 rfl id fun cx=>rL1 (cx.an 2) ((cx.bi 0 rfl).cell 6)
 exact xs4 rfl id fun cx=>rL1 (cx.an 4) ((cx.bi 10 rfl).cell 2)
 refine svA fun g b W X cx=>?_
 exact gy (e:=4) (v:=true) (.inl rfl) (cx.an 3) (show g _=Kc.enc kcI rt.r.tbl from(cx.an 5)) (show g _=Ec.enc ecB true from(cx.co _)) cx (cx.init 7 _ rfl) rfl (trivial) (by omega) (hkt) rfl rfl rfl (fun _ _ _ _ _=>id) (hk:=show Program.underlying _ _= _ from by kernel_rfl)
 intro d b X W9 hD cw fr aC
 simp only[exq 13 ((dTn (hD 6 lq)))] at cw
 clear hD;subst aC;clear d b X
 refine aa (wq ?_)
 have hg10_:=St.apf (r:=(⟨rdP rt.r.note,kj,kk⟩:PgR)) cw.u10.u4
 obtain⟨fp11_,hk11_⟩:=St.stf (S:=(j4 (imS S rt.r.tbl) (⟨rdP rt.r.note,kj,kk⟩:PgR))) (hg10_.u11.u7.u7.u7.u4.u7.u7.u7) (fun t ht=>List.mem_append_left _ (hrw t ht)) (hrr)
 have hok2:=(hok.im rt.r.tbl).rows (⟨rdP rt.r.note,kj,kk⟩:PgR)
 refine sqs [.m 30 0,.k 31 (po tC 2)] ?_
 refine am 1 hk11_ ?_
 refine bD 2 3 hk11_ ?_
 refine nv (fun x_=>tZ x_) (fun X_=>X_.fp) (fun er34_16=>vi er34_16) (fun er34_16 Jy=>eSx sb db (fun S2=>ej (j4 (imS S rt.r.tbl) (⟨rdP rt.r.note,kj,kk⟩:PgR)) rt.r.tbl (⟨rdP rt.r.note,kj,kk⟩:PgR) S2 er34_16) Jy) 0 hk11_ (by
   refine svA fun g b W X cx=>?_
   refine ak.call (rCF (args:=#[vp sb,vi rt.r.tbl,.agg #[vi ((rdP rt.r.note).1),vi ((rdP rt.r.note).2.1),.slice kj ((rdP rt.r.note).2.2.length) kk]]) cx.sees (dH (cx.ou 30) (cx.ou 32) (cx.ou 33))) ?_
   refine(td sb db (j4 (imS S rt.r.tbl) (⟨rdP rt.r.note,kj,kk⟩:PgR)) rt.r.tbl (⟨rdP rt.r.note,kj,kk⟩:PgR) (c+1) _ _ (CtxV.holdF cx (cx.init 0 _ rfl) rfl) (CtxV.ltF cx (cx.init 0 _ rfl) rfl) hok2 (by omega) hkt (by simp[j4])).mono ?_
   rintro e W1 ⟨er4,rfl,fp4,aM⟩
   refine⟨_,rfl,aI (E:=eSt sb db (j4 (imS S rt.r.tbl) (⟨rdP rt.r.note,kj,kk⟩:PgR)) fp11_) [eSx sb db (fun S2=>ej (j4 (imS S rt.r.tbl) (⟨rdP rt.r.note,kj,kk⟩:PgR)) rt.r.tbl (⟨rdP rt.r.note,kj,kk⟩:PgR) S2 er4) fp4] (cx.init 0 _ rfl) rfl rfl aM (fun d i X' hs hb hv hN=>?_)⟩
   have aH:=(hv 34 rfl).1;have aO:=(hv 34 rfl).2
   exact⟨aH.trans (by rw[aO];exact rfl),(by rw[aO];exact eY ((List.cons.inj hN).1))⟩) fun er34_16 Jy p5 dl=>?_
 refine sqp [.m 6 34] ?_
 refine aa (wp_ret (ai ?_))
 refine bpr (vi er34_16) (ag results61 rpt) ?_
 obtain⟨S3,hP,hy18_⟩:=dl.unx
 exact mr.of (.inl ⟨hk8,_,_,hP⟩) (hy18_.pick [0] (by decide) rfl)
 have tw:=beq_eq_false_iff_ne.1 dC
 refine wp_skip (aa (wq (wsq [.k 35 (po tC 5)] ?_)))
 refine am 1 ax ?_
 refine sqp [.k 37 (vi ((rt.r.eds.length:Int))),.k 38 (vi 0)] ?_
 refine aa (wp_block ?_)
 refine aQ (fun t_ mz az W=>∃j:Nat,∃Sj:StM,∃fpj:List Nat,j<=rt.r.eds.length/\(∀S2 er,RdE lsn Sj (rt.r.eds.drop j) S2 er->RdE lsn S rt.r.eds S2 er)/\SOk Sj (c+3*j)/\rt∈Sj.rr/\mz=rt.r.eds.length-j/\az=⟨(ovr (jv az) [(6,6,1,[]),(3,10,5,[]),(23,38,0,[vi ((j:Int))]),(0,39,40,[])] t_).toArray,[]⟩/\St w fp [eB tC 27 #[vi rt.r.kind,vi rt.r.xid,vi rt.r.tbl,sn,sn,.slice rt.A rt.r.eds.length rt.c,sn,.string rt.r.note],eSt sb db Sj fpj] W) (rt.r.eds.length-0) ?_ ?_
 exact⟨0,S,fp,Nat.zero_le _,fun S2 er h=>h,hok,hrt,rfl,(by kernel_rfl),ax.pk [1,0]⟩
 rintro vk a23 sE ⟨j,Sj,fpj,hj,hcont,hokj,hrtj,rfl,hj_,cu⟩
 refine ovz hj_ fun Tn=>?_
 refine wsq [.k 39 (.bool (decide ((j:Int)<(rt.r.eds.length:Int))))] ?_
 refine aa (wq (wds (fun QF OY=>?_) fun QF OY=>?_))
 refine wp_skip (aa (wq (wp_block (wq ?_))))
 obtain⟨ep,es,eb,hek⟩:=k9 (l:=rt.r.eds) (k:=j) (by omega)
 have hke:edR (ep,es,eb)=true:=hro.eds _ (List.mem_of_getElem? hek)
 have hez:eb.size<=9223372036854775807:=by have:=dn hke;dsimp only at this;omega
 have hkn:kcI.ok ep:=by have:=(ll hke).1;dsimp only at this;constructor<;>omega
 refine sqr ?_
 refine sql (.pointer (some ((ad rt.A).add (j*3)))) cu (fun cx=>aD (e:=84) (m:=j) (sz:=3) rfl (by kernel_rfl) (by kernel_rfl) (cx.ou 36) (cx.ou 38) (by omega) (by omega) (mn (CtxV.holdF cx (cx.init 1 _ rfl) rfl) hrtj) (bm (sz:=3) bE (by decide) (by omega))) ?_
 refine sql (.agg #[vi ep,vi es,.string eb]) cu (fun cx=>bS (f:=edC) (m:=j) (sz:=3) (off:=0) (n:=3) rfl (by kernel_rfl) (by kernel_rfl) (cx.ou 40) rfl bE (mn (CtxV.holdF cx (cx.init 1 _ rfl) rfl) hrtj) hek (fun k hk=>match k,hk with|0,_=>rfl|1,_=>rfl|2,_=>rfl|k+3,hk=>absurd hk (by omega))) ?_
 refine bW #[vi 0,vi 0,.string ByteArray.empty] cu fun Nf zN dN=>?_
 refine aT (n:=3) 2 #[vi ep,vi es,.string eb] dN fun Jo iB=>?_
 refine aa (wsq [.m 43 0,.k 44 (vp Nf)] ?_)
 refine am 2 iB ?_
 refine xP (fun x_=>tE x_) (fun x_=>tF x_) (fun X_=>X_.fp) (fun er46_33 vp46_33=> .tuple #[vp46_33,vi er46_33]) (fun er46_33 vp46_33 uW=>eSx sb db (fun S2=>LdQ Sj ep S2 er46_33 vp46_33) uW) 1 iB (by
   refine svA fun g b W X cx=>?_
   refine ak.call (rCF (args:=#[vp sb,vi ep]) cx.sees (aN (cx.ou 43) (cx.ou 45))) ?_
   refine(ny sb db Sj ep (c+3*j) _ _ (CtxV.holdF cx (cx.init 1 _ rfl) rfl) (CtxV.ltF cx (cx.init 1 _ rfl) rfl) hokj (by omega) hkn).mono ?_
   rintro e W1 ⟨er4,vp4,rfl,fp4,aM⟩
   refine⟨_,rfl,aI (E:=eSt sb db Sj fpj) [eSx sb db (fun S2=>LdQ Sj ep S2 er4 vp4) fp4] (cx.init 1 _ rfl) rfl rfl aM (fun d i X' hs hb hv hN=>?_)⟩
   have aH:=(hv 46 rfl).1;have aO:=(hv 46 rfl).2
   exact⟨aH.trans (by rw[aO];exact rfl),(by rw[aO];exact eY ((List.cons.inj hN).1))⟩) fun er46_33 vp46_33 uW PO rY=>?_
 refine sqp [.m 42 46,.k 47 (vp46_33),.k 48 (vi er46_33),.m 11 47,.m 12 48] ?_
 refine aa (wq (wq ?_))
 obtain⟨S1,hL,hy39_⟩:=rY.u1.unx
 have hok1:=hokj.load hL.1
 refine sqs [.m 49 12,.k 50 (.bool (er46_33 != 0))] ?_
 refine aa (wbs (fun wC=>?_) fun wC=>?_)
 have OZ:=bne_iff_ne.1 wC
 refine wsq [.m 51 12,.m 6 51] ?_
 refine aa (wp_ret (ai (aY (ai (ai (aY (ai ?_)))))))
 exact bpr (vi er46_33) (ag results61 rpt) (mr.of (.inr ⟨(by simpa using dC),hcont _ _ (by rw[List.drop_eq_getElem_cons (by omega:j<rt.r.eds.length),show rt.r.eds[j]'(by omega)=(ep,es,eb) from(List.getElem?_eq_some_iff.1 hek).2];exact RdE.bad hL.1 (by simpa using wC))⟩) (hy39_.pick [0] (by decide) rfl))
 have OZ:=bne_eq_false_iff_eq.1 wC
 refine wp_skip (aa (wq (wq ?_)))
 have hl0:=Bv hL.1 (by simpa using wC)
 obtain⟨t,htm_t,rfl,rfl⟩:=hL.2 (by simpa using wC)
 obtain⟨⟨hrw1,hrr1⟩,mb1,RA1,rc1,EA1,ec1,ib1,tb1,fpd1,hv45_⟩:=hy39_.unf
 obtain⟨A,B,hAB⟩:=List.append_of_mem htm_t
 have hnd:((A++t::B).map BfT.n).Nodup:=by rw[<-hAB];exact hok1.nodup
 have hri:=hok1.right t htm_t
 rw[hAB] at hv45_
 have ho46_:=St.obf (t:=t) hv45_.u2
 refine sqs [.m 52 11,.k 53 (po t.blk 0),.k 54 (po t.blk 0),.k 55 (po t.blk 1)] ?_
 refine am 1 ho46_ ?_
 refine sqp [.m 57 1,.k 58 (.bool (decide (lsn<t.pg.p.2.1)))] ?_
 refine aa (wds (fun Do O0=>?_) fun Do O0=>?_)
 refine wp_exit (al (bf (aa (sqs [sI 78 ((j:Int)+1) (by omega),.m 38 78] ?_))))
 refine aa ?_
 have hi57_:=St.ibf (t:=t) ho46_
 obtain⟨fp58_,hk58_⟩:=St.stf (S:=S1) (by have h_:=hi57_.u2.u2;rw[<-hAB] at h_;exact h_) (hrw1) (hrr1)
 refine⟨rt.r.eds.length-((j+1)),by omega,?_⟩
 exact⟨(j+1),S1,fp58_,by omega,(fun S2 er h=>hcont S2 er (by rw[List.drop_eq_getElem_cons (by omega:j<rt.r.eds.length),show rt.r.eds[j]'(by omega)=(t.n,es,eb) from(List.getElem?_eq_some_iff.1 hek).2];exact RdE.skip (x:=(t.n,es,eb)) hl0 htm_t rfl (of_decide_eq_true Do) h)),(hok1.mono (by omega)),(by show rt∈S1.rr;rw[hl0.rr];exact hrtj),rfl,(by kernel_rfl),hk58_.pk [1,0]⟩
 refine wp_skip (aa (wq (aB [0,1,3,7,0,0,63,127,255,255,0,1535,4095] [[],[],[],[1],[12],[],[4],[],[],[],[],[14]] [[],[],[],[],[],[],[13],[],[],[],[14],[15]] [[],[],[],[],[],[],[],[],[],[],[],[14]] [.k 60 (po t.blk 0),.k 61 (po t.blk 0),.k 62 (po t.blk 0),.c 63 (.agg #[vi t.pg.p.1,vi t.pg.p.2.1,.slice t.pg.A t.pg.p.2.2.length t.pg.c]),.c 64 (.agg #[vi t.n,vi es,.string eb]),.k 65 (vi lsn),.a 66,.a 59,.a 67,.c 68 (vi ((doE t.pg.p (t.n,es,eb) lsn))),.a 13,.n,.k 14 (vi ((doE t.pg.p (t.n,es,eb) lsn)))] (fun ix d b X=>match ix with|0|1|2|3|4|5=>True|6=>d 66= .tuple #[.agg #[vi ((doR t.pg.p (t.n,es,eb) lsn).1),vi ((doR t.pg.p (t.n,es,eb) lsn).2.1),.slice (sA (tg (tg (b 66) 0) 2)) ((doR t.pg.p (t.n,es,eb) lsn).2.2.length) (sC (tg (tg (b 66) 0) 2))],vi ((doE t.pg.p (t.n,es,eb) lsn))]/\X 13=eO 9 1 (.slice (sA (tg (tg (b 66) 0) 2)) ((doR t.pg.p (t.n,es,eb) lsn).2.2.length) (sC (tg (tg (b 66) 0) 2))) ((doR t.pg.p (t.n,es,eb) lsn).2.2.length) ((doR t.pg.p (t.n,es,eb) lsn).2.2.map Value.string)|7=>d 59= .tuple #[.agg #[vi ((doR t.pg.p (t.n,es,eb) lsn).1),vi ((doR t.pg.p (t.n,es,eb) lsn).2.1),.slice (sA (tg (tg (b 66) 0) 2)) ((doR t.pg.p (t.n,es,eb) lsn).2.2.length) (sC (tg (tg (b 66) 0) 2))],vi ((doE t.pg.p (t.n,es,eb) lsn))]|8=>d 67= .agg #[vi ((doR t.pg.p (t.n,es,eb) lsn).1),vi ((doR t.pg.p (t.n,es,eb) lsn).2.1),.slice (sA (tg (tg (b 66) 0) 2)) ((doR t.pg.p (t.n,es,eb) lsn).2.2.length) (sC (tg (tg (b 66) 0) 2))]|9=>True|10=>d 13=vp (pb (b 13))/\X 14=eB (pb (b 13)) 48 #[vi 0,vi 0,sn]|11=>X 15=eB (pb (b 13)) 48 #[vi ((doR t.pg.p (t.n,es,eb) lsn).1),vi ((doR t.pg.p (t.n,es,eb) lsn).2.1),.slice (sA (tg (tg (b 66) 0) 2)) ((doR t.pg.p (t.n,es,eb) lsn).2.2.length) (sC (tg (tg (b 66) 0) 2))]|_=>True) [0,1,2,3,4,5,6,7,8,9,10,11,12,13,15] [3,4,6,7,8,9,10,11] [(13,10,3,15),(44,7,1,45),(0,0,7,7),(0,8,2,2)] ho46_ ?_ ?_ ?_)))
 exact fun ix _ _ _ _ _ _ hs hb hx h=>match ix,h with
 |6,h=>by dsimp only;rw[<-hs 66 rfl,<-hb 66 rfl,<-hx 13 rfl];exact h
 |7,h=>by dsimp only;rw[<-hs 59 rfl,<-hb 66 rfl];exact h
 |8,h=>by dsimp only;rw[<-hs 67 rfl,<-hb 66 rfl];exact h
 |10,h=>by dsimp only;rw[<-hs 13 rfl,<-hb 13 rfl,<-hx 14 rfl];exact h
 |11,h=>by dsimp only;rw[<-hb 13 rfl,<-hb 66 rfl,<-hx 15 rfl];exact h
 |0,_|1,_|2,_|3,_|4,_|5,_|9,_|_+12,_=>trivial
 refine⟨?_,?_,?_,?_,?_,?_,?_,?_,trivial⟩
 exact xs4 rfl id fun cx=>rLB (n:=3) (cx.an 2) (cx.bi 1 rfl) (nle rfl) rfl
 exact xs4 rfl id fun cx=>rLB (n:=3) (cx.ou 10) (cx.bi 12 rfl) (nle rfl) rfl
 refine svA fun g b W X cx=>?_
 refine ak.call (rCF (args:=#[.agg #[vi t.pg.p.1,vi t.pg.p.2.1,.slice t.pg.A t.pg.p.2.2.length t.pg.c],.agg #[vi t.n,vi es,.string eb],vi lsn]) cx.sees (dH (cx.an 3) (cx.an 4) (cx.an 5))) ?_
 refine(Fp (zA t.pg.p.1 t.pg.p.2.1 _ _ t.pg.p.2.2 t.n es eb lsn _ (iw (CtxV.holdF cx (cx.init 4 _ rfl) rfl) (hrw1 t htm_t)) hri.1 (ef hri.1) hez)).mono ?_
 rintro e W1 ⟨A4,c4,rfl,ho,hx⟩
 refine⟨_,rfl,bK [eO 9 1 (.slice A4 (doR t.pg.p (t.n,es,eb) lsn).2.2.length c4) (doR t.pg.p (t.n,es,eb) lsn).2.2.length ((doR t.pg.p (t.n,es,eb) lsn).2.2.map Value.string)] rfl rfl hx (one_new (cf ho)) (List.pairwise_singleton _ _) (fun d i X' hs hb hv hN=>?_)⟩
 have aH:=(hv 66 rfl).1;have aO:=(hv 66 rfl).2
 exact⟨aH.trans (by rw[aO];exact rfl),(by rw[aO];exact(List.cons.inj hN).1)⟩
 exact sv rfl rfl rfl rfl rfl _ (fun _ _ _ h=>h) (fun b i h=>by rw[h 66 (by decide)]) fun g b W X cx=>cM rfl (dTn (cx.an 6)).1
 exact sv rfl rfl rfl rfl rfl _ (fun _ _ _ h=>h) (fun b i h=>by rw[h 66 (by decide)]) fun g b W X cx=>bH rfl (dTn (cx.an 7)) rfl
 exact xs4 rfl id fun cx=>bH rfl (dTn (cx.an 7)) rfl
 refine svA fun g b W X cx=>?_
 exact dVA (cs:=#[vi 0,vi 0,sn]) rfl rfl rfl (fun _ _ _ _ _=> .intro)
 refine svA fun g b W X cx=>?_
 exact dVS (n:=3) rfl (dTn (cx.an 10)).1 (dTn (cx.an 8)) cx (dTn (cx.an 10)).2 rfl (nle rfl) rfl rfl rfl (fun d i X' hs hb hx=>by rw[hb 13,hb 66];exact hx)
 intro d b X FO hD f6 fr aC
 simp only[exq 13 ((dTn (hD 6 lq)).2),exq 15 ((dTn (hD 11 lq)))] at f6
 simp only[ed 66 ((dTn (hD 6 lq)).1),ed 59 ((dTn (hD 7 lq))),ed 67 ((dTn (hD 8 lq))),ed 13 ((dTn (hD 10 lq)).1)] at aC
 generalize sA (tg (tg (b 66) 0) 2)=fR,sC (tg (tg (b 66) 0) 2)=fS,pb (b 13)=RQ at f6 aC
 clear hD;subst aC;clear d b X
 refine aa (wsq [.m 69 14,.k 70 (.bool ((doE t.pg.p (t.n,es,eb) lsn)==0))] ?_)
 refine aa (wbs (fun m7=>?_) fun m7=>?_)
 have Dp:=beq_iff_eq.1 m7
 have hd0:doE t.pg.p (t.n,es,eb) lsn=0:=by simpa using m7
 refine sqs [.m 71 11,.m 72 11] ?_
 refine bD 14 3 f6 ?_
 refine sqp [.k 74 (po t.blk 0),.k 75 (po t.blk 0)] ?_
 refine aT (n:=3) 1 #[vi ((doR t.pg.p (t.n,es,eb) lsn).1),vi ((doR t.pg.p (t.n,es,eb) lsn).2.1),.slice fR ((doR t.pg.p (t.n,es,eb) lsn).2.2.length) fS,.bool t.dirty,vi t.used] f6 fun B2 f7=>?_
 refine sqp [.k 76 (po t.blk 0),.k 77 (po t.blk 3)] ?_
 refine aT (n:=1) 1 #[vi ((doR t.pg.p (t.n,es,eb) lsn).1),vi ((doR t.pg.p (t.n,es,eb) lsn).2.1),.slice fR ((doR t.pg.p (t.n,es,eb) lsn).2.2.length) fS,.bool true,vi t.used] f7 fun P2 vo=>?_
 refine aq (aa (sqs [sI 78 ((j:Int)+1) (by omega),.m 38 78] ?_))
 refine aa ?_
 have hg74_:=St.apf (r:=(⟨doR t.pg.p (t.n,es,eb) lsn,fR,fS⟩:PgR)) vo.u13.u5
 have hi75_:=St.ibf (t:=(gz (⟨doR t.pg.p (t.n,es,eb) lsn,fR,fS⟩:PgR) t)) hg74_.u2.u2
 obtain⟨fp76_,hk76_⟩:=St.stf (S:={S1 with pool:=dh S1.pool t.n (gz (⟨doR t.pg.p (t.n,es,eb) lsn,fR,fS⟩:PgR)),rows:=S1.rows++[(⟨doR t.pg.p (t.n,es,eb) lsn,fR,fS⟩:PgR)]}) (by have h_:=hi75_.u3.u3;rw[stL,stC];dsimp only;rw[hAB,ku hnd,oq (A:=A) (B:=B) (t:=t) (u:=gz (⟨doR t.pg.p (t.n,es,eb) lsn,fR,fS⟩:PgR) t) rfl rfl,show (A++gz (⟨doR t.pg.p (t.n,es,eb) lsn,fR,fS⟩:PgR) t::B).length=(A++t::B).length by simp];exact h_) (by show ∀u∈dh S1.pool t.n (gz (⟨doR t.pg.p (t.n,es,eb) lsn,fR,fS⟩:PgR)),u.pg∈S1.rows++[(⟨doR t.pg.p (t.n,es,eb) lsn,fR,fS⟩:PgR)];rw[hAB,ku hnd];exact fun u hu=>(List.mem_append.1 hu).elim (fun h=>List.mem_append_left _ (hrw1 u (by rw[hAB];simp[h]))) fun h=>(List.mem_cons.1 h).elim (fun h=>by rw[h];exact List.mem_append_right _ (List.mem_singleton.2 rfl)) fun h=>List.mem_append_left _ (hrw1 u (by rw[hAB];simp[h]))) (hrr1)
 refine⟨rt.r.eds.length-((j+1)),by omega,?_⟩
 exact⟨(j+1),{S1 with pool:=dh S1.pool t.n (gz (⟨doR t.pg.p (t.n,es,eb) lsn,fR,fS⟩:PgR)),rows:=S1.rows++[(⟨doR t.pg.p (t.n,es,eb) lsn,fR,fS⟩:PgR)]},fp76_,by omega,(fun S2 er h=>hcont S2 er (by rw[List.drop_eq_getElem_cons (by omega:j<rt.r.eds.length),show rt.r.eds[j]'(by omega)=(t.n,es,eb) from(List.getElem?_eq_some_iff.1 hek).2];exact RdE.good (x:=(t.n,es,eb)) (pg:=(⟨doR t.pg.p (t.n,es,eb) lsn,fR,fS⟩:PgR)) hl0 htm_t rfl (of_decide_eq_false Do) hd0 (rK hd0) h)),((hok1.setR (n:=t.n) (pg:=(⟨doR t.pg.p (t.n,es,eb) lsn,fR,fS⟩:PgR)) (by rw[show ((⟨doR t.pg.p (t.n,es,eb) lsn,fR,fS⟩:PgR)).p= _ from rK hd0];exact kC hd0)).mono (by omega)),(by show rt∈S1.rr;rw[hl0.rr];exact hrtj),rfl,(by kernel_rfl),hk76_.pk [1,0]⟩
 have Dp:=beq_eq_false_iff_ne.1 m7
 refine wp_skip (aq (aa (sqs [sI 78 ((j:Int)+1) (by omega),.m 38 78] ?_)))
 refine aa ?_
 have hi79_:=St.ibf (t:=t) f6
 obtain⟨fp80_,hk80_⟩:=St.stf (S:=S1) (by have h_:=hi79_.u2.u2;rw[<-hAB] at h_;exact h_) (hrw1) (hrr1)
 refine⟨rt.r.eds.length-((j+1)),by omega,?_⟩
 exact⟨(j+1),S1,fp80_,by omega,(fun S2 er h=>hcont S2 er (by rw[List.drop_eq_getElem_cons (by omega:j<rt.r.eds.length),show rt.r.eds[j]'(by omega)=(t.n,es,eb) from(List.getElem?_eq_some_iff.1 hek).2];exact RdE.fail (x:=(t.n,es,eb)) hl0 htm_t rfl (of_decide_eq_false Do) (by simpa using m7) h)),(hok1.mono (by omega)),(by show rt∈S1.rr;rw[hl0.rr];exact hrtj),rfl,(by kernel_rfl),hk80_.pk [1,0]⟩
 refine wp_exit (al (al (bf (aa (wsq [.k 6 (vi 0)] ?_)))))
 exact aa (wp_ret (bpr (vi 0) (ag results61 rpt) (mr.of (.inr ⟨(by simpa using dC),hcont _ _ (by rw[List.drop_of_length_le (by omega)];exact RdE.nil _)⟩) (cu.pick [1] (by decide) rfl))))
end
section
open Go.RowKit
def nV(sb db:Nat)(S:StM)(mb:Nat)(RA:Option Addr)(rc:Nat)(EA:Option Addr)(ec ib tb:Nat)(fpd fp:List Nat):Ent:=⟨fp,fun W=>((∀t∈S.pool,t.pg∈S.rows)/\∀t∈S.recs,t∈S.rr)/\fp=(stL sb db S mb RA rc EA ec ib tb fpd).flatMap (·.fp)/\(stL sb db S mb RA rc EA ec ib tb fpd).Pairwise Ent.apart/\∀e∈stL sb db S mb RA rc EA ec ib tb fpd,e.holds W/\e.loc⟩
theorem vU(h:(nV sb db S mb RA rc EA ec ib tb fpd fp).holds W):(eSt sb db S fp).holds W:=⟨h.1,mb,RA,rc,EA,ec,ib,tb,fpd,h.2⟩
theorem Ic(sb db:Nat)(S:StM)(mb:Nat)(RA:Option Addr)(rc:Nat)(EA:Option Addr)(ec ib tb:Nat)(fpd fp:List Nat):(nV sb db S mb RA rc EA ec ib tb fpd fp).loc:=fun W W' hk h=>by
 obtain⟨h0,h1,h2,h3⟩:=h
 exact⟨h0,h1,h2,fun e he=>⟨(h3 e he).2 W W' (fun k hk'=>hk k (by rw[nV,h1];exact List.mem_flatMap.2 ⟨e,he,hk'⟩)) (h3 e he).1,(h3 e he).2⟩⟩
theorem St.toA{L:List Ent}(h:St w0 bor (L++[eSt sb db S fp]) W):∃mb RA rc EA ec ib tb fpd,St w0 bor (L++[nV sb db S mb RA rc EA ec ib tb fpd fp]) W:=by
 obtain⟨h0,mb,RA,rc,EA,ec,ib,tb,fpd,h1⟩:=(h.ok (eSt sb db S fp) (by simp)).holds
 exact⟨mb,RA,rc,EA,ec,ib,tb,fpd,St.repl (L2:=[]) h rfl (fun _=>⟨h0,h1⟩) (Ic _ _ _ _ _ _ _ _ _ _ _ _)⟩
theorem St.ofA{L:List Ent}(h:St w0 bor (L++[nV sb db S mb RA rc EA ec ib tb fpd fp]) W):St w0 bor (L++[eSt sb db S fp]) W:=St.repl (L2:=[]) h rfl vU (dx _ _ _ _)
theorem k7(h:(nV sb db S mb RA rc EA ec ib tb fpd fp).holds W):StO W sb db S mb RA rc EA ec ib tb:=Ed fun e he=>(h.2.2.2 e he).1
def scL(L:List RecM)(Ps:List RcT)(LA:Option Addr)(lc:Nat)(EA:Option Addr)(ec:Nat):List Ent:=[eO 27 8 (.slice LA L.length lc) L.length (Ps.flatMap rcC),eO 3 1 (.slice EA L.length ec) L.length ((cL L L.length).map (Value.int .i64)),eRc Ps]
def eSc(L:List RecM)(LA:Option Addr)(lc:Nat)(EA:Option Addr)(ec:Nat)(fp:List Nat):Ent:=⟨fp,fun W=>∃Ps,Ps.map RcT.r=L/\fp=(scL L Ps LA lc EA ec).flatMap (·.fp)/\(scL L Ps LA lc EA ec).Pairwise Ent.apart/\∀e∈scL L Ps LA lc EA ec,e.holds W/\e.loc⟩
theorem Kx(L:List RecM)(LA:Option Addr)(lc:Nat)(EA:Option Addr)(ec:Nat)(fp:List Nat):(eSc L LA lc EA ec fp).loc:=fun W W' hk h=>by
 obtain⟨Ps,h0,h1,h2,h3⟩:=h
 exact⟨Ps,h0,h1,h2,fun e he=>⟨(h3 e he).2 W W' (fun k hk'=>hk k (by rw[eSc,h1];exact List.mem_flatMap.2 ⟨e,he,hk'⟩)) (h3 e he).1,(h3 e he).2⟩⟩
theorem GB{e:Ent}(h:e=eSc L LA lc EA ec fp):e=eSc L LA lc EA ec e.fp:=by subst h;rfl
theorem St.sc{Ps:List RcT}(h:St w0 bor (L0++scL L Ps LA lc EA ec) W)(hp:Ps.map RcT.r=L):∃fp,St w0 bor (L0++[eSc L LA lc EA ec fp]) W:=by
 refine⟨_,St.pack (E:=eSc L LA lc EA ec ((scL L Ps LA lc EA ec).flatMap (·.fp))) h rfl ⟨Ps,hp,rfl,(List.pairwise_append.1 h.apart).2.1,fun e he=>?_⟩ (Kx _ _ _ _ _ _)⟩
 have h3:=h.ok e (List.mem_append_right _ he)
 exact⟨h3.holds,h3.loc⟩
theorem St.unsc(h:St w0 bor (L0++[eSc L LA lc EA ec fp]) W):∃Ps,Ps.map RcT.r=L/\St w0 bor (L0++scL L Ps LA lc EA ec) W:=by
 obtain⟨Ps,h0,h1,h2,h3⟩:=(h.ok (eSc L LA lc EA ec fp) (by simp)).holds
 exact⟨Ps,h0,h.unpackL h1 h3 h2⟩
theorem St.unscf(h:St w0 bor (eSc L LA lc EA ec fp::L0) W):∃Ps,Ps.map RcT.r=L/\St w0 bor (eO 27 8 (.slice LA L.length lc) L.length (Ps.flatMap rcC)::eO 3 1 (.slice EA L.length ec) L.length ((cL L L.length).map (Value.int .i64))::eRc Ps::L0) W:=by
 obtain⟨Ps,h1,h2⟩:=St.unsc (h.perm (List.perm_append_singleton _ _).symm)
 exact⟨Ps,h1,h2.perm List.perm_append_comm⟩
theorem It{w:World}(h:Calls P_ f args w (Fq L w)):Calls P_ f args w (fun e w'=>∃LA lc EA ec fp,e= .returned (.tuple #[.slice LA L.length lc,.slice EA L.length ec])/\St w [] [eSc L LA lc EA ec fp] w'):=by
 refine h.mono fun e w' h=>?_
 obtain⟨LA,lc,EA,ec,Ps,h1,h2,h3⟩:=h
 obtain⟨fp,h4⟩:=St.sc (L0:=[]) h3 h1
 exact⟨LA,lc,EA,ec,fp,h2,h4⟩
theorem St.dkOf{L:List Ent}(h:St w0 bor (L++[eSt sb db S fp]) W):∃fpd,St w0 bor (L++[eDk db S.D fpd]) W:=by
 obtain⟨_,mb,RA,rc,EA,ec,ib,tb,fpd,h1⟩:=h.unst
 have h2:St w0 bor ((L++[eDk db S.D fpd])++[eB sb 109 (stC db S mb RA rc EA ec ib tb),eMx kcI ptX P_ 3 mb S.pool.length (atM S.pool),eA (S.pool.map fx),eM (S.rows.map dw),eO 27 8 (.slice RA S.recs.length rc) S.recs.length (S.recs.flatMap rcC),eO 3 1 (.slice EA S.recs.length ec) S.recs.length ((cL S.L S.recs.length).map (Value.int .i64)),eRc S.rr,eMx kcI ecB P_ 3 ib S.ni S.im,eMx kcI ecB P_ 3 tb S.nt S.told]) W:=h1.perm (by
  rw[List.append_assoc]
  refine List.Perm.append_left L ?_
  exact List.perm_append_comm (l₁:=[_,_,_,_,_,_,_,_,_]) (l₂:=[_]))
 exact⟨fpd,⟨h2.upd,fun e he=>h2.ok e (List.mem_append_left _ he),(List.pairwise_append.1 h2.apart).1⟩⟩
inductive RdL:Nat->StM->List RecM->StM->Int->Prop where
 |nil (k:Nat) (S:StM):RdL k S [] S 0
 |bad {k:Nat}{S S1:StM}{r:RecM}{l:List RecM}{er:Int}(h:RdR S ((k:Int)+1) r S1 er) (he:er≠0):RdL k S (r::l) S1 er
 |cons {k:Nat}{S S1 S2:StM}{r:RecM}{l:List RecM}{er:Int}(h:RdR S ((k:Int)+1) r S1 0) (hr:RdL (k+1) S1 l S2 er):RdL k S (r::l) S2 er
def fN(D:DkM)(L:List RecM):DkM×Int:=if szF L<D.log.size then opD D (ctE D (szF L)) (ctD (szF L)) else (D,0)
def iI(D:DkM)(bufs:Int)(rs:List RcT)(frm:Int):StM:=⟨D,bufs,[],0,rs,0,fun _=>none,0,fun _=>none,frm,[],rs⟩
inductive OpnR (D:DkM) (bufs:Int) (L:List RecM):(StM ⊕ DkM)->Int->Prop where
 |bufs (h:¬(1<=bufs/\bufs<=64)):OpnR D bufs L (.inr D) 30
 |off (h:1<=bufs/\bufs<=64) (ho:D.off=true):OpnR D bufs L (.inr D) 24
 |form (h:1<=bufs/\bufs<=64) (ho:D.off=false) (hf:be L=0):OpnR D bufs L (.inr D) 11
 |cut (h:1<=bufs/\bufs<=64) (ho:D.off=false) (hf:be L≠0) (hc:(fN D L).2≠0):OpnR D bufs L (.inr (fN D L).1) (fN D L).2
 |bad (h:1<=bufs/\bufs<=64) (ho:D.off=false) (hf:be L≠0) (hc:(fN D L).2=0) (rs:List RcT) (hrs:rs.map RcT.r=L){S:StM}{er:Int}(hr:RdL (be L) (iI (fN D L).1 bufs rs (be L)) (L.drop (be L)) S er) (he:er≠0):OpnR D bufs L (.inr S.D) er
 |ok (h:1<=bufs/\bufs<=64) (ho:D.off=false) (hf:be L≠0) (hc:(fN D L).2=0) (rs:List RcT) (hrs:rs.map RcT.r=L){S:StM}(hr:RdL (be L) (iI (fN D L).1 bufs rs (be L)) (L.drop (be L)) S 0):OpnR D bufs L (.inl S) 0
def opP(sb:Nat):(StM ⊕ DkM)->Value
 | .inl _=> .pointer (some ⟨sb,0,none⟩)
 | .inr _=> .pointer none
def eOp(sb db:Nat)(R:StM ⊕ DkM)(fp:List Nat):Ent:=match R with
 | .inl S=>eSt sb db S fp
 | .inr D=>eDk db D fp
theorem L3(sb db:Nat)(R:StM ⊕ DkM)(fp:List Nat):(eOp sb db R fp).fp=fp:=by cases R<;>rfl
theorem KB(sb db:Nat)(R:StM ⊕ DkM)(fp:List Nat):(eOp sb db R fp).loc:=by
 cases R with
 |inl S=>exact dx _ _ _ _
 |inr D=>exact dm _ _ _
def eOx(db:Nat)(D:DkM)(bufs:Int)(L:List RecM)(v:Value)(er:Int)(fp:List Nat):Ent:=⟨fp,fun W=>∃sb R,OpnR D bufs L R er/\v=opP sb R/\(eOp sb db R fp).holds W⟩
theorem BM(db:Nat)(D:DkM)(bufs:Int)(L:List RecM)(v:Value)(er:Int)(fp:List Nat):(eOx db D bufs L v er fp).loc:=fun W W' hk h=>by
 obtain⟨sb,R,h1,h2,h3⟩:=h
 exact⟨sb,R,h1,h2,KB sb db R fp W W' (fun k hk'=>hk k (by rw[L3] at hk';exact hk')) h3⟩
def fH(db:Nat)(D:DkM)(bufs:Int)(L:List RecM)(fp:List Nat)(w:World)(e:Ending)(w':World):Prop:=∃v er,e= .returned (.tuple #[v,.int .i64 er])/\∃fp',St w fp [eOx db D bufs L v er fp'] w'
theorem fH.st{bufs:Int}{w:World}(h:OpnR D bufs L (.inl S) er)(hs:St w fp ([]++[eSt sb db S fp']) w'):fH db D bufs L fp w (.returned (.tuple #[po sb 0,.int .i64 er])) w':=
 ⟨_,er,rfl,fp',St.repl (L1:=[]) (L2:=[]) (E':=eOx db D bufs L (po sb 0) er fp') hs rfl (fun h1=>⟨sb,.inl S,h,rfl,h1⟩) (BM _ _ _ _ _ _ _)⟩
theorem fH.dk{D':DkM}{bufs:Int}{w:World}(h:OpnR D bufs L (.inr D') er)(hs:St w fp ([]++[eDk db D' fp']) w'):fH db D bufs L fp w (.returned (.tuple #[.pointer none,.int .i64 er])) w':=
 ⟨_,er,rfl,fp',St.repl (L1:=[]) (L2:=[]) (E':=eOx db D bufs L (.pointer none) er fp') hs rfl (fun h1=>⟨0,.inr D',h,rfl,h1⟩) (BM _ _ _ _ _ _ _)⟩
theorem tX(h:L[j]? =some r):be (L.take (j+1))=if r.kind=9 then j+1 else be (L.take j):=by
 obtain⟨hj,rfl⟩:=List.getElem?_eq_some_iff.1 h
 rw[List.take_succ_eq_append_getElem hj,fc,List.length_take,Nat.min_eq_left (by omega)]
theorem o7(L:List RecM):be L<=L.length:=by
 induction L using oS with
 |h0=>exact Nat.le_refl _
 |hs L r ih=>
  rw[fc,List.length_append,List.length_singleton]
  split<;>omega
theorem SOk.opn{D:DkM}{bufs:Int}{rs:List RcT}{frm:Int}(hb:1<=bufs/\bufs<=64)(hp:D.pgs.length<=400)(hw:∀x∈D.pgs,x.ws.length<=c)(hr:∀r∈rs.map RcT.r,bt r=true)(hl:D.log=dZ (rs.map RcT.r))(hz:D.log.size<=1048576)(hf:D.fl<=D.log.size):SOk (iI D bufs rs frm) c:=
 ⟨hb,hp,hw,⟨Int.le_refl _,Int.natCast_nonneg _⟩,Nat.zero_le _,Nat.zero_le _,(fun t ht=>by cases ht),List.nodup_nil,by show ((0:Nat):Int)<=bufs;omega,(fun t ht=>by cases ht),hr,hl,hz,hf,fun t ht=>by cases ht⟩
theorem Bj{tl:ByteArray}(hl:D.log=dZ L++tl)(hf:D.fl<=D.log.size)(h0:(fN D L).2=0):(fN D L).1.log=dZ L/\(fN D L).1.pgs=D.pgs/\(fN D L).1.fl=min D.fl (szF L)/\(fN D L).1.armed=D.armed/\(fN D L).1.off=D.off:=by
 have hz:D.log.size=szF L+tl.size:=by rw[hl,ByteArray.size_append,cj]
 unfold fN at h0 |-
 split
 rename_i h1
 rw[if_pos h1] at h0
 obtain⟨h2,h3,h4⟩:=mL h0
 rw[h4]
 refine⟨?_,rfl,rfl,rfl,rfl⟩
 show D.log.extract 0 (szF L)=dZ L
 rw[hl]
 apply go
 rw[eh,cN,List.drop_zero,Nat.sub_zero,List.take_left' (by rw[bO,cj])]
 rename_i h1
 have h2:tl.size=0:=by omega
 have h3:tl=⟨#[]⟩:=go (List.eq_nil_of_length_eq_zero (by rw[bO];exact h2))
 refine⟨?_,rfl,?_,rfl,rfl⟩
 show D.log=dZ L
 rw[hl,h3,jW]
 show D.fl=min D.fl (szF L)
 omega
end
section
open Go.RowKit
theorem FB{n:Nat}(h:L.length=n+1):(cL L L.length)[n]? =some (szF L:Int):=by
 rw[cL,List.getElem?_map,List.getElem?_range (by omega)]
 rw[Option.map_some,<-h,List.take_length]
theorem yT(h:RdR S lsn r S2 er)(h0:er=0):RdR S lsn r S2 0:=h0 ▸ h
theorem wT(db:Nat)(D:DkM)(bufs:Int)(L:List RecM)(tl:ByteArray)(c:Nat)(fp:List Nat)(w:World)(hB:(eDk db D fp).holds w)(hlt:∀k∈fp,k<w.heap.size)(hlog:D.log=dZ L++tl)(hL:∀r∈L,bt r=true)(hta:uv D.log (szF L))(hz6:D.log.size<=1048576)(hfz:D.fl<=D.log.size)(hpg:D.pgs.length<=400)(hws:∀x∈D.pgs,x.ws.length<=c)(hc:c+200*L.length<=900000)(h8:∀r∈L,r.kind=8->r.note.size=512):
  Calls P_ 18 #[po db 0,.int .i64 bufs] w (fH db D bufs L fp w):=by
 have st1:St w fp [eDk db D fp] w:=St.lend hB (dm _ _ _) hlt
 go_enter func18,ntmps18
 have aj:=st1
 refine wsq [.k 4 (.pointer none),.k 5 (vi 0)] ?_
 refine aa (wq (wsq [.m 13 1,.k 14 (.bool (decide (bufs<1))),.m 15 14] ?_))
 refine sqw 15 [16,17] rfl (fun _=>sqp [.m 16 1,.k 17 (.bool (decide (64<bufs)))] sqe) ?_
 refine sqp [sPo 18 (decide (bufs<1)) (decide (64<bufs))] ?_
 refine aa (wbs (fun p6=>?_) fun p6=>?_)
 have q6:=p6
 simp only[zB] at q6
 refine wsq [.k 4 (.pointer none),.k 5 (vi 30)] ?_
 refine aa (wp_ret (ai ?_))
 exact bpr (.tuple #[.pointer none,vi 30]) (aL results18 rpt rpt) (fH.dk (.bufs (by have h_:=p6;simp at h_;omega)) (aj.pick [0] (by decide) rfl))
 have q6:=p6
 simp only[zB] at q6
 obtain⟨SQ,SR⟩:=q6
 refine wp_skip (aa (wq (wq ?_)))
 obtain⟨onv,hon⟩:∃z,(!D.off)=z:=⟨_,rfl⟩
 have hbb:1<=bufs/\bufs<=64:=by have h_:=p6;simp at h_;omega
 refine sqs [.m 19 0] ?_
 refine sqk (.bool onv) aj (fun cx=>⟨_,rP hon (mj db D _ (eP (CtxV.holdF cx (cx.init 0 _ rfl) rfl))),(av (cx.ou 19))⟩) fun FL fZ=>?_
 refine sqp [.k 21 (.bool (!(onv)))] ?_
 refine aa ?_
 rcases Bool.eq_false_or_eq_true (onv) with dF|dF
 refine wp_cond_false (show Act.eval _ _= .bool false from(congrArg Value.bool (by rw[dF];rfl))) (wp_skip (aa (wsq [.m 22 0,.m 23 1] ?_)))
 refine d9 (fun x_=>pbx x_) (fun iK=> .map (some iK)) (fun iK=>eMx kcI ptX P_ 3 iK 0 (fun _=>none)) fZ (by
   refine svA fun g b W X cx=>?_
   exact ln rfl rfl rfl rfl (fun _ _ _ _ _=> .intro)) fun iK MY nI=>?_
 refine d9 (fun x_=>pbx x_) (fun iL=> .map (some iL)) (fun iL=>eMx kcI ecB P_ 3 iL 0 (fun _=>none)) nI (by
   refine svA fun g b W X cx=>?_
   exact ln rfl rfl rfl rfl (fun _ _ _ _ _=> .intro)) fun iL qV cU=>?_
 refine d9 (fun x_=>pbx x_) (fun iM=> .map (some iM)) (fun iM=>eMx kcI ecB P_ 3 iM 0 (fun _=>none)) cU (by
   refine svA fun g b W X cx=>?_
   exact ln rfl rfl rfl rfl (fun _ _ _ _ _=> .intro)) fun iM M7 ki=>?_
 refine sqp [.k 27 (.agg #[vp db,vi bufs,.map (some iK),vi 0,sn,sn,.map (some iL),.map (some iM),vi 0])] ?_
 refine bX #[vp db,vi bufs,.map (some iK),vi 0,sn,sn,.map (some iL),.map (some iM),vi 0] ki fun bv uZ dv=>?_
 refine sqp [.m 6 28] ?_
 refine aa (wq (aB [0,0,0,4,12,28,60,60,125,381,893,2047,4095,8191] [[],[],[],[0],[],[],[],[],[],[],[4],[],[],[6]] [[],[],[],[],[5],[],[],[],[],[],[6],[],[],[7]] [[],[],[],[],[],[],[],[],[],[],[4],[],[],[6]] [.k 30 (vp bv),.k 31 (vp bv),.k 32 (vp db),.c 33 (.string D.log),.a 34,.a 29,.a 35,.a 36,.k 37 (vp bv),.k 38 (po bv 4),.n,.k 39 (vp bv),.k 40 (po bv 5),.n] (fun ix d b X=>match ix with|0|1|2|3=>True|4=>d 34= .tuple #[.slice (sA (tg (b 34) 0)) L.length (sC (tg (b 34) 0)),.slice (sA (tg (b 34) 1)) L.length (sC (tg (b 34) 1))]/\X 5=eSc L (sA (tg (b 34) 0)) (sC (tg (b 34) 0)) (sA (tg (b 34) 1)) (sC (tg (b 34) 1)) ((X 5).fp)|5=>d 29= .tuple #[.slice (sA (tg (b 34) 0)) L.length (sC (tg (b 34) 0)),.slice (sA (tg (b 34) 1)) L.length (sC (tg (b 34) 1))]|6=>d 35= .slice (sA (tg (b 34) 0)) L.length (sC (tg (b 34) 0))|7=>d 36= .slice (sA (tg (b 34) 1)) L.length (sC (tg (b 34) 1))|8|9=>True|10=>X 6=eB bv 109 #[vp db,vi bufs,.map (some iK),vi 0,.slice (sA (tg (b 34) 0)) L.length (sC (tg (b 34) 0)),sn,.map (some iL),.map (some iM),vi 0]|11|12=>True|13=>X 7=eB bv 109 #[vp db,vi bufs,.map (some iK),vi 0,.slice (sA (tg (b 34) 0)) L.length (sC (tg (b 34) 0)),.slice (sA (tg (b 34) 1)) L.length (sC (tg (b 34) 1)),.map (some iL),.map (some iM),vi 0]|_=>True) [0,1,2,3,5,7] [3,4,5,6,7,10,13] [(29,5,1,30),(0,0,5,5),(0,6,7,6)] dv ?_ ?_ ?_))
 exact fun ix _ _ _ _ _ _ hs hb hx h=>match ix,h with
 |4,h=>by dsimp only;rw[<-hs 34 rfl,<-hb 34 rfl,<-hx 5 rfl];exact h
 |5,h=>by dsimp only;rw[<-hs 29 rfl,<-hb 34 rfl];exact h
 |6,h=>by dsimp only;rw[<-hs 35 rfl,<-hb 34 rfl];exact h
 |7,h=>by dsimp only;rw[<-hs 36 rfl,<-hb 34 rfl];exact h
 |10,h=>by dsimp only;rw[<-hb 34 rfl,<-hx 6 rfl];exact h
 |13,h=>by dsimp only;rw[<-hb 34 rfl,<-hx 7 rfl];exact h
 |0,_|1,_|2,_|3,_|8,_|9,_|11,_|12,_|_+14,_=>trivial
 refine⟨?_,?_,?_,?_,?_,?_,?_,trivial⟩
 exact xsc rfl id rfl rfl fun cx=>⟨_,ks db D _ (eP (CtxV.holdF cx (cx.init 0 _ rfl) rfl)),(av (cx.an 2))⟩
 refine svA fun g b W X cx=>?_
 refine ak.call (rCF (args:=#[.string D.log]) cx.sees (av (cx.an 3))) ?_
 refine(It (ET D.log tl L _ hlog hL hta (by omega))).mono ?_
 rintro e W1 ⟨LA4,lc4,EA4,ec4,fp4,rfl,aM⟩
 refine⟨_,rfl,vV [eSc L LA4 lc4 EA4 ec4 fp4] rfl rfl aM (fun d i X' hs hb hv hN=>?_)⟩
 have aH:=(hv 34 rfl).1;have aO:=(hv 34 rfl).2
 exact⟨aH.trans (by rw[aO];rfl),(by rw[aO];exact GB ((List.cons.inj hN).1))⟩
 exact sv rfl rfl rfl rfl rfl _ (fun _ _ _ h=>h) (fun b i h=>by rw[h 34 (by decide)]) fun g b W X cx=>cM rfl (dTn (cx.an 4)).1
 exact sv rfl rfl rfl rfl rfl _ (fun _ _ _ h=>h) (fun b i h=>by rw[h 34 (by decide)]) fun g b W X cx=>bH rfl (dTn (cx.an 5)) rfl
 exact sv rfl rfl rfl rfl rfl _ (fun _ _ _ h=>h) (fun b i h=>by rw[h 34 (by decide)]) fun g b W X cx=>bH rfl (dTn (cx.an 5)) rfl
 refine svA fun g b W X cx=>?_
 exact dVS (n:=1) rfl (cx.an 9) (dTn (cx.an 6)) cx (cx.init 4 _ rfl) rfl (nle rfl) rfl rfl rfl (fun d i X' hs hb hx=>by rw[hb 34];exact hx)
 refine svA fun g b W X cx=>?_
 exact dVS (n:=1) rfl (cx.an 12) (dTn (cx.an 7)) cx (dTn (cx.an 10)) rfl (nle rfl) rfl rfl rfl (fun d i X' hs hb hx=>by rw[hb 34];exact hx)
 intro d b X uV hD et fr aC
 obtain⟨LA34_24,pN⟩:∃z,sA (tg (b 34) 0)=z:=⟨_,rfl⟩
 obtain⟨lc34_24,pO⟩:∃z,sC (tg (b 34) 0)=z:=⟨_,rfl⟩
 obtain⟨EA34_24,pP⟩:∃z,sA (tg (b 34) 1)=z:=⟨_,rfl⟩
 obtain⟨ec34_24,pQ⟩:∃z,sC (tg (b 34) 1)=z:=⟨_,rfl⟩
 have zY:X 5= _:=(dTn (hD 4 lq)).2
 obtain⟨SS,zZ⟩:∃z,(X 5).fp=z:=⟨_,rfl⟩
 rw[zZ] at zY
 clear zZ
 simp only[zY,exq 7 ((dTn (hD 13 lq))),pN,pO,pP,pQ] at et
 simp only[ed 34 ((dTn (hD 4 lq)).1),ed 29 ((dTn (hD 5 lq))),ed 35 ((dTn (hD 6 lq))),ed 36 ((dTn (hD 7 lq))),pN,pO,pP,pQ] at aC
 clear hD zY pN pO pP pQ;subst aC;clear d b X
 refine aa (wq (wq ?_))
 obtain⟨rs,hrs,ht25_⟩:=et.u4.unscf
 have hrl:rs.length=L.length:=by rw[<-hrs,List.length_map]
 refine sqs [.m 41 6,.k 42 (vp bv),.k 43 (po bv 4)] ?_
 refine am 7 ht25_ ?_
 refine sqp [.k 45 (vi ((L.length:Int))),.k 46 (vi 0)] ?_
 refine aa (wp_block ?_)
 refine aQ (fun t_ mz az W=>∃j:Nat,j<=L.length/\mz=L.length-j/\az=⟨(ovr (jv az) [(7,7,2,[]),(37,46,0,[vi ((j:Int))]),(0,47,13,[])] t_).toArray,[]⟩/\St w fp [eO 27 8 (.slice LA34_24 L.length lc34_24) L.length (rs.flatMap rcC),eO 3 1 (.slice EA34_24 L.length ec34_24) L.length ((cL L L.length).map (Value.int .i64)),eRc rs,eDk db D fp,eMx kcI ptX P_ 3 iK 0 (fun _=>none),eMx kcI ecB P_ 3 iL 0 (fun _=>none),eMx kcI ecB P_ 3 iM 0 (fun _=>none),eB bv 109 #[vp db,vi bufs,.map (some iK),vi 0,.slice LA34_24 L.length lc34_24,.slice EA34_24 L.length ec34_24,.map (some iL),.map (some iM),vi ((be (L.take j):Int))]] W) (L.length-0) ?_ ?_
 exact⟨0,Nat.zero_le _,rfl,(by kernel_rfl),ht25_.pk [0,1,2,3,4,5,6,7]⟩
 rintro PP a32 zK ⟨j,hj,rfl,hj_,dc⟩
 refine ovz hj_ fun IF=>?_
 refine wsq [.k 47 (.bool (decide ((j:Int)<(L.length:Int))))] ?_
 refine aa (wq (wds (fun kH pD=>?_) fun kH pD=>?_))
 refine wp_skip (aa (wq (wp_block (wq ?_))))
 obtain⟨rt,hrt⟩:∃rt,rs[j]? =some rt:=⟨_,List.getElem?_eq_getElem (by omega)⟩
 have hlj:L[j]? =some rt.r:=by rw[<-hrs,List.getElem?_map,hrt];rfl
 refine sqs [.m 48 46] ?_
 refine sql (.pointer (some ((ad LA34_24).add (j*8)))) dc (fun cx=>aD (e:=27) (m:=j) (sz:=8) rfl (by kernel_rfl) (by kernel_rfl) (cx.ou 44) (cx.ou 46) (by omega) (by omega) (At.of_ownN (cx.ri 0 rfl)) (bm (sz:=8) cG (by decide) (by omega))) ?_
 refine sql (.agg #[vi rt.r.kind,vi rt.r.xid,vi rt.r.tbl,sn,sn,.slice rt.A rt.r.eds.length rt.c,sn,.string rt.r.note]) dc (fun cx=>bS (f:=rcC) (m:=j) (sz:=8) (off:=0) (n:=8) rfl (by kernel_rfl) (by kernel_rfl) (cx.ou 49) rfl cG (At.of_ownN (cx.ri 0 rfl)) hrt (fun k hk=>match k,hk with|0,_=>rfl|1,_=>rfl|2,_=>rfl|3,_=>rfl|4,_=>rfl|5,_=>rfl|6,_=>rfl|7,_=>rfl|k+8,hk=>absurd hk (by omega))) ?_
 refine bW #[vi 0,vi 0,vi 0,sn,sn,sn,sn,.string ByteArray.empty] dc fun O1 FP iC=>?_
 refine sqp [.m 7 48] ?_
 refine aT (n:=8) 8 #[vi rt.r.kind,vi rt.r.xid,vi rt.r.tbl,sn,sn,.slice rt.A rt.r.eds.length rt.c,sn,.string rt.r.note] iC fun xC d7=>?_
 refine aa (wsq [.k 51 (vp O1)] ?_)
 refine am 8 d7 ?_
 refine sqp [.k 53 (.bool (rt.r.kind==9))] ?_
 refine aa (wbs (fun z6=>?_) fun z6=>?_)
 have O2:=beq_iff_eq.1 z6
 refine sqs [.m 54 6,.m 55 7,sI 56 ((j:Int)+1) (by omega),.k 57 (vp bv),.k 58 (po bv 8)] ?_
 refine aT (n:=1) 7 #[vp db,vi bufs,.map (some iK),vi 0,.slice LA34_24 L.length lc34_24,.slice EA34_24 L.length ec34_24,.map (some iL),.map (some iM),vi ((j:Int)+1)] d7 fun MZ mc=>?_
 refine aq (aa (sqs [sI 59 ((j:Int)+1) (by omega),.m 46 59] ?_))
 refine aa ?_
 have hft:be (L.take (j+1))=j+1:=by rw[tX hlj,if_pos (by simpa using z6)]
 rw[show ((j:Int)+1)=((be (L.take (j+1)):Nat):Int) by rw[hft];omega] at mc
 refine⟨L.length-((j+1)),by omega,?_⟩
 exact⟨(j+1),by omega,rfl,(by kernel_rfl),mc.pk [0,1,2,3,4,5,6,7]⟩
 have O2:=beq_eq_false_iff_ne.1 z6
 refine wp_skip (aq (aa (sqs [sI 59 ((j:Int)+1) (by omega),.m 46 59] ?_)))
 refine aa ?_
 have hft:be (L.take (j+1))=be (L.take j):=by rw[tX hlj,if_neg (by simpa using z6)]
 rw[<-hft] at d7
 refine⟨L.length-((j+1)),by omega,?_⟩
 exact⟨(j+1),by omega,rfl,(by kernel_rfl),d7.pk [0,1,2,3,4,5,6,7]⟩
 refine wp_exit (al (al (bf (aa (wq (wq ?_))))))
 obtain rfl:j=L.length:=by omega
 rw[List.take_length] at dc
 refine sqs [.m 60 6,.k 61 (vp bv),.k 62 (po bv 8)] ?_
 refine am 7 dc ?_
 refine sqp [.k 64 (.bool ((be L:Int)==0))] ?_
 refine aa (wbs (fun m7=>?_) fun m7=>?_)
 have Dp:=beq_iff_eq.1 m7
 refine wsq [.k 4 (.pointer none),.k 5 (vi 11)] ?_
 refine aa (wp_ret (ai ?_))
 exact bpr (.tuple #[.pointer none,vi 11]) (aL results18 rpt rpt) (fH.dk (.form hbb (by have h_:=hon.trans dF;simpa using h_) (by have h_:=m7;simp at h_;omega)) (dc.pick [3] (by decide) rfl))
 have Dp:=beq_eq_false_iff_ne.1 m7
 refine wp_skip (aa (wq (wq ?_)))
 have hf0:be L≠0:=by have h_:=m7;simp at h_;omega
 have hfl:=o7 L
 obtain⟨nl,hnl⟩:∃n,L.length=n+1:=⟨L.length-1,by omega⟩
 refine bG [0,1,3,7,0,16,48,112,240,496,1023,2047,4095] [[],[],[],[7],[],[],[],[7],[],[],[1],[1]] [.k 65 (vp bv),.k 66 (vp bv),.k 67 (po bv 5),.c 68 (.slice EA34_24 L.length ec34_24),.k 69 (vp bv),.k 70 (vp bv),.k 71 (po bv 5),.c 72 (.slice EA34_24 L.length ec34_24),.k 73 (vi ((L.length:Int))),tJ 74 ((L.length:Int)-1) (nl:Int) (by omega) (by omega),.c 75 (.pointer (some ((ad EA34_24).add nl))),.c 76 (vi ((szF L:Int))),.k 9 (vi ((szF L:Int)))] [0,1,2,3,4,5,6,7] [3,7,10,11] [(9,12,1,10),(55,0,12,67)] dc ?_ fun PX r6=>?_
 refine⟨?_,?_,?_,?_,trivial⟩
 exact xs4 rfl id fun cx=>rL1 (cx.an 2) ((cx.bi 7 rfl).cell 5)
 exact xs4 rfl id fun cx=>rL1 (cx.an 6) ((cx.bi 7 rfl).cell 5)
 exact xs4 rfl id fun cx=>bz (e:=3) (m:=nl) rfl (by kernel_rfl) (by kernel_rfl) (cx.an 3) (cx.an 9) (by omega) (by omega) (At.of_own (cx.ri 1 rfl)) (by rw[List.length_map,kw]<;>omega)
 exact xs4 rfl id fun cx=>ce rfl (by kernel_rfl) (cx.an 10) (At.cellAd (At.of_own (cx.ri 1 rfl)) ((List.getElem?_map ..).trans (by rw[FB hnl];rfl)))
 refine aa (wsq [.m 77 9,.m 78 0] ?_)
 refine sqk (.string D.log) r6 (fun cx=>⟨_,ks db D _ (eP (CtxV.holdF cx (cx.init 3 _ rfl) rfl)),(av (cx.ou 78))⟩) fun B2 f7=>?_
 refine sqp [.k 80 (vi ((D.log.size:Int))),.k 81 (.bool (decide ((szF L:Int)<(D.log.size:Int))))] ?_
 refine aa (wds (fun oe O3=>?_) fun oe O3=>?_)
 refine wsq [.m 82 0,.m 83 9] ?_
 refine bF (fun X_=>X_.fp) (vi ((opD D (ctE D (szF L)) (ctD (szF L))).2)) (fun Jz=>eDk db ((opD D (ctE D (szF L)) (ctD (szF L))).1) Jz) 3 f7 (by
   refine svA fun g b W X cx=>?_
   refine ak.call (rCF (args:=#[vp db,vi ((szF L:Int))]) cx.sees (aN (cx.ou 82) (cx.ou 83))) ?_
   refine(GK db D (szF L:Int) _ _ (CtxV.holdF cx (cx.init 3 _ rfl) rfl) (CtxV.ltF cx (cx.init 3 _ rfl) rfl) (by omega)).mono ?_
   rintro e W1 ⟨rfl,fp4,aM⟩
   refine⟨_,rfl,aI (E:=eDk db D fp) [eDk db (opD D (ctE D (szF L)) (ctD (szF L))).1 fp4] (cx.init 3 _ rfl) rfl rfl aM (fun d i X' hs hb hv hN=>?_)⟩
   have aH:=(hv 84 rfl).1;have aO:=(hv 84 rfl).2
   exact⟨aH.trans rfl,cF ((List.cons.inj hN).1)⟩) fun Jz Jr gZ=>?_
 refine sqp [.m 10 84] ?_
 refine aa (wsq [.m 85 10,.k 86 (.bool (((opD D (ctE D (szF L)) (ctD (szF L))).2) != 0))] ?_)
 refine aa (wbs (fun z7=>?_) fun z7=>?_)
 have O4:=bne_iff_ne.1 z7
 refine wsq [.m 87 10,.k 4 (.pointer none),.m 5 87] ?_
 refine aa (wp_ret (ai ?_))
 refine bpr (.tuple #[.pointer none,vi ((opD D (ctE D (szF L)) (ctD (szF L))).2)]) (aL results18 rpt rpt) ?_
 have hop:fN D L=opD D (ctE D (szF L)) (ctD (szF L)):=if_pos (by have h_:=of_decide_eq_true oe;omega)
 exact fH.dk (by have h_:=OpnR.cut (L:=L) hbb (by have h_:=hon.trans dF;simpa using h_) hf0 (by rw[hop];simpa using z7);rw[hop] at h_;exact h_) (gZ.pick [3] (by decide) rfl)
 have O4:=bne_eq_false_iff_eq.1 z7
 refine wp_skip (aa (wq (wq ?_)))
 have hop:fN D L=opD D (ctE D (szF L)) (ctD (szF L)):=if_pos (by have h_:=of_decide_eq_true oe;omega)
 have hc0:(fN D L).2=0:=by rw[hop];simpa using z7
 obtain⟨D1,hD1⟩:∃z,(fN D L).1=z:=⟨_,rfl⟩
 rw[<-hop,hD1] at gZ
 have hdk:=Bj hlog hfz hc0
 rw[hD1] at hdk
 have hok0:SOk (iI D1 bufs rs (be L)) c:=SOk.opn hbb (by rw[hdk.2.1];exact hpg) (by rw[hdk.2.1];exact hws) (by rw[hrs];exact hL) (by rw[hrs];exact hdk.1) (by rw[hdk.1,cj];have h_:=congrArg ByteArray.size hlog;rw[ByteArray.size_append,cj] at h_;omega) (by rw[hdk.2.2.1,hdk.1,cj];omega)
 have hn82_:=(gZ.nM dw).nA fx
 refine sqs [.m 88 6,.k 89 (vp bv),.k 90 (po bv 8)] ?_
 refine am 9 hn82_ ?_
 refine sqp [.m 11 91] ?_
 refine aa (wp_block ?_)
 obtain⟨fp88_,hk88_⟩:=St.stf (S:=iI D1 bufs rs (be L)) (by have h_:=hn82_.u8.u8.u6.u6.u6.u6.u6.u8.u9;rw[stL,stC,StM.L,show (iI D1 bufs rs (be L)).recs.map RcT.r=L from hrs,show (iI D1 bufs rs (be L)).recs.length=L.length from hrl];exact h_) (fun t ht=>by cases ht) (fun t ht=>ht)
 refine aQ (fun t_ mz az W=>∃j:Nat,∃Sj:StM,∃fpj:List Nat,j<=L.length/\(∀S2 er,RdL j Sj (L.drop j) S2 er->RdL (be L) (iI D1 bufs rs (be L)) (L.drop (be L)) S2 er)/\SOk Sj (c+200*j)/\Sj.recs=rs/\Sj.rr=rs/\mz=L.length-j/\az=⟨(ovr (jv az) [(4,4,2,[]),(5,11,0,[vi ((j:Int))]),(0,12,1,[]),(79,92,23,[])] t_).toArray,[]⟩/\St w fp [eSt bv db Sj fpj] W) (L.length-((be L))) ?_ ?_
 exact⟨(be L),(iI D1 bufs rs (be L)),fp88_,hfl,fun S2 er h=>h,hok0.mono (by omega),rfl,rfl,rfl,(by kernel_rfl),hk88_.pk [0]⟩
 rintro UL a89 M8 ⟨j,Sj,fpj,hj,hcont,hokj,hrj,hrrj,rfl,hj_,me⟩
 refine ovz hj_ fun To=>?_
 refine wq (wq ?_)
 obtain⟨mb90_,RA90_,rc90_,EA90_,ec90_,ib90_,tb90_,fpd90_,ha90_⟩:=St.toA (L:=[]) (me.pick [0] (by decide) rfl)
 have hb90_:St w fp [nV bv db Sj mb90_ RA90_ rc90_ EA90_ ec90_ ib90_ tb90_ fpd90_ fpj] M8:=ha90_
 have hrjl:Sj.recs.length=L.length:=by rw[hrj,hrl]
 have hcj:200*j<=200*L.length:=by omega
 refine sqs [.m 92 11,.m 93 6,.k 94 (vp bv),.k 95 (po bv 4)] ?_
 refine sql (.slice RA90_ Sj.recs.length rc90_) hb90_ (fun cx=>rL1 (cx.ou 95) ((k7 (CtxV.holdF cx (cx.init 0 _ rfl) rfl)).blkL.cell 4)) ?_
 refine sqp [.k 97 (vi ((Sj.recs.length:Int))),.k 98 (.bool (decide ((j:Int)<(Sj.recs.length:Int))))] ?_
 refine aa (wds (fun QG O5=>?_) fun QG O5=>?_)
 refine wp_skip (aa (wq (wp_block (wq ?_))))
 have hjl:j<L.length:=by omega
 obtain⟨rt,hrt⟩:∃rt,rs[j]? =some rt:=⟨_,List.getElem?_eq_getElem (by omega)⟩
 have hrt2:Sj.recs[j]? =some rt:=by rw[hrj];exact hrt
 have hlj:L[j]? =some rt.r:=by rw[<-hrs,List.getElem?_map,hrt];rfl
 have hrm:rt∈Sj.rr:=by rw[hrrj];exact List.mem_of_getElem? hrt
 have hlm:=List.mem_of_getElem? hlj
 refine sqs [.m 101 6,.m 102 11,sI 103 ((j:Int)+1) (by omega),.m 104 6,.k 105 (vp bv),.k 106 (po bv 4)] ?_
 refine sql (.slice RA90_ Sj.recs.length rc90_) hb90_ (fun cx=>rL1 (cx.ou 106) ((k7 (CtxV.holdF cx (cx.init 0 _ rfl) rfl)).blkL.cell 4)) ?_
 refine sqp [.m 108 11] ?_
 refine sql (.pointer (some ((ad RA90_).add (j*8)))) hb90_ (fun cx=>aD (e:=27) (m:=j) (sz:=8) rfl (by kernel_rfl) (by kernel_rfl) (cx.ou 107) (cx.ou 108) (by omega) (by omega) (k7 (CtxV.holdF cx (cx.init 0 _ rfl) rfl)).recs (bm (sz:=8) cG (by decide) (by omega))) ?_
 refine sql (.agg #[vi rt.r.kind,vi rt.r.xid,vi rt.r.tbl,sn,sn,.slice rt.A rt.r.eds.length rt.c,sn,.string rt.r.note]) hb90_ (fun cx=>bS (f:=rcC) (m:=j) (sz:=8) (off:=0) (n:=8) rfl (by kernel_rfl) (by kernel_rfl) (cx.ou 109) rfl cG (k7 (CtxV.holdF cx (cx.init 0 _ rfl) rfl)).recs hrt2 (fun k hk=>match k,hk with|0,_=>rfl|1,_=>rfl|2,_=>rfl|3,_=>rfl|4,_=>rfl|5,_=>rfl|6,_=>rfl|7,_=>rfl|k+8,hk=>absurd hk (by omega))) ?_
 refine nv (fun x_=>tZ x_) (fun X_=>X_.fp) (fun er111_109=>vi er111_109) (fun er111_109 z8=>eSx bv db (fun S2=>RdR Sj ((j:Int)+1) rt.r S2 er111_109) z8) 0 hb90_ (by
   refine svA fun g b W X cx=>?_
   refine ak.call (rCF (args:=#[vp bv,vi ((j:Int)+1),.agg #[vi rt.r.kind,vi rt.r.xid,vi rt.r.tbl,sn,sn,.slice rt.A rt.r.eds.length rt.c,sn,.string rt.r.note]]) cx.sees (dH (cx.ou 101) (cx.ou 103) (cx.ou 110))) ?_
   refine(xa bv db Sj ((j:Int)+1) rt (c+200*j) _ _ (vU (CtxV.holdF cx (cx.init 0 _ rfl) rfl)) (CtxV.ltF cx (cx.init 0 _ rfl) rfl) hokj (by omega) (hL _ hlm) hrm (h8 _ hlm)).mono ?_
   rintro e W1 ⟨er4,rfl,fp4,aM⟩
   refine⟨_,rfl,aI (E:=nV bv db Sj mb90_ RA90_ rc90_ EA90_ ec90_ ib90_ tb90_ fpd90_ fpj) [eSx bv db (fun S2=>RdR Sj ((j:Int)+1) rt.r S2 er4) fp4] (cx.init 0 _ rfl) rfl rfl aM (fun d i X' hs hb hv hN=>?_)⟩
   have aH:=(hv 111 rfl).1;have aO:=(hv 111 rfl).2
   exact⟨aH.trans (by rw[aO];exact rfl),(by rw[aO];exact eY ((List.cons.inj hN).1))⟩) fun er111_109 z8 Ng q8=>?_
 refine sqp [.m 12 111] ?_
 refine aa (wq ?_)
 obtain⟨S1,hR,hy111_⟩:=q8.unx
 have hrd_:=hR.ok hokj (hL _ hlm)
 refine sqs [.m 112 12,.k 113 (.bool (er111_109 != 0))] ?_
 refine aa (wbs (fun r7=>?_) fun r7=>?_)
 have Nh:=bne_iff_ne.1 r7
 refine wsq [.m 114 12,.k 4 (.pointer none),.m 5 114] ?_
 refine aa (wp_ret (aY (ai (ai (aY (ai ?_))))))
 refine bpr (.tuple #[.pointer none,vi er111_109]) (aL results18 rpt rpt) ?_
 obtain⟨fpz,hz118_⟩:=St.dkOf (L:=[]) (hy111_.pick [0] (by decide) rfl)
 exact fH.dk (.bad hbb (by have h_:=hon.trans dF;simpa using h_) hf0 hc0 rs hrs (by rw[hD1];exact hcont _ _ (by rw[List.drop_eq_getElem_cons hjl,show L[j]'hjl=rt.r from(List.getElem?_eq_some_iff.1 hlj).2];exact RdL.bad hR (by simpa using r7))) (by simpa using r7)) hz118_
 have Nh:=bne_eq_false_iff_eq.1 r7
 refine wp_skip (aq (aa (sqs [.m 99 11,sI 100 ((j:Int)+1) (by omega),.m 11 100] ?_)))
 refine aa ?_
 refine⟨L.length-((j+1)),by omega,?_⟩
 exact⟨(j+1),S1,z8,by omega,(fun S2 er h=>hcont S2 er (by rw[List.drop_eq_getElem_cons (by omega:j<L.length),show L[j]'(by omega)=rt.r from(List.getElem?_eq_some_iff.1 hlj).2];exact RdL.cons (yT hR (by simpa using r7)) h)),(hrd_.1.mono (by omega)),hrd_.2.2.1.trans hrj,hrd_.2.1.trans hrrj,rfl,(by kernel_rfl),hy111_.pk [0]⟩
 refine wp_exit (al (al (bf (aa (wsq [.m 115 6,.m 4 115,.k 5 (vi 0)] ?_)))))
 exact aa (wp_ret (bpr (.tuple #[vp bv,vi 0]) (aL results18 rpt rpt) (fH.st (.ok hbb (by have h_:=hon.trans dF;simpa using h_) hf0 hc0 rs hrs (by rw[hD1];exact hcont _ _ (by rw[List.drop_of_length_le (by omega)];exact RdL.nil _ _))) (St.ofA (L:=[]) (hb90_.pick [0] (by decide) rfl)))))
 refine wp_skip (aa (wq (wq ?_)))
 have hop:fN D L=(D,0):=if_neg (by have h_:=of_decide_eq_false oe;omega)
 have hc0:(fN D L).2=0:=by rw[hop]
 obtain⟨D1,hD1⟩:∃z,(fN D L).1=z:=⟨_,rfl⟩
 have hD2:D=D1:=by rw[<-hD1,hop]
 rw[show eDk db D=eDk db D1 by rw[hD2]] at f7
 have hdk:=Bj hlog hfz hc0
 rw[hD1] at hdk
 have hok0:SOk (iI D1 bufs rs (be L)) c:=SOk.opn hbb (by rw[hdk.2.1];exact hpg) (by rw[hdk.2.1];exact hws) (by rw[hrs];exact hL) (by rw[hrs];exact hdk.1) (by rw[hdk.1,cj];have h_:=congrArg ByteArray.size hlog;rw[ByteArray.size_append,cj] at h_;omega) (by rw[hdk.2.2.1,hdk.1,cj];omega)
 have hn125_:=(f7.nM dw).nA fx
 refine sqs [.m 88 6,.k 89 (vp bv),.k 90 (po bv 8)] ?_
 refine am 9 hn125_ ?_
 refine sqp [.m 11 91] ?_
 refine aa (wp_block ?_)
 obtain⟨fp131_,hk131_⟩:=St.stf (S:=iI D1 bufs rs (be L)) (by have h_:=hn125_.u8.u8.u6.u6.u6.u6.u6.u8.u9;rw[stL,stC,StM.L,show (iI D1 bufs rs (be L)).recs.map RcT.r=L from hrs,show (iI D1 bufs rs (be L)).recs.length=L.length from hrl];exact h_) (fun t ht=>by cases ht) (fun t ht=>ht)
 refine aQ (fun t_ mz az W=>∃j:Nat,∃Sj:StM,∃fpj:List Nat,j<=L.length/\(∀S2 er,RdL j Sj (L.drop j) S2 er->RdL (be L) (iI D1 bufs rs (be L)) (L.drop (be L)) S2 er)/\SOk Sj (c+200*j)/\Sj.recs=rs/\Sj.rr=rs/\mz=L.length-j/\az=⟨(ovr (jv az) [(4,4,2,[]),(5,11,0,[vi ((j:Int))]),(0,12,1,[]),(79,92,23,[])] t_).toArray,[]⟩/\St w fp [eSt bv db Sj fpj] W) (L.length-((be L))) ?_ ?_
 exact⟨(be L),(iI D1 bufs rs (be L)),fp131_,hfl,fun S2 er h=>h,hok0.mono (by omega),rfl,rfl,rfl,(by kernel_rfl),hk131_.pk [0]⟩
 rintro Tp a132 QH ⟨j,Sj,fpj,hj,hcont,hokj,hrj,hrrj,rfl,hj_,Ni⟩
 refine ovz hj_ fun ST=>?_
 refine wq (wq ?_)
 obtain⟨mb133_,RA133_,rc133_,EA133_,ec133_,ib133_,tb133_,fpd133_,ha133_⟩:=St.toA (L:=[]) (Ni.pick [0] (by decide) rfl)
 have hb133_:St w fp [nV bv db Sj mb133_ RA133_ rc133_ EA133_ ec133_ ib133_ tb133_ fpd133_ fpj] QH:=ha133_
 have hrjl:Sj.recs.length=L.length:=by rw[hrj,hrl]
 have hcj:200*j<=200*L.length:=by omega
 refine sqs [.m 92 11,.m 93 6,.k 94 (vp bv),.k 95 (po bv 4)] ?_
 refine sql (.slice RA133_ Sj.recs.length rc133_) hb133_ (fun cx=>rL1 (cx.ou 95) ((k7 (CtxV.holdF cx (cx.init 0 _ rfl) rfl)).blkL.cell 4)) ?_
 refine sqp [.k 97 (vi ((Sj.recs.length:Int))),.k 98 (.bool (decide ((j:Int)<(Sj.recs.length:Int))))] ?_
 refine aa (wds (fun O6 Nj=>?_) fun O6 Nj=>?_)
 refine wp_skip (aa (wq (wp_block (wq ?_))))
 have hjl:j<L.length:=by omega
 obtain⟨rt,hrt⟩:∃rt,rs[j]? =some rt:=⟨_,List.getElem?_eq_getElem (by omega)⟩
 have hrt2:Sj.recs[j]? =some rt:=by rw[hrj];exact hrt
 have hlj:L[j]? =some rt.r:=by rw[<-hrs,List.getElem?_map,hrt];rfl
 have hrm:rt∈Sj.rr:=by rw[hrrj];exact List.mem_of_getElem? hrt
 have hlm:=List.mem_of_getElem? hlj
 refine sqs [.m 101 6,.m 102 11,sI 103 ((j:Int)+1) (by omega),.m 104 6,.k 105 (vp bv),.k 106 (po bv 4)] ?_
 refine sql (.slice RA133_ Sj.recs.length rc133_) hb133_ (fun cx=>rL1 (cx.ou 106) ((k7 (CtxV.holdF cx (cx.init 0 _ rfl) rfl)).blkL.cell 4)) ?_
 refine sqp [.m 108 11] ?_
 refine sql (.pointer (some ((ad RA133_).add (j*8)))) hb133_ (fun cx=>aD (e:=27) (m:=j) (sz:=8) rfl (by kernel_rfl) (by kernel_rfl) (cx.ou 107) (cx.ou 108) (by omega) (by omega) (k7 (CtxV.holdF cx (cx.init 0 _ rfl) rfl)).recs (bm (sz:=8) cG (by decide) (by omega))) ?_
 refine sql (.agg #[vi rt.r.kind,vi rt.r.xid,vi rt.r.tbl,sn,sn,.slice rt.A rt.r.eds.length rt.c,sn,.string rt.r.note]) hb133_ (fun cx=>bS (f:=rcC) (m:=j) (sz:=8) (off:=0) (n:=8) rfl (by kernel_rfl) (by kernel_rfl) (cx.ou 109) rfl cG (k7 (CtxV.holdF cx (cx.init 0 _ rfl) rfl)).recs hrt2 (fun k hk=>match k,hk with|0,_=>rfl|1,_=>rfl|2,_=>rfl|3,_=>rfl|4,_=>rfl|5,_=>rfl|6,_=>rfl|7,_=>rfl|k+8,hk=>absurd hk (by omega))) ?_
 refine nv (fun x_=>tZ x_) (fun X_=>X_.fp) (fun er111_152=>vi er111_152) (fun er111_152 Aa=>eSx bv db (fun S2=>RdR Sj ((j:Int)+1) rt.r S2 er111_152) Aa) 0 hb133_ (by
   refine svA fun g b W X cx=>?_
   refine ak.call (rCF (args:=#[vp bv,vi ((j:Int)+1),.agg #[vi rt.r.kind,vi rt.r.xid,vi rt.r.tbl,sn,sn,.slice rt.A rt.r.eds.length rt.c,sn,.string rt.r.note]]) cx.sees (dH (cx.ou 101) (cx.ou 103) (cx.ou 110))) ?_
   refine(xa bv db Sj ((j:Int)+1) rt (c+200*j) _ _ (vU (CtxV.holdF cx (cx.init 0 _ rfl) rfl)) (CtxV.ltF cx (cx.init 0 _ rfl) rfl) hokj (by omega) (hL _ hlm) hrm (h8 _ hlm)).mono ?_
   rintro e W1 ⟨er4,rfl,fp4,aM⟩
   refine⟨_,rfl,aI (E:=nV bv db Sj mb133_ RA133_ rc133_ EA133_ ec133_ ib133_ tb133_ fpd133_ fpj) [eSx bv db (fun S2=>RdR Sj ((j:Int)+1) rt.r S2 er4) fp4] (cx.init 0 _ rfl) rfl rfl aM (fun d i X' hs hb hv hN=>?_)⟩
   have aH:=(hv 111 rfl).1;have aO:=(hv 111 rfl).2
   exact⟨aH.trans (by rw[aO];exact rfl),(by rw[aO];exact eY ((List.cons.inj hN).1))⟩) fun er111_152 Aa QI vt=>?_
 refine sqp [.m 12 111] ?_
 refine aa (wq ?_)
 obtain⟨S1,hR,hy154_⟩:=vt.unx
 have hrd_:=hR.ok hokj (hL _ hlm)
 refine sqs [.m 112 12,.k 113 (.bool (er111_152 != 0))] ?_
 refine aa (wbs (fun r8=>?_) fun r8=>?_)
 have Nk:=bne_iff_ne.1 r8
 refine wsq [.m 114 12,.k 4 (.pointer none),.m 5 114] ?_
 refine aa (wp_ret (aY (ai (ai (aY (ai ?_))))))
 refine bpr (.tuple #[.pointer none,vi er111_152]) (aL results18 rpt rpt) ?_
 obtain⟨fpz,hz161_⟩:=St.dkOf (L:=[]) (hy154_.pick [0] (by decide) rfl)
 exact fH.dk (.bad hbb (by have h_:=hon.trans dF;simpa using h_) hf0 hc0 rs hrs (by rw[hD1];exact hcont _ _ (by rw[List.drop_eq_getElem_cons hjl,show L[j]'hjl=rt.r from(List.getElem?_eq_some_iff.1 hlj).2];exact RdL.bad hR (by simpa using r8))) (by simpa using r8)) hz161_
 have Nk:=bne_eq_false_iff_eq.1 r8
 refine wp_skip (aq (aa (sqs [.m 99 11,sI 100 ((j:Int)+1) (by omega),.m 11 100] ?_)))
 refine aa ?_
 refine⟨L.length-((j+1)),by omega,?_⟩
 exact⟨(j+1),S1,Aa,by omega,(fun S2 er h=>hcont S2 er (by rw[List.drop_eq_getElem_cons (by omega:j<L.length),show L[j]'(by omega)=rt.r from(List.getElem?_eq_some_iff.1 hlj).2];exact RdL.cons (yT hR (by simpa using r8)) h)),(hrd_.1.mono (by omega)),hrd_.2.2.1.trans hrj,hrd_.2.1.trans hrrj,rfl,(by kernel_rfl),hy154_.pk [0]⟩
 refine wp_exit (al (al (bf (aa (wsq [.m 115 6,.m 4 115,.k 5 (vi 0)] ?_)))))
 exact aa (wp_ret (bpr (.tuple #[vp bv,vi 0]) (aL results18 rpt rpt) (fH.st (.ok hbb (by have h_:=hon.trans dF;simpa using h_) hf0 hc0 rs hrs (by rw[hD1];exact hcont _ _ (by rw[List.drop_of_length_le (by omega)];exact RdL.nil _ _))) (St.ofA (L:=[]) (hb133_.pick [0] (by decide) rfl)))))
 refine wp_cond_true (show Act.eval _ _= .bool true from(congrArg Value.bool (by rw[dF];rfl))) (wsq [.k 4 (.pointer none),.k 5 (vi 24)] ?_)
 refine aa (wp_ret (ai ?_))
 exact bpr (.tuple #[.pointer none,vi 24]) (aL results18 rpt rpt) (fH.dk (.off hbb (by have h_:=hon.trans dF;simpa using h_)) (fZ.pick [0] (by decide) rfl))
end
section
open Go.RowKit
def au(note:ByteArray):RecM:=⟨9,0,0,[],note⟩
theorem dz{note:ByteArray}(h:note.size<=60000):bt (au note)=true:=by
 have:decide ((note.size:Int)<=60000)=true:=decide_eq_true (by omega)
 show (inB 9 1 10&&(inB 0 0 127&&(inB 0 0 65535&&(decide ((([]:List EdT).length:Int)<=64)&&((([]:List EdT).all edR)&&decide ((note.size:Int)<=60000))))))=true
 rw[this];decide
def fmR(D:DkM)(note:ByteArray):DkM×Int:=opD D (apE D (aA (au note))) (apD (aA (au note)))
def vS(D:DkM)(note:ByteArray):DkM×Int:=if 0<D.log.size\/60000<note.size then (D,1) else if (fmR D note).2≠0 then fmR D note else opD (fmR D note).1 0 flD
theorem PaQ.ok{n:Int}{ok:Bool}(h:PaQ S n S2 ok)(hc:SOk S c):SOk S2 (c+3):=by
 obtain⟨er,h1,_⟩:=h
 exact hc.load h1
theorem PaQ.ev{n:Int}{ok:Bool}(h:PaQ S n S2 ok)(hc:SOk S c):Ev S S2/\(ok=false->S2.D.off=true\/¬(0<=n/\n<(S.D.pgs.length:Int)))/\(ok=true->0<=n/\n<(S.D.pgs.length:Int)):=by
 obtain⟨er,h1,h2⟩:=h
 obtain⟨a,b,d⟩:=Ev.load hc h1
 refine⟨a,fun h=>b ?_,fun h=>(d ?_).1⟩
 rw[h] at h2;simpa using h2.symm
 rw[h] at h2;simpa using h2.symm
def eK(S:StM)(n:Int)(b:Bool):StM:={S with nt:=mzP S.told n S.nt,told:=cd S.told n (some b)}
theorem SOk.told(h:SOk S c)(n:Int)(b:Bool):SOk (eK S n b) (c+1):=⟨h.bufs,h.pgs,fun x hx=>Nat.le_succ_of_le (h.ws x hx),⟨h.time.1,by have:=h.time.2;show S.time<= _;omega⟩,Nat.le_succ_of_le h.ni,by have h1:=qv S.told n S.nt;have:=h.nt;show mzP S.told n S.nt<=c+1;omega,h.right,h.nodup,h.len,h.keys,h.recs,h.log,h.lsz,h.fl,h.cl⟩
inductive FrR:StM->Nat->StM->Int->Prop where
 |stop {S:StM}{n:Nat}(h:S.D.pgs.length<=n):FrR S n S (-1)
 |told {S S2:StM}{n:Nat}{r:Int}(h:n<S.D.pgs.length) (ht:(S.told (n:Int)).getD false=true) (hr:FrR S (n+1) S2 r):FrR S n S2 r
 |no {S S1 S2:StM}{n:Nat}{r:Int}{ok:Bool}(h:n<S.D.pgs.length) (ht:(S.told (n:Int)).getD false=false) (hp:PaQ S (n:Int) S1 ok) (hk:¬(ok=true/\(aF S (n:Int)).1=0)) (hr:FrR S1 (n+1) S2 r):FrR S n S2 r
 |yes {S S1:StM}{n:Nat}(h:n<S.D.pgs.length) (ht:(S.told (n:Int)).getD false=false) (hp:PaQ S (n:Int) S1 true) (hk:(aF S (n:Int)).1=0):FrR S n (eK S1 (n:Int) true) (n:Int)
def qh(sb db:Nat)(S:StM)(fp:List Nat)(w:World)(e:Ending)(w':World):Prop:=∃r,e= .returned (.int .i64 r)/\∃fp',St w fp [eSx sb db (fun S2=>FrR S 0 S2 r) fp'] w'
theorem qh.of{r:Int}{w:World}(h:FrR S 0 S2 r)(hs:St w fp ([]++[eSt sb db S2 fp']) w'):qh sb db S fp w (.returned (.int .i64 r)) w':=⟨r,rfl,fp',St.sx (L:=[]) hs h⟩
theorem Bf(db:Nat)(D:DkM)(note:ByteArray)(fp:List Nat)(w:World)(hB:(eDk db D fp).holds w)(hlt:∀k∈fp,k<w.heap.size)(hlz:D.log.size<=9000000)(hns:note.size<=9000000):
  Calls P_ 20 #[po db 0,.string note] w (bT db (vS D note) fp w):=by
 have st1:St w fp [eDk db D fp] w:=St.lend hB (dm _ _ _) hlt
 go_enter func20,ntmps20
 have aj:=st1
 refine wsq [.k 4 (vi 0)] ?_
 refine aa (wq (wsq [.m 6 0] ?_))
 refine sqk (.string D.log) aj (fun cx=>⟨_,ks db D _ (eP (CtxV.holdF cx (cx.init 0 _ rfl) rfl)),(av (cx.ou 6))⟩) fun W3 aU=>?_
 refine sqp [.k 8 (vi ((D.log.size:Int))),.k 9 (.bool (decide (0<(D.log.size:Int)))),.m 10 9] ?_
 refine sqw 10 [11,12,13] rfl (fun _=>sqp [.m 11 1,.k 12 (vi ((note.size:Int))),.k 13 (.bool (decide (60000<(note.size:Int))))] sqe) ?_
 refine sqp [sPo 14 (decide (0<(D.log.size:Int))) (decide (60000<(note.size:Int)))] ?_
 refine aa (wbs (fun dq=>?_) fun dq=>?_)
 have g0:=dq
 simp only[zB] at g0
 refine wsq [.k 4 (vi 1)] ?_
 refine aa (wp_ret (ai ?_))
 exact bpr (vi 1) (ag results20 rpt) (bT.of (R':=(D,1)) (by rw[vS,if_pos (by have h_:=dq;simp at h_;omega)]) (aU.pick [0] (by decide) rfl))
 have g0:=dq
 simp only[zB] at g0
 obtain⟨Nl,Nm⟩:=g0
 refine wp_skip (aa (wq (wq ?_)))
 have hn6:note.size<=60000:=by have h_:=dq;simp at h_;omega
 have hfs:=eV (dz hn6)
 refine sqs [.m 15 0,.m 16 1,.k 17 (.agg #[vi 9,vi 0,vi 0,sn,sn,sn,sn,.string note])] ?_
 refine sqk (.string (aA (au note))) aU (fun cx=>⟨_,j9 9 0 0 none 0 [] note _ (fun j u h=>by cases j<;>cases h) (by decide) (fun e he=>by cases he) (by omega),(av (cx.ou 17))⟩) fun p5 dl=>?_
 refine bF (fun X_=>X_.fp) (vi ((fmR D note).2)) (fun r9=>eDk db ((fmR D note).1) r9) 0 dl (by
   refine svA fun d g W X cx=>?_
   refine ak.call (rCF (args:=#[vp db,.string (aA (au note))]) cx.sees (aN (cx.ou 15) (cx.ou 18))) ?_
   refine(sw db D (aA (au note)) _ _ (CtxV.holdF cx (cx.init 0 _ rfl) rfl) (CtxV.ltF cx (cx.init 0 _ rfl) rfl) (by omega) (by omega)).mono ?_
   rintro e W1 ⟨rfl,fp4,aM⟩
   refine⟨_,rfl,aI (E:=eDk db D fp) [eDk db (fmR D note).1 fp4] (cx.init 0 _ rfl) rfl rfl aM (fun b a X' hs hb hv hN=>?_)⟩
   have aH:=(hv 19 rfl).1;have aO:=(hv 19 rfl).2
   exact⟨aH.trans rfl,cF ((List.cons.inj hN).1)⟩) fun r9 qT dt=>?_
 refine sqp [.m 5 19] ?_
 refine aa (wsq [.m 20 5,.k 21 (.bool (((fmR D note).2) != 0))] ?_)
 refine aa (wbs (fun Ab=>?_) fun Ab=>?_)
 have O7:=bne_iff_ne.1 Ab
 refine wsq [.m 22 5,.m 4 22] ?_
 refine aa (wp_ret (ai ?_))
 exact bpr (vi ((fmR D note).2)) (ag results20 rpt) (bT.of (R':=fmR D note) (by rw[vS,if_neg (by have h_:=dq;simp at h_;omega),if_pos (by simpa using Ab)]) (dt.pick [0] (by decide) rfl))
 have O7:=bne_eq_false_iff_eq.1 Ab
 refine wp_skip (aa (wq ?_))
 have hlz2:(fmR D note).1.log.size<=10000000:=by
  unfold fmR;refine c5 (P:=fun D'=>D'.log.size<=10000000) (Nat.le_trans hlz (by decide)) (Nat.le_trans hlz (by decide)) fun _=>?_
  show (D.log++ _).size<= _
  rw[ByteArray.size_append];omega
 refine sqs [.m 23 0] ?_
 refine bF (fun X_=>X_.fp) (vi ((opD (fmR D note).1 0 flD).2)) (fun JA=>eDk db ((opD (fmR D note).1 0 flD).1) JA) 0 dt (by
   refine svA fun d g W X cx=>?_
   refine ak.call (rCF (args:=#[vp db]) cx.sees (av (cx.ou 23))) ?_
   refine(lS db (fmR D note).1 _ _ (CtxV.holdF cx (cx.init 0 _ rfl) rfl) (CtxV.ltF cx (cx.init 0 _ rfl) rfl) hlz2).mono ?_
   rintro e W1 ⟨rfl,fp4,aM⟩
   refine⟨_,rfl,aI (E:=eDk db ((fmR D note).1) r9) [eDk db (opD (fmR D note).1 0 flD).1 fp4] (cx.init 0 _ rfl) rfl rfl aM (fun b a X' hs hb hv hN=>?_)⟩
   have aH:=(hv 24 rfl).1;have aO:=(hv 24 rfl).2
   exact⟨aH.trans rfl,cF ((List.cons.inj hN).1)⟩) fun JA xy dM=>?_
 refine sqp [.m 4 24] ?_
 exact aa (wp_ret (bpr (vi ((opD (fmR D note).1 0 flD).2)) (ag results20 rpt) (bT.of (by rw[vS,if_neg (by have h_:=dq;simp at h_;omega),if_neg (by simpa using Ab)]) (dM.pick [0] (by decide) rfl))))
theorem L6{S1:StM}{n:Nat}{ok:Bool}(h:n<S.D.pgs.length)(ht:(S.told (n:Int)).getD false=false)(hp:PaQ S (n:Int) S1 ok)(hk:ok=true/\(pgF S (n:Int) ok).1=0):FrR S n (eK S1 (n:Int) true) (n:Int):=by
 obtain⟨rfl,h2⟩:=hk
 exact .yes h ht hp (by rw[pgF,if_pos rfl] at h2;exact h2)
theorem Cp(sb db:Nat)(S:StM)(c:Nat)(fp:List Nat)(w:World)(hB:(eSt sb db S fp).holds w)(hlt:∀k∈fp,k<w.heap.size)(hok:SOk S c)(hc:c<=900000):
  Calls P_ 22 #[po sb 0] w (qh sb db S fp w):=by
 have st1:St w fp [eSt sb db S fp] w:=St.lend hB (dx _ _ _ _) hlt
 have hpg:=hok.pgs
 go_enter func22,ntmps22
 have aj:=st1
 refine wsq [.k 2 (vi 0)] ?_
 refine aa (wq (wsq [.m 6 0] ?_))
 refine sqk (vi ((S.D.pgs.length:Int))) aj (fun cx=>⟨_,oW sb db S _ (j7 (CtxV.holdF cx (cx.init 0 _ rfl) rfl)),(av (cx.ou 6))⟩) fun W3 aU=>?_
 refine sqp [.k 8 (vi 0)] ?_
 refine aa (wp_block ?_)
 refine aQ (fun t_ mz az W=>∃n:Nat,∃Sj:StM,∃fpj:List Nat,n<=S.D.pgs.length/\(∀S2 r,FrR Sj n S2 r->FrR S 0 S2 r)/\SOk Sj (c+3*n)/\Sj.D.pgs.length=S.D.pgs.length/\mz=S.D.pgs.length-n/\az=⟨(ovr (jv az) [(2,2,4,[]),(2,8,0,[vi ((n:Int))]),(0,9,27,[])] t_).toArray,[]⟩/\St w fp [eSt sb db Sj fpj] W) (S.D.pgs.length-0) ?_ ?_
 exact⟨0,S,fp,Nat.zero_le _,fun S2 r h=>h,hok,rfl,rfl,(by kernel_rfl),aU.pk [0]⟩
 rintro n5 a5 W5 ⟨n,Sj,fpj,hn,hcont,hokj,hpj,rfl,hj_,aK⟩
 refine ovz hj_ fun xE=>?_
 refine wsq [.k 9 (.bool (decide ((n:Int)<(S.D.pgs.length:Int))))] ?_
 refine aa (wq (wds (fun ea jB=>?_) fun ea jB=>?_))
 ·refine wp_skip (aa (wq (wp_block (wsq [.m 10 8,.m 3 10] ?_))))
  refine aa (wq (wq ?_))
  have hnp:n<Sj.D.pgs.length:=by omega
  have hpg:=hok.pgs
  have hkn:kcI.ok (n:Int):=by constructor<;>omega
  obtain⟨⟨hrw1,hrr1⟩,mb1,RA1,rc1,EA1,ec1,ib1,tb1,fpd1,hv10_⟩:=aK.unf
  refine sqs [.m 11 0,.k 12 (vp sb),.k 13 (po sb 7)] ?_
  refine am 0 hv10_ ?_
  refine sqp [.m 15 3] ?_
  refine sql (.bool (((Sj.told (n:Int)).getD false))) hv10_ (fun cx=>da (e:=4) (C:=ecB) (K:=kcI) (x:=(n:Int)) rfl (cx.ou 14) (cx.ou 15) (CtxV.mx cx (cx.init 8 _ rfl) rfl) (h0:=(by rfl)) (hx:=hkn) (hk:=show Program.underlying _ _= _ from by kernel_rfl)) ?_
  refine aa (wbs (fun og=>?_) fun og=>?_)
  refine wp_exit (al (bf (aa (sqs [sI 35 ((n:Int)+1) (by omega),.m 8 35] ?_))))
  refine aa ?_
  obtain⟨fp20_,hk20_⟩:=St.stf (S:=Sj) (hv10_) (hrw1) (hrr1)
  refine⟨S.D.pgs.length-((n+1)),by omega,?_⟩
  exact⟨(n+1),Sj,fp20_,by omega,(fun S2 r h=>hcont S2 r (FrR.told hnp og h)),(hokj.mono (by omega)),hpj,rfl,(by kernel_rfl),hk20_.pk [0]⟩
  refine wp_skip (aa (wq ?_))
  obtain⟨fp21_,hk21_⟩:=St.stf (S:=Sj) (hv10_) (hrw1) (hrr1)
  refine aB [0,0,3,7,15,15,0,95,255] [[],[],[0],[],[],[],[],[3]] [[],[],[1,2],[],[],[],[3],[4]] [[],[],[0],[],[],[],[],[3]] [.k 18 (vp sb),.k 19 (vi ((n:Int))),.a 20,.a 17,.a 21,.a 22,.a 4,.n,.a 5] (fun ix d b X=>match ix with|0|1=>True|2=>d 20= .tuple #[.agg #[vi ((pgF Sj (n:Int) (tB1 (b 20))).1),vi ((pgF Sj (n:Int) (tB1 (b 20))).2.1),.slice (sA (tg (tg (b 20) 0) 2)) ((pgF Sj (n:Int) (tB1 (b 20))).2.2.length) (sC (tg (tg (b 20) 0) 2))],.bool (tB1 (b 20))]/\X 1=eSx sb db (fun S2=>PaQ Sj (n:Int) S2 (tB1 (b 20))) ((X 1).fp)/\X 2=eO 9 1 (.slice (sA (tg (tg (b 20) 0) 2)) ((pgF Sj (n:Int) (tB1 (b 20))).2.2.length) (sC (tg (tg (b 20) 0) 2))) ((pgF Sj (n:Int) (tB1 (b 20))).2.2.length) ((pgF Sj (n:Int) (tB1 (b 20))).2.2.map Value.string)|3=>d 17= .tuple #[.agg #[vi ((pgF Sj (n:Int) (tB1 (b 20))).1),vi ((pgF Sj (n:Int) (tB1 (b 20))).2.1),.slice (sA (tg (tg (b 20) 0) 2)) ((pgF Sj (n:Int) (tB1 (b 20))).2.2.length) (sC (tg (tg (b 20) 0) 2))],.bool (tB1 (b 20))]|4=>d 21= .agg #[vi ((pgF Sj (n:Int) (tB1 (b 20))).1),vi ((pgF Sj (n:Int) (tB1 (b 20))).2.1),.slice (sA (tg (tg (b 20) 0) 2)) ((pgF Sj (n:Int) (tB1 (b 20))).2.2.length) (sC (tg (tg (b 20) 0) 2))]|5=>d 22= .bool (tB1 (b 20))|6=>d 4=vp (pb (b 4))/\X 3=eB (pb (b 4)) 48 #[vi 0,vi 0,sn]|7=>X 4=eB (pb (b 4)) 48 #[vi ((pgF Sj (n:Int) (tB1 (b 20))).1),vi ((pgF Sj (n:Int) (tB1 (b 20))).2.1),.slice (sA (tg (tg (b 20) 0) 2)) ((pgF Sj (n:Int) (tB1 (b 20))).2.2.length) (sC (tg (tg (b 20) 0) 2))]|8=>d 5= .bool (tB1 (b 20))|_=>True) [1,2,4] [2,3,4,5,6,7,8] [(4,6,3,6),(11,3,1,12),(0,0,3,3),(0,4,2,2)] hk21_ ?_ ?_ ?_
  exact fun ix _ _ _ _ _ _ hs hb hx h=>match ix,h with
  |2,h=>by dsimp only;rw[<-hs 20 rfl,<-hb 20 rfl,<-hx 1 rfl,<-hx 2 rfl];exact h
  |3,h=>by dsimp only;rw[<-hs 17 rfl,<-hb 20 rfl];exact h
  |4,h=>by dsimp only;rw[<-hs 21 rfl,<-hb 20 rfl];exact h
  |5,h=>by dsimp only;rw[<-hs 22 rfl,<-hb 20 rfl];exact h
  |6,h=>by dsimp only;rw[<-hs 4 rfl,<-hb 4 rfl,<-hx 3 rfl];exact h
  |7,h=>by dsimp only;rw[<-hb 4 rfl,<-hb 20 rfl,<-hx 4 rfl];exact h
  |8,h=>by dsimp only;rw[<-hs 5 rfl,<-hb 20 rfl];exact h
  |0,_|1,_|_+9,_=>trivial
  refine⟨?_,?_,?_,?_,?_,?_,?_,trivial⟩
  refine svA fun g b W X cx=>?_
  refine ak.call (rCF (args:=#[vp sb,vi ((n:Int))]) cx.sees (aN (cx.an 0) (cx.an 1))) ?_
  refine(qi sb db Sj (n:Int) (c+3*n) _ _ (CtxV.holdF cx (cx.init 0 _ rfl) rfl) (CtxV.ltF cx (cx.init 0 _ rfl) rfl) hokj (by omega) hkn).mono ?_
  rintro e W1 ⟨ok4,A4,c4,rfl,fp4,aM⟩
  refine⟨_,rfl,aI (E:=eSt sb db Sj fp21_) [eSx sb db (fun S2=>PaQ Sj (n:Int) S2 ok4) fp4,eO 9 1 (.slice A4 ((pgF Sj (n:Int) ok4).2.2.length) c4) ((pgF Sj (n:Int) ok4).2.2.length) ((pgF Sj (n:Int) ok4).2.2.map Value.string)] (cx.init 0 _ rfl) rfl rfl aM (fun d i X' hs hb hv hN=>?_)⟩
  have aH:=(hv 20 rfl).1;have aO:=(hv 20 rfl).2
  exact⟨aH.trans (by rw[aO];exact rfl),(by rw[aO];exact eY ((List.cons.inj hN).1)),(by rw[aO];exact(List.cons.inj (List.cons.inj hN).2).1)⟩
  exact sv rfl rfl rfl rfl rfl _ (fun _ _ _ h=>h) (fun b i h=>by rw[h 20 (by decide)]) fun g b W X cx=>cM rfl (dTn (cx.an 2)).1
  exact sv rfl rfl rfl rfl rfl _ (fun _ _ _ h=>h) (fun b i h=>by rw[h 20 (by decide)]) fun g b W X cx=>bH rfl (dTn (cx.an 3)) rfl
  exact sv rfl rfl rfl rfl rfl _ (fun _ _ _ h=>h) (fun b i h=>by rw[h 20 (by decide)]) fun g b W X cx=>bH rfl (dTn (cx.an 3)) rfl
  refine svA fun g b W X cx=>?_
  exact dVA (cs:=#[vi 0,vi 0,sn]) rfl rfl rfl (fun _ _ _ _ _=> .intro)
  refine svA fun g b W X cx=>?_
  exact dVS (n:=3) rfl (dTn (cx.an 6)).1 (dTn (cx.an 4)) cx (dTn (cx.an 6)).2 rfl (nle rfl) rfl rfl rfl (fun d i X' hs hb hx=>by rw[hb 4,hb 20];exact hx)
  exact sv rfl rfl rfl rfl rfl _ (fun _ _ _ h=>h) (fun b i h=>by rw[h 20 (by decide)]) fun g b W X cx=>cS rfl (dTn (cx.an 5))
  intro d b X uZ hD dv fr aC
  obtain⟨ok20_22,pR⟩:∃z,tB1 (b 20)=z:=⟨_,rfl⟩
  obtain⟨RR,q9⟩:∃z,sA (tg (tg (b 20) 0) 2)=z:=⟨_,rfl⟩
  obtain⟨RS,ra⟩:∃z,sC (tg (tg (b 20) 0) 2)=z:=⟨_,rfl⟩
  obtain⟨O8,tL⟩:∃z,pb (b 4)=z:=⟨_,rfl⟩
  have Nn:X 1= _:=(dTn (hD 2 lq)).2.1
  obtain⟨O9,Ac⟩:∃z,(X 1).fp=z:=⟨_,rfl⟩
  rw[Ac] at Nn
  clear Ac
  simp only[Nn,exq 2 ((dTn (hD 2 lq)).2.2),exq 4 ((dTn (hD 7 lq))),pR,q9,ra,tL] at dv
  simp only[ed 20 ((dTn (hD 2 lq)).1),ed 17 ((dTn (hD 3 lq))),ed 21 ((dTn (hD 4 lq))),ed 22 ((dTn (hD 5 lq))),ed 4 ((dTn (hD 6 lq)).1),ed 5 ((dTn (hD 8 lq))),pR,q9,ra,tL] at aC
  clear hD Nn pR q9 ra tL;subst aC;clear d b X
  refine aa (wq ?_)
  obtain⟨S1,hP,hy23_⟩:=dv.unx
  refine sqs [.m 23 5,.m 24 23] ?_
  refine d3 24 [25,26,27] ?_ rfl (fun hq=>?_) ?_
  rotate_left
  refine sqp [.k 25 (vp O8)] ?_
  refine am 2 hy23_ ?_
  refine sqp [.k 27 (.bool (((pgF Sj (n:Int) ok20_22).1)==0))] ?_
  exact sqe
  refine c7 ?_
  refine sqp [sPa 28 ok20_22 (((pgF Sj (n:Int) ok20_22).1)==0)] ?_
  refine aa (wbs (fun iN=>?_) fun iN=>?_)
  have g9:=iN
  simp only[zB] at g9
  obtain⟨No,Np⟩:=g9
  refine wq ?_
  obtain⟨⟨hrw2,hrr2⟩,mb2,RA2,rc2,EA2,ec2,ib2,tb2,fpd2,hv31_⟩:=hy23_.unf
  have hnt:=(hP.ok hokj).nt
  refine sqs [.m 29 0,.k 30 (vp sb),.k 31 (po sb 7)] ?_
  refine am 0 hv31_ ?_
  refine sqp [.m 33 3] ?_
  refine sqc (eMx kcI ecB P_ 3 tb2 ((mzP S1.told (n:Int) S1.nt)) (cd S1.told (n:Int) (some true))) 8 hv31_ (by
    refine svA fun g b W X cx=>?_
    exact gy (e:=4) (v:=true) (.inl rfl) (cx.ou 32) (show g _=Kc.enc kcI (n:Int) from(cx.ou 33)) (show g _=Ec.enc ecB true from(cx.co _)) cx (cx.init 8 _ rfl) rfl (trivial) (by omega) (hkn) rfl rfl rfl (fun _ _ _ _ _=>id) (hk:=show Program.underlying _ _= _ from by kernel_rfl)) fun Jn gY=>?_
  refine aa (wsq [.m 34 3,.m 2 34] ?_)
  refine aa (wp_ret (aY (ai (ai (aY (ai ?_))))))
  refine bpr (vi ((n:Int))) (ag results22 rpt) ?_
  obtain⟨fp40_,hk40_⟩:=St.stf (S:=(eK S1 (n:Int) true)) (gY.u10.c0.u10.c0) (hrw2) (hrr2)
  exact qh.of (hcont _ _ (L6 hnp og hP (by have h_:=iN;simpa using h_))) hk40_
  have g9:=iN
  simp only[zB] at g9
  refine wp_skip (aq (aa (sqs [sI 35 ((n:Int)+1) (by omega),.m 8 35] ?_)))
  refine aa ?_
  refine⟨S.D.pgs.length-((n+1)),by omega,?_⟩
  exact⟨(n+1),S1,O9,by omega,(fun S2 r h=>hcont S2 r (FrR.no hnp og hP (fun hh=>by have h_:=iN;simp[hh.1,pgF,hh.2] at h_) h)),((hP.ok hokj).mono (by omega)),((hP.ev hokj).1.len.trans hpj),rfl,(by kernel_rfl),hy23_.pk [0]⟩
 refine wp_exit (al (al (bf (aa (wsq [.k 2 (vi (-1))] ?_)))))
 exact aa (wp_ret (bpr (vi (-1)) (ag results22 rpt) (qh.of (hcont _ _ (.stop (by omega))) (aK.pick [0] (by decide) rfl))))
end
section
open Go.RowKit Go.Maps Go.ChangeMaps
section
variable{κ ε:Type}{K:Kc κ}{C:Ec ε}{P:Program}{o:Oper}{ρ:Operand->Value}{W:World}{k e b n:Nat}{m:κ->Option ε}
theorem zm{t:TypeId}{y z:Operand}{x:κ}(h:o.op= .lookup t y z true)(hy:ρ y= .map (some b))(hz:ρ z=K.enc x)(hb:gx K C P k b n m W)(h0:(zeroValue e).run P W= .ok (C.enc C.e0) W)(hx:K.ok x)
  (hk:K.ty P k:=by kernel_rfl) (ht:P.underlying t=some (.map k e):=by kernel_rfl):(execOp ρ o).run P W= .ok (.value (.tuple #[C.enc ((m x).getD C.e0),.bool (m x).isSome])) W:=by
 obtain⟨D,hD,_,_,hm⟩:=hb
 obtain⟨v,ps,hrun,hv⟩:=hD.look_ok (K.keyed hk) ht h0 (C.read C.e0 C.ok0) (K.key hk hx)
 rw[C.back v _ ps _ hv (hm x hx).2,(hm x hx).1] at hrun
 unfold execOp
 rw[h]
 simp[hy,hz,hrun]
end
abbrev PgV:=Int×Int×Option Addr×Nat×Nat
def Hk(v:PgV):Value:= .agg #[.int .i64 v.1,.int .i64 v.2.1,.slice v.2.2.1 v.2.2.2.1 v.2.2.2.2]
def spD:Option Nat->DataW Unit
 |none=> .lit (.int .i64 (-1))
 |some j=> .lit (.int .i64 (j:Int))
theorem Kl:∀{a b:Option Nat},spD a=spD b->a=b
 |none,none,_=>rfl
 |none,some j,h=>by simp[spD] at h
 |some i,none,h=>by simp[spD] at h
 |some i,some j,h=>by simp[spD] at h;congr 1;omega
def adD:Option Addr->DataW Unit
 |none=> .nil
 |some a=> .agg [.lit (.int .i64 (a.block:Int)),.lit (.int .i64 (a.off:Int)),spD a.spot]
theorem Kn:∀{a b:Option Addr},adD a=adD b->a=b
 |none,none,_=>rfl
 |none,some j,h=>by simp[adD] at h
 |some i,none,h=>by simp[adD] at h
 |some ⟨i1,i2,i3⟩,some ⟨j1,j2,j3⟩,h=>by
  simp only[adD,DataW.agg.injEq,List.cons.injEq,DataW.lit.injEq,Lit.int.injEq,and_true,true_and] at h
  obtain⟨h1,h2,h3⟩:=h
  rw[Int.ofNat.inj h1,Int.ofNat.inj h2,Kl h3]
def zb(v:PgV):DataW Unit:= .agg [.lit (.int .i64 v.1),.lit (.int .i64 v.2.1),adD v.2.2.1,.lit (.int .i64 (v.2.2.2.1:Int)),.lit (.int .i64 (v.2.2.2.2:Int))]
def GS:List Value->Option (DataW Unit×List MemPlace)
 | [.int .i64 k,.int .i64 l,.slice A n c]=>some (zb (k,l,A,n,c),[])
 |_=>none
def HP:Value->Option (DataW Unit×List MemPlace)
 | .agg cells=>GS cells.toList
 |_=>none
theorem D6(v:List Value)(d:DataW Unit)(ps:List MemPlace)(e:PgV)(h:GS v=some (d,ps))(hd:d=zb e):v=[.int .i64 e.1,.int .i64 e.2.1,.slice e.2.2.1 e.2.2.2.1 e.2.2.2.2]:=by
 unfold GS at h
 split at h
 rename_i k l A n c
 injection h with h
 injection h with h _
 rw[hd] at h
 obtain⟨e1,e2,e3,e4,e5⟩:=e
 simp only[zb,DataW.agg.injEq,List.cons.injEq,DataW.lit.injEq,Lit.int.injEq,and_true,true_and] at h
 obtain⟨h1,h2,h3,h4,h5⟩:=h
 rw[h1,h2,Kn h3,Int.ofNat.inj h4,Int.ofNat.inj h5]
 cases h
theorem HQ(v:Value)(d:DataW Unit)(ps:List MemPlace)(e:PgV)(h:HP v=some (d,ps))(hd:d=zb e):v=Hk e:=by
 unfold HP at h
 split at h
 rename_i cells
 have h1:=D6 _ _ _ _ h hd
 rw[Hk]
 congr 1
 exact Array.toList_inj.1 h1
 cases h
def pgX:Ec PgV where
 enc:=Hk
 dat:=zb
 R:=HP
 e0:=(0,0,none,0,0)
 okE:=fun _=>True
 read:=fun e _=>rfl
 back:=HQ
 ok0:=trivial
def ju(os:List Int)(e:EdT):List Int:=if e.1∈os then os else os++[e.1]
def ck(l:List EdT):List Int:=l.foldl ju []
def eW(N:Int->PgS)(e:EdT):Int->PgS:=fun n=>if n=e.1 then doV (N e.1) e 1 else N n
def bo(cur:Int->PgS)(l:List EdT):Int->PgS:=l.foldl eW cur
def cV(N:Int->PgS):List EdT->Int
 | []=>0
 |e::l=>if doE (N e.1) e 1=0 then cV (eW N e) l else doE (N e.1) e 1
theorem tq(l:List EdT)(e:EdT):ck (l++[e])=ju (ck l) e:=by rw[ck,List.foldl_append];rfl
theorem yI(cur:Int->PgS)(l:List EdT)(e:EdT):bo cur (l++[e])=eW (bo cur l) e:=by rw[bo,List.foldl_append];rfl
theorem Bm(l1:List EdT):∀(N:Int->PgS) (l2:List EdT),cV N l1=0->cV N (l1++l2)=cV (bo N l1) l2:=by
 induction l1 with
 |nil=>intro N l2 _;rfl
 |cons e l ih=>
  intro N l2 h
  rw[cV] at h
  rw[List.cons_append,cV]
  split at h
  rename_i h0
  rw[if_pos h0]
  exact ih _ _ h
  rename_i h0;exact absurd h h0
theorem iq(h:l[j]? =some e):l.take (j+1)=l.take j++[e]:=by rw[List.take_add_one,h];rfl
theorem yz(he:l[j]? =some e)(h:cV N (l.take j)=0)(h0:doE (bo N (l.take j) e.1) e 1=0):cV N (l.take (j+1))=0:=by
 rw[iq he,Bm _ _ _ h,cV,if_pos h0];rfl
theorem tu(he:l[j]? =some e)(h:cV N (l.take j)=0)(h0:doE (bo N (l.take j) e.1) e 1≠0):cV N l=doE (bo N (l.take j) e.1) e 1:=by
 obtain⟨hj,rfl⟩:=List.getElem?_eq_some_iff.1 he
 have e1:l=l.take j++l[j]::l.drop (j+1):=by rw[<-List.drop_eq_getElem_cons hj,List.take_append_drop]
 conv=>lhs;rw[e1]
 rw[Bm _ _ _ h,cV,if_neg h0]
theorem jE(l:List EdT):(ck l).length<=l.length:=by
 have h:∀(l:List EdT) (os:List Int),(l.foldl ju os).length<=os.length+l.length:=by
  intro l
  induction l with
  |nil=>intro os;exact Nat.le_refl _
  |cons e l ih=>
   intro os
   refine Nat.le_trans (ih _) ?_
   unfold ju
   split
   simp only[List.length_cons];omega
   simp only[List.length_cons,List.length_append,List.length_nil];omega
 have:=h l []
 simpa[ck] using this
theorem kr{l:List EdT}{n:Int}:n∈ck l<->∃e∈l,e.1=n:=by
 have h:∀(l:List EdT) (os:List Int),n∈l.foldl ju os<->(n∈os\/∃e∈l,e.1=n):=by
  intro l
  induction l with
  |nil=>intro os;simp
  |cons e l ih=>
   intro os
   rw[List.foldl_cons,ih]
   unfold ju
   split
   rename_i h1
   constructor
   rintro(h|⟨x,hx,hn⟩)
   exact .inl h
   exact .inr ⟨x,List.mem_cons_of_mem _ hx,hn⟩
   rintro(h|⟨x,hx,hn⟩)
   exact .inl h
   rcases List.mem_cons.1 hx with rfl|hx
   exact .inl (hn ▸ h1)
   exact .inr ⟨x,hx,hn⟩
   rw[List.mem_append,List.mem_singleton]
   constructor
   rintro((h|h)|⟨x,hx,hn⟩)
   exact .inl h
   exact .inr ⟨e,List.mem_cons_self,h.symm⟩
   exact .inr ⟨x,List.mem_cons_of_mem _ hx,hn⟩
   rintro(h|⟨x,hx,hn⟩)
   exact .inl (.inl h)
   rcases List.mem_cons.1 hx with rfl|hx
   exact .inl (.inr hn.symm)
   exact .inr ⟨x,hx,hn⟩
 have:=h l []
 simpa[ck] using this
theorem Fz(l:List EdT):(ck l).Nodup:=by
 have h:∀(l:List EdT) (os:List Int),os.Nodup->(l.foldl ju os).Nodup:=by
  intro l
  induction l with
  |nil=>intro os h;exact h
  |cons e l ih=>
   intro os h
   refine ih _ ?_
   unfold ju
   split
   exact h
   rename_i h1
   rw[List.nodup_append]
   exact⟨h,by simp,fun a ha b hb e2=>h1 (by rw[<-List.mem_singleton.1 hb,<-e2];exact ha)⟩
 exact h l [] List.nodup_nil
def d8(n:Nat)(e:EdT):Bool:=decide (e.1<0)||decide ((n:Int)<=e.1)
def lI{α:Type}(p:α->Bool)(k:Int):List α->Int
 | []=> -1
 |x::l=>if p x then k else lI p (k+1) l
theorem BO{α:Type}{p:α->Bool}{l:List α}{x:α}{k:Nat}(h:l[k]? =some x):lI p (k:Int) (l.drop k)=if p x then (k:Int) else lI p ((k+1:Nat):Int) (l.drop (k+1)):=by
 obtain⟨hk,rfl⟩:=List.getElem?_eq_some_iff.1 h
 rw[List.drop_eq_getElem_cons hk,lI];rfl
theorem GP{α:Type}(p:α->Bool)(l:List α):∀k:Int,0<=k->decide (0<=lI p k l)=l.any p:=by
 induction l with
 |nil=>intro k _;rfl
 |cons x l ih=>
  intro k hk
  rw[lI,List.any_cons]
  cases p x with
  |true=>rw[if_pos rfl,Bool.true_or];exact decide_eq_true hk
  |false=>rw[if_neg (by decide),Bool.false_or];exact ih (k+1) (by omega)
theorem JT(n:Nat)(x:Int)(sl:Int)(s:ByteArray):(if decide (x<0)=true then true else decide ((n:Int)<=x))=d8 n (x,sl,s):=by
 unfold d8;cases decide (x<0)<;>rfl
theorem Hm(x sl:Int)(s:ByteArray)(q sb db:Nat)(S:StM)(w:World)(hbq:Blk w q 31 #[po sb 0])(bb:kE w sb db S):
  Calls P_ 54 #[.agg #[.int .i64 x,.int .i64 sl,.string s],po q 0] w (Ret (.bool (d8 S.D.pgs.length (x,sl,s))) w):=by
 go_enter func54,ntmps54
 have aj:=St.start w
 refine wq (sqr ?_)
 refine bX #[vi x,vi sl,.string s] aj fun bw W1 ax=>?_
 refine sqp [.k 3 (.bool false)] ?_
 refine aa (wq (bG [0,1,3,7,15,31,15,79,255,511,1023] [[],[0],[],[],[],[0]] [.k 4 (vp bw),.c 5 (vi x),.k 6 (.bool (decide (x<0))),.k 7 (.bool (decide (x<0))),.z 8 (!(decide (x<0))) (vp bw),.y 9 (!(decide (x<0))) (vi x),.y 10 (!(decide (x<0))) (vp sb),.y 11 (!(decide (x<0))) (vi ((S.D.pgs.length:Int))),.z 12 (!(decide (x<0))) (.bool (decide ((S.D.pgs.length:Int)<=x))),tO 13 (decide (x<0)) (decide ((S.D.pgs.length:Int)<=x)),.k 3 (.bool ((decide (x<0))||(decide ((S.D.pgs.length:Int)<=x))))] [0] [1,5,6,7] [(3,10,1,4),(0,0,10,10)] ax ?_ fun W3 aU=>?_))
 refine⟨?_,?_,?_,?_,trivial⟩
 exact xs4 rfl id fun cx=>rL1 (cx.an 0) ((cx.bi 0 rfl).cell 0)
 exact m2 rfl (fun _ _ _ h=>h) (fun cx=>(cx.an 3)) fun cx hq=>rL1 (mbv (cx.an 4) hq) ((cx.bi 0 rfl).cell 0)
 exact m2 rfl (fun _ _ _ h=>h) (fun cx=>(cx.an 3)) fun cx hq=>rL1 (cx.ou 1) ((Blk.ext hbq cx.upd.to_ext).cell 0)
 exact m3 rfl (fun _ _ _ h=>h) (fun cx=>(cx.an 3)) fun cx hq=>⟨_,_,rCF (args:=#[vp sb]) cx.sees (av (mbv (cx.an 6) hq)),oW sb db S _ (kE.ext bb cx.upd.to_ext)⟩
 exact aa (wp_ret (bpr (.bool ((decide (x<0))||(decide ((S.D.pgs.length:Int)<=x)))) (ag results54 rpt) (Ret.bool (by rw[<-JT];simp) aU.ext)))
theorem DK(A:Option Addr)(c:Nat)(l:List EdT)(f0:FuncId)(cap:Array Value)(p:EdT->Bool)(w:World)(hA:At w A (l.flatMap edC))(hl:l.length<=100000)(hcf:gD P_ f0=true)(hf:∀(W:World) (k:EdT),Ext w W->Calls P_ f0 (#[.agg #[.int .i64 k.1,.int .i64 k.2.1,.string k.2.2]]++cap) W (Ret (.bool (p k)) W)):
  Calls P_ 117 #[.slice A l.length c,.func (.func f0) #[] cap] w (Ret (.int .i64 (lI p 0 l)) w):=by
 go_enter func117,ntmps117
 have aj:=St.start w
 refine wsq [.k 4 (vi 0)] ?_
 refine aa (wq (wsq [.m 6 0,.k 7 (vi ((l.length:Int))),.k 8 (vi 0)] ?_))
 refine aa (wp_block ?_)
 refine aQ (fun t_ mz az W=>∃k:Nat,k<=l.length/\lI p 0 l=lI p (k:Int) (l.drop k)/\mz=l.length-k/\az=⟨(ovr (jv az) [(4,4,2,[]),(2,8,0,[vi ((k:Int))]),(0,9,10,[])] t_).toArray,[]⟩/\St w [] [] W) (l.length-0) ?_ ?_
 exact⟨0,Nat.zero_le _,rfl,rfl,(by kernel_rfl),aj.pk []⟩
 rintro n5 a5 W5 ⟨k,hk,hkr,rfl,hj_,aK⟩
 refine ovz hj_ fun xE=>?_
 refine wsq [.k 9 (.bool (decide ((k:Int)<(l.length:Int))))] ?_
 refine aa (wq (wds (fun ea jB=>?_) fun ea jB=>?_))
 refine wp_skip (aa (wq (wp_block (wsq [.m 10 8,.m 5 10] ?_))))
 refine aa (wq ?_)
 obtain⟨ep,es,eb,hek⟩:=k9 (l:=l) (k:=k) (by omega)
 refine sqs [.m 11 1,.m 12 0,.m 13 5] ?_
 refine sql (.pointer (some ((ad A).add (k*3)))) aK (fun cx=>aD (e:=84) (m:=k) (sz:=3) rfl (by kernel_rfl) (by kernel_rfl) (cx.ou 12) (cx.ou 13) (by omega) (by omega) (hA.ext cx.upd.to_ext) (bm (sz:=3) bE (by decide) (by omega))) ?_
 refine sql (.agg #[vi ep,vi es,.string eb]) aK (fun cx=>bS (f:=edC) (m:=k) (sz:=3) (off:=0) (n:=3) rfl (by kernel_rfl) (by kernel_rfl) (cx.ou 14) rfl bE (hA.ext cx.upd.to_ext) hek (fun k hk=>match k,hk with|0,_=>rfl|1,_=>rfl|2,_=>rfl|k+3,hk=>absurd hk (by omega))) ?_
 refine sqv (.bool ((p (ep,es,eb)))) aK (ip rfl rfl rfl rfl rfl (fun _ _ _ h=>h) fun a b W X cx=>⟨_,_,cD (f:=f0) (args:=#[.agg #[vi ep,vi es,.string eb]]) (args':=#[.agg #[vi ep,vi es,.string eb]]++cap) rfl rfl (cx.ou 11) hcf (av (cx.ou 15)) (by rw[Array.empty_append]),(by have h9:=hf W (ep,es,eb) cx.upd.to_ext;dsimp only at h9;exact h9)⟩) fun B0 gv=>?_
 refine aa (wbs (fun dj=>?_) fun dj=>?_)
 refine wsq [.m 17 5,.m 4 17] ?_
 refine aa (wp_ret (aY (ai (ai (aY (ai ?_))))))
 exact bpr (vi ((k:Int))) (ag results117 rpt) (Ret.of (by rw[hkr,BO hek,dj];rfl) gv.ext)
 refine wp_skip (aq (aa (sqs [sI 18 ((k:Int)+1) (by omega),.m 8 18] ?_)))
 refine aa ?_
 refine⟨l.length-((k+1)),by omega,?_⟩
 exact⟨(k+1),by omega,by rw[hkr,BO hek,dj];rfl,rfl,(by kernel_rfl),gv.pk []⟩
 refine wp_exit (al (al (bf (aa (wsq [.k 4 (vi (-1))] ?_)))))
 exact aa (wp_ret (bpr (vi (-1)) (ag results117 rpt) (Ret.of (by rw[hkr,List.drop_of_length_le (by omega)];rfl) aK.ext)))
theorem DN(A:Option Addr)(c:Nat)(l:List EdT)(f0:FuncId)(cap:Array Value)(p:EdT->Bool)(w:World)(hA:At w A (l.flatMap edC))(hl:l.length<=100000)(hcf:gD P_ f0=true)(hf:∀(W:World) (k:EdT),Ext w W->Calls P_ f0 (#[.agg #[.int .i64 k.1,.int .i64 k.2.1,.string k.2.2]]++cap) W (Ret (.bool (p k)) W)):
  Calls P_ 53 #[.slice A l.length c,.func (.func f0) #[] cap] w (Ret (.bool (l.any p)) w):=by
 go_enter func53,ntmps53
 have aj:=St.start w
 refine wsq [.k 4 (.bool false)] ?_
 refine aa (wsq [.m 5 0,.m 6 1] ?_)
 refine sqv (vi ((lI p 0 l))) aj (ip rfl rfl rfl rfl rfl (fun _ _ _ h=>h) fun a b W X cx=>⟨_,_,rCF (args:=#[.slice A l.length c,.func (.func f0) #[] cap]) cx.sees (aN (cx.ou 5) (cx.ou 6)),DK _ _ l _ _ p _ (hA.ext cx.upd.to_ext) hl hcf (fun W k hW=>hf W k (cx.upd.to_ext.trans hW))⟩) fun W4 aZ=>?_
 refine sqp [.k 8 (.bool (decide (0<=(lI p 0 l)))),.m 4 8] ?_
 exact aa (wp_ret (bpr (.bool (decide (0<=(lI p 0 l)))) (ag results53 rpt) (Ret.of (by rw[<-GP _ _ 0 (by omega)]) aZ.ext)))
end
section
open Go.RowKit Go.Maps Go.ChangeMaps
noncomputable def f8(S:StM)(n:Int):RecM:=⟨8,0,n,[],aG (aF S n)⟩
def eI(S:StM)(os:List Int):List Int:=os.filter fun n=>!(S.im n).getD false
def rcI(r:RecM):RcT:=⟨r,none,0⟩
noncomputable def icC(S:StM)(n:Int):List Value:=rcC (rcI (f8 S n))
theorem Bw(S:StM)(n:Int):(icC S n).length=8:=rfl
noncomputable def fq(S:StM)(os:List Int):List RecM:=(eI S os).map (f8 S)
def iy(l:Int)(p:PgS):PgS:=(p.1,l,p.2.2)
def npV(p:PgS)(pg:PgR):PgV:=(p.1,p.2.1,pg.A,p.2.2.length,pg.c)
noncomputable def eH(S:StM)(r:RecM):Int:=(S.recs.length:Int)+((eI S (ck r.eds)).length:Int)+1
theorem qm(S:StM)(os:List Int)(n:Int):eI S (os++[n])=if (S.im n).getD false=true then eI S os else eI S os++[n]:=by
 rw[eI,List.filter_append]
 cases h:(S.im n).getD false
 rw[if_neg (by decide),List.filter_cons_of_pos (by rw[h];rfl)];rfl
 rw[if_pos rfl,List.filter_cons_of_neg (by rw[h];decide),List.filter_nil,List.append_nil];rfl
theorem o4(S:StM)(os:List Int):(eI S os).length<=os.length:=List.length_filter_le _ _
theorem tf{n:Int}(h:n∈eI S os):n∈os:=(List.mem_filter.1 h).1
theorem iG(h:SOk S c)(n:Int):bI (aF S n):=by
 unfold aF
 split
 rename_i t ht;exact h.right t (List.mem_of_find?_eq_some ht)
 exact sX _
theorem jI{cur:Int->PgS}(hc:∀n,bI (cur n))(h:cV cur l=0)(n:Int):bI (bo cur l n):=by
 induction l generalizing cur with
 |nil=>exact hc n
 |cons e l ih=>
  rw[cV] at h
  split at h
  rename_i h0
  refine ih (fun m=>?_) h
  unfold eW
  split
  exact kC h0
  exact hc m
  rename_i h0;exact absurd h h0
structure DoI (cur N:Int->PgS) (lsn:Int) (os:List Int) (mW mN:Int->Option PgV) (rows:List PgR) (ex:Option Int):Prop where
 w:∀n∈os,∃pg∈rows,mW n=some (npV (cur n) pg)/\pg.p.2.2=(cur n).2.2
 n:∀n∈os,∃pg∈rows,mN n=some (npV (N n) pg)/\pg.p.2.2=(N n).2.2/\(ex≠some n->pg.p=iy lsn (N n))
 no:∀n,n∉os->mW n=none/\mN n=none/\N n=cur n
theorem DoI.init(cur:Int->PgS)(lsn:Int)(rows:List PgR):DoI cur cur lsn [] (fun _=>none) (fun _=>none) rows none:=⟨fun n h=>(by cases h),fun n h=>(by cases h),fun n _=>⟨rfl,rfl,rfl⟩⟩
theorem DoI.mono{cur:Int->PgS}{mW mN:Int->Option PgV}{rows rows':List PgR}{ex:Option Int}(h:DoI cur N lsn os mW mN rows ex)(hr:∀r∈rows,r∈rows'):DoI cur N lsn os mW mN rows' ex:=
 ⟨fun n hn=>let ⟨pg,a,b⟩:=h.w n hn;⟨pg,hr pg a,b⟩,fun n hn=>let ⟨pg,a,b⟩:=h.n n hn;⟨pg,hr pg a,b⟩,h.no⟩
theorem mJ(h:e.1∈os):ju os e=os:=if_pos h
theorem kv(h:e.1∉os):ju os e=os++[e.1]:=if_neg h
theorem Fg(os:List Int)(e:EdT):e.1∈ju os e:=by
 by_cases h:e.1∈os
 rw[mJ h];exact h
 rw[kv h];exact List.mem_append_right _ (List.mem_singleton.2 rfl)
theorem DoI.mem{cur:Int->PgS}{mW mN:Int->Option PgV}{rows:List PgR}{ex:Option Int}(h:DoI cur N lsn os mW mN rows ex){n:Int}:((mW n).isSome=true<->n∈os):=by
 constructor
 intro h1
 refine Classical.byContradiction fun hn=>?_
 rw[(h.no n hn).1] at h1
 cases h1
 intro hn
 obtain⟨pg,_,h2,_⟩:=h.w n hn
 rw[h2];rfl
theorem DoI.old{cur:Int->PgS}{mW mN:Int->Option PgV}{rows:List PgR}(h:DoI cur N lsn os mW mN rows none)(e:EdT)(hs:(mW e.1).isSome=true):DoI cur N lsn (ju os e) mW mN rows (some e.1):=by
 rw[mJ (h.mem.1 hs)]
 exact⟨h.w,fun n hn=>let ⟨pg,a,b,c,d⟩:=h.n n hn;⟨pg,a,b,c,fun _=>d (by simp)⟩,h.no⟩
theorem DoI.new{cur:Int->PgS}{mW mN:Int->Option PgV}{rows:List PgR}(h:DoI cur N lsn os mW mN rows none)(e:EdT)(hs:(mW e.1).isSome=false){q:PgS}(hq:q=cur e.1)(A:Option Addr)(c:Nat):
  DoI cur N lsn (ju os e) (cd mW e.1 (some (q.1,q.2.1,A,q.2.2.length,c))) (cd mN e.1 (some (q.1,q.2.1,A,q.2.2.length,c))) (rows++[⟨q,A,c⟩]) (some e.1):=by
 have hn:e.1∉os:=fun hm=>by rw[h.mem.2 hm] at hs;cases hs
 rw[kv hn]
 subst hq
 refine⟨fun n hm=>?_,fun n hm=>?_,fun n hm=>?_⟩
 by_cases e1:n=e.1
 subst e1;exact⟨_,List.mem_append_right _ (List.mem_singleton.2 rfl),if_pos rfl,rfl⟩
 obtain⟨pg,a,b⟩:=h.w n ((List.mem_append.1 hm).elim id fun h=>absurd (List.mem_singleton.1 h) e1)
 exact⟨pg,List.mem_append_left _ a,by rw[cd,if_neg e1];exact b.1,b.2⟩
 by_cases e1:n=e.1
 subst e1
 exact⟨_,List.mem_append_right _ (List.mem_singleton.2 rfl),by rw[cd,if_pos rfl,npV,(h.no _ hn).2.2],by rw[(h.no _ hn).2.2],fun h=>absurd rfl h⟩
 obtain⟨pg,a,b,c,d⟩:=h.n n ((List.mem_append.1 hm).elim id fun h=>absurd (List.mem_singleton.1 h) e1)
 exact⟨pg,List.mem_append_left _ a,by rw[cd,if_neg e1];exact b,c,fun _=>d (by simp)⟩
 have h1:n∉os:=fun h2=>hm (List.mem_append_left _ h2)
 have e1:n≠e.1:=fun h2=>hm (List.mem_append_right _ (List.mem_singleton.2 h2))
 obtain⟨a,b,c⟩:=h.no n h1
 exact⟨by rw[cd,if_neg e1];exact a,by rw[cd,if_neg e1];exact b,c⟩
theorem DoI.edit{cur:Int->PgS}{mW mN:Int->Option PgV}{rows:List PgR}(h:DoI cur N lsn os mW mN rows (some e.1))(hm:e.1∈os){q:PgS}(hq:q=doV (N e.1) e 1)(A:Option Addr)(c:Nat):
  DoI cur (eW N e) lsn os mW (cd mN e.1 (some (q.1,q.2.1,A,q.2.2.length,c))) (rows++[⟨iy lsn q,A,c⟩]) none:=by
 subst hq
 refine⟨fun n hn=>let ⟨pg,a,b⟩:=h.w n hn;⟨pg,List.mem_append_left _ a,b⟩,fun n hn=>?_,fun n hn=>?_⟩
 by_cases e1:n=e.1
 subst e1
 have e2:eW N e e.1=doV (N e.1) e 1:=if_pos rfl
 exact⟨_,List.mem_append_right _ (List.mem_singleton.2 rfl),by rw[cd,if_pos rfl,npV,e2],by rw[e2];rfl,fun _=>by rw[e2]⟩
 obtain⟨pg,a,b,c,d⟩:=h.n n hn
 have e2:eW N e n=N n:=if_neg e1
 exact⟨pg,List.mem_append_left _ a,by rw[cd,if_neg e1,e2];exact b,by rw[e2];exact c,fun _=>by rw[e2];exact d (fun h=>e1 (Option.some.inj h).symm)⟩
 obtain⟨a,b,c⟩:=h.no n hn
 have e1:n≠e.1:=fun h2=>hn (h2 ▸ hm)
 exact⟨a,by rw[cd,if_neg e1];exact b,by rw[eW,if_neg e1];exact c⟩
inductive ApI:StM->List RecM->StM->Int->Prop where
 |nil (S:StM):ApI S [] S 0
 |bad {S:StM}{r:RecM}{l:List RecM}(q:List RcT) (h:(br {S with rr:=q} (rcI r)).2≠0):ApI S (r::l) (br {S with rr:=q} (rcI r)).1 (br {S with rr:=q} (rcI r)).2
 |cons {S S2:StM}{r:RecM}{l:List RecM}{er:Int}(q:List RcT) (h:(br {S with rr:=q} (rcI r)).2=0) (hr:ApI (imS (br {S with rr:=q} (rcI r)).1 r.tbl) l S2 er):ApI S (r::l) S2 er
inductive PuA (cur N:Int->PgS) (lsn:Int):StM->List Int->StM->Int->Prop where
 |nil (S:StM):PuA cur N lsn S [] S 0
 |bad {S S2:StM}{n er:Int}{l:List Int}{pg:PgR}(hp:pg.p=iy lsn (N n)) (h:ej (if (cur n).1≠0/\(N n).1=0 then eK S n false else S) n pg S2 er) (he:er≠0):PuA cur N lsn S (n::l) S2 er
 |cons {S S1 S2:StM}{n er:Int}{l:List Int}{pg:PgR}(hp:pg.p=iy lsn (N n)) (h:ej (if (cur n).1≠0/\(N n).1=0 then eK S n false else S) n pg S1 0) (hr:PuA cur N lsn S1 l S2 er):PuA cur N lsn S (n::l) S2 er
def DoA(r:RecM):Prop:=bt r=true/\r.kind≠8/\r.kind≠9
noncomputable def jU(S:StM)(r:RecM):Nat:=S.D.log.size+((aA r).size+szF (fq S (ck r.eds)))
inductive DoQ (S:StM) (r:RecM):StM->Int->Int->Prop where
 |arg (h:¬DoA r):DoQ S r S 0 1
 |page {S':StM}(h:DoA r) (hp:r.eds.any (d8 S.D.pgs.length)=true) (he:Ev S S'):DoQ S r S' 0 22
 |pow {S':StM}(h:DoA r) (hp:r.eds.any (d8 S.D.pgs.length)=false) (he:Ev S S') (ho:S'.D.off=true):DoQ S r S' 0 24
 |err {S':StM}(h:DoA r) (hp:r.eds.any (d8 S.D.pgs.length)=false) (he:Ev S S') (h0:cV (aF S) r.eds≠0):DoQ S r S' 0 (cV (aF S) r.eds)
 |full {S':StM}(h:DoA r) (hp:r.eds.any (d8 S.D.pgs.length)=false) (he:Ev S S') (h0:cV (aF S) r.eds=0) (hf:1048576<jU S r):DoQ S r S' 0 31
 |img {S1 S2:StM}{er:Int}(h:DoA r) (hp:r.eds.any (d8 S.D.pgs.length)=false) (he:Ev S S1) (hk:∃c,SOk S1 c) (h0:cV (aF S) r.eds=0) (hf:jU S r<=1048576) (hi:ApI S1 (fq S (ck r.eds)) S2 er) (hn:er≠0):DoQ S r S2 0 er
 |app {S1 S2:StM}{rt:RcT}(h:DoA r) (hp:r.eds.any (d8 S.D.pgs.length)=false) (he:Ev S S1) (hk:∃c,SOk S1 c) (h0:cV (aF S) r.eds=0) (hf:jU S r<=1048576) (hi:ApI S1 (fq S (ck r.eds)) S2 0) (hr:rt.r=r) (hn:(br S2 rt).2≠0):DoQ S r (br S2 rt).1 0 (br S2 rt).2
 |put {S1 S2 S3:StM}{rt:RcT}{er:Int}(h:DoA r) (hp:r.eds.any (d8 S.D.pgs.length)=false) (he:Ev S S1) (hk:∃c,SOk S1 c) (h0:cV (aF S) r.eds=0) (hf:jU S r<=1048576) (hi:ApI S1 (fq S (ck r.eds)) S2 0) (hr:rt.r=r) (ha:(br S2 rt).2=0)
   (hu:PuA (aF S) (bo (aF S) r.eds) (eH S r) (br S2 rt).1 (ck r.eds) S3 er):DoQ S r S3 (if er=0 then eH S r else 0) er
def fL(sb db:Nat)(S:StM)(r:RecM)(c:Nat)(fp:List Nat)(w:World)(e:Ending)(w':World):Prop:=∃n er,e= .returned (.tuple #[.int .i64 n,.int .i64 er])/\∃fp',St w fp [eSx sb db (fun S2=>DoQ S r S2 n er/\SOk S2 (c+700)) fp'] w'
theorem fL.of{n:Int}{w:World}(h:DoQ S r S2 n er)(ho:SOk S2 (c+700))(hs:St w fp ([]++[eSt sb db S2 fp']) w'):fL sb db S r c fp w (.returned (.tuple #[.int .i64 n,.int .i64 er])) w':=⟨n,er,rfl,fp',St.sx (L:=[]) hs ⟨h,ho⟩⟩
theorem SOk.rr(h:SOk S c)(q:List RcT):SOk {S with rr:=q} c:=⟨h.bufs,h.pgs,h.ws,h.time,h.ni,h.nt,h.right,h.nodup,h.len,h.keys,h.recs,h.log,h.lsz,h.fl,h.cl⟩
theorem Ev.rr(S:StM)(q:List RcT):Ev S {S with rr:=q}:=⟨rfl,rfl,rfl,rfl,rfl,fun r h=>h,rfl,rfl,.inl rfl,rfl,id,fun _=>rfl,fun j x y hx hy=>by have hy:S.D.pgs[j]? =some y:=hy;rw[hx] at hy;cases hy;exact⟨rfl,[],by simp,fun z hz=>by cases hz⟩,fun m _=>rfl⟩
theorem Ev.rows'(S:StM)(pg:PgR):Ev S (j4 S pg):=⟨rfl,rfl,rfl,rfl,rfl,fun r h=>List.mem_append_left _ h,rfl,rfl,.inl rfl,rfl,id,fun _=>rfl,fun j x y hx hy=>by have hy:S.D.pgs[j]? =some y:=hy;rw[hx] at hy;cases hy;exact⟨rfl,[],by simp,fun z hz=>by cases hz⟩,fun m _=>rfl⟩
theorem HM(h:(eSt sb db S fp).holds W){r:PgR}(hr:r∈S.rows):At W r.A (r.p.2.2.map Value.string):=by
 obtain⟨_,mb,RA,rc,EA,ec,ib,tb,fpd,_,_,h3⟩:=h
 exact iw (h3 (eM (S.rows.map dw)) (by simp[stL])).1 hr
theorem nw{n:Int}(h:SOk S c)(hn:0<=n/\n<(S.D.pgs.length:Int)):bt (f8 S n)=true:=by
 have h1:=cR (iG h n)
 have h2:=h.pgs
 have a1:inB n 0 65535=true:=by unfold inB;rw[Bool.and_eq_true,decide_eq_true_eq,decide_eq_true_eq];omega
 have a2:decide (((aG (aF S n)).size:Int)<=60000)=true:=decide_eq_true (by omega)
 show (inB 8 1 10&&(inB 0 0 127&&(inB n 0 65535&&(decide ((([]:List EdT).length:Int)<=64)&&((([]:List EdT).all edR)&&decide (((aG (aF S n)).size:Int)<=60000))))))=true
 rw[a1,a2];decide
theorem ld{n:Nat}(h:l.any (d8 n)=false)(he:e∈l):0<=e.1/\e.1<(n:Int):=by
 have h1:=(List.any_eq_false.1 h) e he
 unfold d8 at h1
 simp only[Bool.or_eq_true,decide_eq_true_eq,not_or] at h1
 omega
theorem D8(S:StM)(os:List Int)(n:Int)(h:(S.im n).getD false=false):szF (fq S (os++[n]))=szF (fq S os)+(aA (f8 S n)).size:=by
 rw[fq,qm,if_neg (by rw[h];decide),List.map_append];exact kA _ _
theorem DM(S:StM)(os:List Int)(n:Int)(h:(S.im n).getD false=true):eI S (os++[n])=eI S os:=by rw[qm,if_pos h]
theorem HW(S:StM)(os:List Int)(n:Int)(h:(S.im n).getD false=false):eI S (os++[n])=eI S os++[n]:=by rw[qm,if_neg (by rw[h];decide)]
theorem BU(os:List Int)(n:Int):os.map (Value.int .i64)++[.int .i64 n]=(os++[n]).map (Value.int .i64):=by rw[List.map_append];rfl
theorem Ke(S:StM)(os:List Int)(n:Int):os.flatMap (icC S)++icC S n=(os++[n]).flatMap (icC S):=by rw[List.flatMap_append];simp
theorem EI{k l l2:Int}{ss:List ByteArray}(h:bu k l ss=true)(hl:0<=l2/\l2<=2147483647):bu k l2 ss=true:=by
 unfold bu at h |-
 simp only[Bool.and_eq_true,decide_eq_true_eq] at h |-
 obtain⟨a,b,_,_,d⟩:=h
 exact⟨a,b,hl.1,hl.2,d⟩
theorem lY{l:Int}(h:bI p)(hl:0<=l/\l<=2147483647):bI (iy l p):=⟨EI h.1 hl,h.2⟩
theorem SOk.recs_len(h:SOk S c):S.recs.length<=1048576:=by
 have h1:=om h.recs
 have h3:=congrArg ByteArray.size h.log
 rw[cj] at h3
 have h2:S.L.length=S.recs.length:=List.length_map ..
 have:=h.lsz
 omega
theorem ej.rows{S:StM}{n:Int}(h:ej S n pg S2 er):∀p∈S.rows,p∈S2.rows:=by
 obtain⟨S1,h1,⟨_,rfl⟩|⟨_,_,rfl⟩⟩:=h
 exact h1.rows.1
 exact h1.rows.1
theorem jH(S:StM)(rt:RcT):(br S rt).1.rows=S.rows/\(br S rt).1.rr=S.rr/\(br S rt).1.im=S.im/\(br S rt).1.told=S.told/\(br S rt).1.pool=S.pool/\(br S rt).1.D.pgs=S.D.pgs/\(br S rt).1.D.fl=S.D.fl:=by
 obtain⟨a,b⟩:=BG S rt.r
 unfold br
 split<;>exact⟨rfl,rfl,rfl,rfl,rfl,a,b⟩
theorem xq(h:(br S rt).2=0):(br S rt).1.recs=S.recs++[rt]:=by
 unfold br at h |-
 split
 rename_i h1;rw[if_pos h1] at h;exact absurd h h1
 rfl
end
end Go.Proofs.YtcdjaepgahbhfaaGreat
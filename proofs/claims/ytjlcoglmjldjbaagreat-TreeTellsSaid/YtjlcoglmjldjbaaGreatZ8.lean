import Derived.Test.YtjlcoglmjldjbaaGreatZ7
import Derived.Test.YtjlcoglmjldjbaaGreatRows
import Derived.ProofKit
import Derived.OpenShut
import Derived.Below
import Derived.ChangeSame
import Derived.WideKeyArgs
import Derived.SliceStrings
import Derived.ChangeMaps5
import Derived.Lib.SmallJoins
import Derived.SizedLaws
import Derived.WalkKit
set_option linter.unusedVariables false
set_option linter.unusedSimpArgs false
set_option maxRecDepth 100000
set_option maxHeartbeats 16000000
namespace Go.Proofs.YtjlcoglmjldjbaaGreat
section
open Go.RowKit
def kB(l:List Int)(ps:List PgS)(S:List Nat):Prop:=∃T,Tr ps T 0/\(lfs T).Perm (S.map fun i=>(dy l i,-1))/\S.Nodup/\(∀i∈S,i<90)/\(∀q∈ps,q.2.2.length<=101)/\ps.length=60
theorem zQ(l:List Int):kB l (gY l) (List.range (min l.length 90)):=by
 obtain⟨T,nx,h1,h2⟩:=CQ l
 exact⟨T,h1.tr,h2,List.nodup_range,fun i hi=>by have:=List.mem_range.1 hi;omega,h1.its,h1.len⟩
def vT(S:List Nat)(k:Nat):List Nat:=S.filter fun i=>!(i==k)
theorem Gv{S:List Nat}{k i:Nat}:i∈vT S k<->i∈S/\i≠k:=by simp[vT]
theorem G7{l:List Int}{ps:List PgS}{S:List Nat}(h:kB l ps S){k:Nat}(hk:k<90):(rmF ps 0 (dy l k)).2=decide (k∈S)/\kB l (doB ps (rmF ps 0 (dy l k)).1) (vT S k):=by
 obtain⟨T,h1,h2,h3,h4,h5,h6⟩:=h
 have hz:4<=(dy l k).size:=by rw[dy,dx];omega
 obtain⟨T',g1,g2,g3,_⟩:=h1.rm (x:=dy l k) hz (by omega) h5
 have hin:(∃e∈lfs T,e.1=dy l k)<->k∈S:=by
  constructor
  rintro⟨e,he,hx⟩
  obtain⟨j,hj,rfl⟩:=List.mem_map.1 (h2.mem_iff.1 he)
  have:=qJ (by have:=h4 j hj;omega) (by omega) hx
  rwa [<-this]
  intro hk
  exact⟨_,h2.mem_iff.2 (List.mem_map.2 ⟨k,hk,rfl⟩),rfl⟩
 refine⟨?_,T',g1,?_,h3.filter _,fun i hi=>h4 i (Gv.1 hi).1,vk h5,by rw[ct];exact h6⟩
 cases hb:(rmF ps 0 (dy l k)).2 with
 |true=>rw[decide_eq_true (hin.1 (g3.1 hb))]
 |false=>rw[decide_eq_false];intro hk;rw[g3.2 (hin.2 hk)] at hb;cases hb
 rw[g2,f9]
 refine(h2.filter _).trans (List.Perm.of_eq ?_)
 rw[List.filter_map,vT]
 congr 1
 refine List.filter_congr fun i hi=>?_
 show (!((dy l i).toList==(dy l k).toList))=!(i==k)
 congr 1
 by_cases e:i=k
 subst e;simp
 have:¬dy l i=dy l k:=fun h=>e (qJ (by have:=h4 i hi;omega) (by omega) h)
 rw[show (i==k)=false by rw[beq_eq_false_iff_ne];exact e]
 cases hc:((dy l i).toList==(dy l k).toList) with
 |true=>exact absurd (pH.1 hc) this
 |false=>rfl
theorem zL{l:List Int}{ps:List PgS}{S:List Nat}(h:kB l ps S):d7 ps 0=0:=by
 obtain⟨T,h1,_,_,_,_,h6⟩:=h
 exact h1.check (by omega)
theorem C1{l:List Int}{ps:List PgS}{S:List Nat}(h:kB l ps S):(cu ps 0).length=S.length/\S.Nodup/\S.length<=90:=by
 obtain⟨T,h1,h2,h3,h4,_,h6⟩:=h
 refine⟨by rw[<-List.length_map (f:=kv),h1.all (by omega),h2.length_eq,List.length_map],h3,?_⟩
 have:=tC (m:=List.range 90) h3 fun i hi=>List.mem_range.2 (h4 i hi)
 rwa [List.length_range] at this
theorem F6{l:List Int}{ps:List PgS}{S:List Nat}(h:kB l ps S){i:Nat}(hi:i<(cu ps 0).length):∃j∈S,j<90/\((cu ps 0).getD i en0).1=dy l j:=by
 obtain⟨T,h1,h2,h3,h4,_,h6⟩:=h
 obtain⟨e,he⟩:∃z,(cu ps 0).getD i en0=z:=⟨_,rfl⟩
 have hm:e∈cu ps 0:=by rw[<-he];exact(cz hi).2
 have hk:kv e∈lfs T:=by rw[<-h1.all (by omega)];exact List.mem_map.2 ⟨e,hm,rfl⟩
 obtain⟨j,hj,hje⟩:=List.mem_map.1 (h2.mem_iff.1 hk)
 refine⟨j,hj,h4 j hj,?_⟩
 rw[he]
 exact(congrArg Prod.fst hje).symm
end
section
open Go.RowKit
theorem A3{x:ByteArray}{k:ByteArray}{p s:Int}(h:x=bz k p s)(hp:0<=p/\p<65536)(hs:0<=s/\s<65536):qkF x=k/\opF x=p/\osF x=s/\bz (qkF x) (opF x) (osF x)=x:=by
 have hz:¬(bz k p s).size<4:=by rw[dx];omega
 have h1:qkF x=k:=by rw[h,qkF,if_neg hz,F8]
 have h2:opF x=p:=by rw[h,opF,if_neg hz,tp];omega
 have h3:osF x=s:=by rw[h,osF,if_neg hz,tG];omega
 exact⟨h1,h2,h3,by rw[h1,h2,h3,h]⟩
theorem vr{ps:List PgS}{x:ByteArray}(hok:OkS ps):∀(k:Nat) (w:WkT),∃(pg:Int) (es:List EnD),es.length<=100000/\(rmG ps x k w).1=ba pg es
 |0,w=>⟨0,[],by simp,rfl⟩
 |k+1,w=>by
  obtain⟨pos,st,fm,fin⟩:=w
  rcases hR:wkN ps ⟨pos,st,fm,fin⟩ with ⟨w1,_|_|nd⟩
  exact⟨0,[],by simp,by rw[rL hR];rfl⟩
  rw[q9 hR];exact vr hok k w1
  have hN:=(cO hok (wu hR)).len
  exact⟨pos,bC x nd.es,Nat.le_trans (List.length_filter_le _ _) (by omega),by rw[qZ hR]⟩
theorem KI{ps:List PgS}(hok:OkS ps)(root:Int)(x:ByteArray)(M:Nat):EdM M (rmF ps root x).1:=by
 obtain⟨pg,es,_,h⟩:=vr (x:=x) hok 1000 ⟨root,0,x,false⟩
 rw[rmF,h];exact nZ _ _ _
theorem KF{ps:List PgS}(hok:OkS ps)(hc:C8 ps)(root:Int)(x:ByteArray):C8 (doB ps (rmF ps root x).1):=by
 obtain⟨pg,es,_,h⟩:=vr (x:=x) hok 1000 ⟨root,0,x,false⟩
 rw[rmF,h];exact fun i=>Nat.le_trans (iH (lz pg es i)) (hc i)
theorem Dm{l:List Int}{ps:List PgS}{S:List Nat}(h:kB l ps S){i:Nat}(hi:i<(cu ps 0).length):∃j:Nat,j∈S/\j<90/\qkF ((cu ps 0).getD i en0).1=d9 (l.getD j 0)/\opF ((cu ps 0).getD i en0).1=1+(j:Int) / 8/\osF ((cu ps 0).getD i en0).1=1+(j:Int) % 8/\(qkF ((cu ps 0).getD i en0).1).size<=2/\bz (qkF ((cu ps 0).getD i en0).1) (opF ((cu ps 0).getD i en0).1) (osF ((cu ps 0).getD i en0).1)=((cu ps 0).getD i en0).1/\((cu ps 0).getD i en0).1.size<=6:=by
 obtain⟨j,h1,h2,h3⟩:=F6 h hi
 obtain⟨a,b,c,d⟩:=A3 (k:=d9 (l.getD j 0)) (p:=1+(j:Int) / 8) (s:=1+(j:Int) % 8) h3 ⟨by omega,by omega⟩ ⟨by omega,by omega⟩
 refine⟨j,h1,h2,a,b,c,?_,d,?_⟩
 rw[a];exact fo _
 rw[h3,dy,dx];have:=fo (l.getD j 0);omega
theorem HQ(x:Int)(n:Nat)(w:World)(hn0:0<n)(hn9:n<=100000):
  Calls Tryz.prog 8 #[.int .i64 x,.int .i64 ((n:Int))] w (Ret (.int .i64 ((x.tmod (n:Int)+(n:Int)).tmod (n:Int))) w):=by
 have h1_:=Int.lt_tmod_of_pos x (b:=(n:Int)) (by omega)
 have h2_:=Int.tmod_lt_of_pos x (b:=(n:Int)) (by omega)
 go_enter Tryz.func8,Tryz.ntmps8
 have ar:=St.start w
 refine wp_seq (sqr (sqp [.k 4 (vi 0)] ?_))
 refine aa (wp_seq (sqr (sqp [.m 5 0,.m 6 1] ?_)))
 refine sql (vi ((x.tmod (n:Int)))) ar (fun cx=>tK rfl (cx.ou 5) (cx.ou 6) (by omega) (rfl)) ?_
 refine sqp [.m 8 1,sI 9 ((x.tmod (n:Int))+(n:Int)) (by omega),.m 10 1] ?_
 refine sql (vi ((((x.tmod (n:Int))+(n:Int)).tmod (n:Int)))) ar (fun cx=>tK rfl (cx.ou 9) (cx.ou 10) (by omega) (rfl)) ?_
 refine sqp [.m 4 11] ?_
 refine aa (wp_ret ?_)
 refine bpr (vi ((((x.tmod (n:Int))+(n:Int)).tmod (n:Int)))) (ai Tryz.results8 rpt) ?_
 exact Ret.of rfl ar.ext
end
section
open Go.RowKit
theorem Kz{r r':List EdT×Bool}{f:FuncId}{args:Array Value}{w:World}(h:r=r')(hc:Calls Tryz.prog f args w (vo r w)):Calls Tryz.prog f args w (vo r' w):=h ▸ hc
theorem KK{r r':List EdT×Bool}{f:FuncId}{args:Array Value}{w:World}(h:r=r')(hc:Calls Tryz.prog f args w (vQ r w)):Calls Tryz.prog f args w (vQ r' w):=h ▸ hc
theorem B9(A:Option Addr)(n c k:Nat)(w:World)(hc:n<=c):
  Calls Tryz.prog 7 #[.slice A n c,.int .i64 ((k:Int))] w (Ret (.slice A (min n k) c) w):=by
 go_enter Tryz.func7,Tryz.ntmps7
 have ar:=St.start w
 refine wp_seq (sqr (sqp [.k 4 (.slice none 0 0)] ?_))
 refine aa (wp_seq (wp_seq (sqr (sqp [.m 5 0,.k 6 (vi ((n:Int))),.m 7 1,.k 8 (.bool (decide ((k:Int)<(n:Int))))] ?_))))
 refine aa (wds (fun sq Nx=>?_) fun sq Nx=>?_)
 refine wp_seq (sqr (sqp [.m 9 0,.m 10 1] ?_))
 refine sql (.slice A k c) ar (fun cx=>fH (e:=3) (sz:=1) (m:=k) rfl (by kernel_rfl) (by kernel_rfl) (cx.ou 9) (cx.ou 10) (by omega) (by omega)) ?_
 refine sqp [.m 4 11] ?_
 refine aa (wp_ret (af ?_))
 refine bpr (.slice A k c) (ai Tryz.results7 rpt) ?_
 exact Ret.of (by rw[show min n k=k by omega]) ar.ext
 refine wp_skip (aa (wp_seq (sqr (sqp [.m 12 0,.m 4 12] ?_))))
 refine aa (wp_ret ?_)
 refine bpr (.slice A n c) (ai Tryz.results7 rpt) ?_
 exact Ret.of (by rw[show min n k=n by omega]) ar.ext
theorem vE(i:Nat)(w:World)(hi:i<=1000000):
  Calls Tryz.prog 11 #[.int .i64 ((i:Int))] w (Ret (.agg #[.int .i64 (1+(i:Int) / 8),.int .i64 (1+(i:Int) % 8)]) w):=by
 go_enter Tryz.func11,Tryz.ntmps11
 have ar:=St.start w
 refine wp_seq (sqr (bF #[vi 0,vi 0] ar fun bW W1 aE=>?_))
 refine aa (wp_seq (sqr (sqp [.m 3 0,sQu 4 .i64 (i:Int) 8 ((i:Int) / 8) (by rw[Int.tdiv_eq_ediv_of_nonneg (by omega)];exact IntWalk.i64_in _ (by omega)),sI 5 (1+((i:Int) / 8)) (by omega),.m 6 0,sRe 7 .i64 (i:Int) 8 ((i:Int) % 8) (Int.tmod_eq_emod_of_nonneg (by omega)),sI 8 (1+((i:Int) % 8)) (by omega),.k 9 (.agg #[vi (1+((i:Int) / 8)),vi (1+((i:Int) % 8))])] ?_)))
 refine aD (n:=2) 0 #[vi (1+((i:Int) / 8)),vi (1+((i:Int) % 8))] aE fun W9 be=>?_
 refine aa (wp_ret ?_)
 refine bpr (.agg #[vi (1+((i:Int) / 8)),vi (1+((i:Int) % 8))]) (aJ (n:=2) Tryz.results11 rfl (by kernel_rfl) (by kernel_rfl) (be.blk 0 rfl) rfl) ?_
 exact Ret.of rfl be.ext
theorem FL{ps:List PgS}(hok:OkS ps)(root:Int)(x:ByteArray):(rmF ps root x).1.length<=1000:=by
 obtain⟨k,w,hkw⟩:∃k w,rmF ps root x=rmG ps x k w:=⟨_,_,rfl⟩
 rw[hkw];clear hkw
 induction k generalizing w with
 |zero=>exact Nat.zero_le _
 |succ k ih=>
  obtain⟨pos,st,fm,fin⟩:=w
  rcases hR:wkN ps ⟨pos,st,fm,fin⟩ with ⟨w1,_|_|nd⟩
  rw[rL hR];exact Nat.zero_le _
  rw[q9 hR];exact ih w1
  have hN:=(cO hok (wu hR)).len
  rw[qZ hR];show (ba _ _).length<=1000;rw[qY];exact Nat.le_trans (List.length_filter_le _ _) (by omega)
theorem uS(A G:Option Addr)(n0 c g0 gc:Nat)(l gone:List Int)(x:Int)(w:World)(hA:At w A (l.map (Value.int .i64)))(hn:l.length=n0)(hc:n0<=c)(hG:At w G (gone.map (Value.int .i64)))(hg:gone.length=g0):
  Calls Tryz.prog 3 #[.slice A n0 c,.slice G g0 gc,.int .i64 x] w (Ret (.bool true) w):=by
 go_enter Tryz.func3,Tryz.ntmps3
 have ar:=St.start w
 refine wp_seq (sqr (sqp [.k 6 (.bool false)] ?_))
 refine aa (wp_seq (sqr (sqk (.bool true) ar (fun cx=>⟨_,wC _,zx⟩) fun W2 aN=>?_)))
 refine sqp [.k 7 (.bool true)] ?_
 refine aa (wp_seq (sqr (sqp [.m 17 0] ?_)))
 refine sh (fun ie=>vp ie) (fun ie EK=>eBk ie (gY l) EK) aN (fun cx=>⟨_,(zR _ _ _ l _ (hA.ext cx.upd.to_ext) (by first|(rw[List.length_take];omega)|omega)).mono (by rintro e W1 ⟨B4,fp4,rfl,aM⟩;exact⟨_,_,rfl,aM⟩),(bp (cx.ou 17))⟩) fun ie EK W5 bw=>?_
 refine sqp [.m 8 18] ?_
 refine aa (wp_seq (sqr (sqp [.m 19 0] ?_)))
 refine sqk (.slice A ((min n0 90)) c) bw (fun cx=>⟨_,B9 A n0 c 90 _ hc,(aI (cx.ou 19) (cx.co _))⟩) fun W8 bj=>?_
 refine sqp [.m 9 20] ?_
 refine aa (wp_seq (wp_seq ?_))
 obtain⟨i,Ny⟩:∃z,(min n0 90)=z:=⟨_,rfl⟩
 rw[Ny]
 refine sqr (sqp [.k 10 (vi 0)] ?_)
 refine aa (wp_block ?_)
 obtain⟨b0,hb0⟩:∃z,gY l=z:=⟨_,rfl⟩
 obtain⟨S0,hS0⟩:∃z,List.range i=z:=⟨_,rfl⟩
 rw[hb0] at bj
 have htl_:(l.take i).length=i:=by rw[List.length_take];omega
 have hgr0:=CX l
 rw[hb0] at hgr0
 have hso0:kB l b0 S0:=by rw[<-hb0,<-hS0,show i=min l.length 90 by omega];exact zQ l
 refine aL (fun t_ mz az W=>∃j:Nat,∃ps:List PgS,∃S:List Nat,∃fb:List Nat,j<=g0/\BdM 54016 ps/\ps.length=60/\C8 ps/\kB l ps S/\mz=g0-j/\az=⟨(ovr (jv az) [(6,6,1,[]),(3,10,0,[vi ((j:Int))]),(0,11,5,[]),(5,21,59,[])] t_).toArray,[]⟩/\St w [] [eBk ie ps fb] W) (g0-0) ?_ ?_
 exact⟨0,b0,S0,EK,Nat.zero_le _,hgr0.1,hgr0.2.1,hgr0.2.2,hso0,rfl,(by kernel_rfl),bj.pk [0]⟩
 rintro IF a11 oK ⟨j,ps,S,fb,hj,hpb,nA,hc8,hso,rfl,hj_,bY⟩
 refine ovz hj_ fun Em=>?_
 have hok:=hpb.ok (by omega) (by omega)
 have hoc:=hc8.okc
 have hnk:ps.length<=1000:=by omega
 refine wp_seq (wp_seq (sqr (sqp [.m 21 10,.m 22 1,.k 23 (vi ((g0:Int))),.k 24 (.bool (decide ((j:Int)<(g0:Int)))),.m 25 24] ?_)))
 refine sqw 25 [26,27] rfl (fun _=>sqp [.m 26 10,.k 27 (.bool (decide ((j:Int)<90)))] sqe) ?_
 refine sqp [sPa 28 (decide ((j:Int)<(g0:Int))) (decide ((j:Int)<90)),.m 29 28] ?_
 refine sqw 29 [30,31,32] rfl (fun _=>sqp [.m 30 9,.k 31 (vi ((i:Int))),.k 32 (.bool (decide (0<(i:Int))))] sqe) ?_
 refine sqp [sPa 33 ((decide ((j:Int)<(g0:Int)))&&(decide ((j:Int)<90))) (decide (0<(i:Int)))] ?_
 refine aa (wbs (fun nC=>?_) fun nC=>?_)
 have kG:=nC
 simp only[zB] at kG
 obtain⟨⟨Jz,JA⟩,PJ⟩:=kG
 refine wp_skip (aa (wp_seq (wp_block (wp_seq (sqr (sqp [.m 36 1,.m 37 10] ?_))))))
 refine sql (.pointer (some ((ad G).add j))) bY (fun cx=>ay (e:=3) (m:=j) rfl (by kernel_rfl) (by kernel_rfl) (cx.ou 36) (cx.ou 37) (by omega) (by omega) (hG.ext cx.upd.to_ext) (by rw[List.length_map]<;>omega)) ?_
 refine sql (vi (gone.getD j 0)) bY (fun cx=>ae rfl (by kernel_rfl) (cx.ou 38) (At.cellAd (hG.ext cx.upd.to_ext) (bX (by omega)))) ?_
 refine sqp [.m 40 9,.k 41 (vi ((i:Int)))] ?_
 refine sqk (vi ((((gone.getD j 0).tmod (i:Int)+(i:Int)).tmod (i:Int)))) bY (fun cx=>⟨_,HQ (gone.getD j 0) i _ (by omega) (by omega),(aI (cx.ou 39) (cx.ou 41))⟩) fun JB eo=>?_
 refine sqp [.m 11 42] ?_
 refine aa (wp_seq ?_)
 obtain⟨kz,Fr⟩:∃z,(((gone.getD j 0).tmod (i:Int)+(i:Int)).tmod (i:Int))=z:=⟨_,rfl⟩
 rw[Fr]
 have hk1_:=Int.tmod_nonneg (a:=(gone.getD j 0).tmod (i:Int)+(i:Int)) (i:Int) (by have h_:=Int.lt_tmod_of_pos (gone.getD j 0) (b:=(i:Int)) (by omega);omega)
 have hk2_:=Int.tmod_lt_of_pos ((gone.getD j 0).tmod (i:Int)+(i:Int)) (b:=(i:Int)) (by omega)
 rw[Fr] at hk1_ hk2_
 obtain⟨kn,rfl⟩:∃z:Nat,kz=(z:Int):=⟨kz.toNat,by omega⟩
 have hkn:kn<90:=by omega
 have hsr:=G7 hso hkn
 have hgk:l.getD kn 0=(l.take i).getD kn 0:=by rw[List.getD_eq_getElem?_getD,List.getD_eq_getElem?_getD,List.getElem?_take,if_pos (by omega)]
 have hRe:dy l kn=bz (d9 ((l.take i).getD kn 0)) (1+(kn:Int) / 8) (1+(kn:Int) % 8):=by rw[dy,hgk]
 obtain⟨R,hR⟩:∃z,rmF ps 0 (dy l kn)=z:=⟨_,rfl⟩
 rw[hR] at hsr
 have hedl:R.1.length<=1000:=by rw[<-hR];exact Nat.le_trans (FL hok _ _) (by decide)
 refine sqr (sqp [.m 44 8] ?_)
 refine sqv (.iface 24 (vp ie)) eo (by
   exact sv0 rfl rfl rfl rfl rfl (fun _ _ _ h=>h) fun d f W X cx=>by
    have Nz:d (.tmp 44)=vp ie:=(cx.ou 44)
    simp[go_sem,Nz]) fun Ot sL=>?_
 refine sqp [.m 46 9,.m 47 11] ?_
 refine sql (.pointer (some ((ad A).add kn))) sL (fun cx=>ay (e:=3) (m:=kn) rfl (by kernel_rfl) (by kernel_rfl) (cx.ou 46) (cx.ou 47) (by omega) (by omega) (At.take_mapI (hA.ext cx.upd.to_ext) i) (by rw[List.length_map]<;>omega)) ?_
 refine sql (vi (((l.take i)).getD kn 0)) sL (fun cx=>ae rfl (by kernel_rfl) (cx.ou 48) (At.cellAd (At.take_mapI (hA.ext cx.upd.to_ext) i) (bX (by omega)))) ?_
 refine sqk (.string (d9 (((l.take i)).getD kn 0))) sL (fun cx=>⟨_,ng (((l.take i)).getD kn 0) _,(bp (cx.ou 49))⟩) fun Cd eL=>?_
 refine sqp [.m 51 11] ?_
 refine sqk (.agg #[vi (1+(kn:Int) / 8),vi (1+(kn:Int) % 8)]) eL (fun cx=>⟨_,vE kn _ (by omega),(bp (cx.ou 51))⟩) fun y4 dl=>?_
 refine ff (fun mR mS=> .tuple #[.slice mR R.1.length mS,.bool R.2]) (fun mR mS=>eO 67 3 (.slice mR R.1.length mS) R.1.length (R.1.flatMap edC)) dl (fun cx=>⟨_,(Kz (by rw[<-hRe,hR]) (x6 _ _ 0 (d9 (((l.take i)).getD kn 0)) (1+(kn:Int) / 8) (1+(kn:Int) % 8) ps _ (gz (mC (CtxV.holdF cx (cx.init 0 _ rfl) rfl)) hnk) hok hoc (Nat.le_trans (fo _) (by decide)))).mono (by rintro e W1 ⟨A4,c4,rfl,aM⟩;exact⟨_,_,rfl,aM⟩),(vY (cx.ou 45) (cx.co _) (cx.ou 50) (cx.ou 52))⟩) fun mR mS Jg em=>?_
 refine sqp [.m 43 53,.k 54 (.slice mR R.1.length mS),.k 55 (.bool R.2),.m 12 54,.m 13 55] ?_
 refine aa (wp_seq (sqr (sqp [.m 56 8,.m 57 9,.m 58 11] ?_)))
 refine sql (.pointer (some ((ad A).add kn))) em (fun cx=>ay (e:=3) (m:=kn) rfl (by kernel_rfl) (by kernel_rfl) (cx.ou 57) (cx.ou 58) (by omega) (by omega) (At.take_mapI (hA.ext cx.upd.to_ext) i) (by rw[List.length_map]<;>omega)) ?_
 refine sql (vi (((l.take i)).getD kn 0)) em (fun cx=>ae rfl (by kernel_rfl) (cx.ou 59) (At.cellAd (At.take_mapI (hA.ext cx.upd.to_ext) i) (bX (by omega)))) ?_
 refine sqk (.string (d9 (((l.take i)).getD kn 0))) em (fun cx=>⟨_,ng (((l.take i)).getD kn 0) _,(bp (cx.ou 60))⟩) fun JF fE=>?_
 refine sqp [.m 62 11] ?_
 refine sqk (.agg #[vi (1+(kn:Int) / 8),vi (1+(kn:Int) % 8)]) fE (fun cx=>⟨_,vE kn _ (by omega),(bp (cx.ou 62))⟩) fun LM dk=>?_
 refine ff (fun pz pB=> .agg #[.slice pz R.1.length pB,.bool R.2]) (fun pz pB=>eO 67 3 (.slice pz R.1.length pB) R.1.length (R.1.flatMap edC)) dk (fun cx=>⟨_,(KK (by rw[<-hRe,hR]) (x3 _ 0 (d9 (((l.take i)).getD kn 0)) (1+(kn:Int) / 8) (1+(kn:Int) % 8) ps _ (mC (CtxV.holdF cx (cx.init 0 _ rfl) rfl)) hok (Nat.le_trans (fo _) (by decide)))).mono (by rintro e W1 ⟨A4,c4,rfl,aM⟩;exact⟨_,_,rfl,aM⟩),(vY (cx.ou 56) (cx.co _) (cx.ou 61) (cx.ou 63))⟩) fun pz pB OS Al=>?_
 refine bF #[.slice none 0 0,.bool false] Al fun CN Pr Av=>?_
 refine aD (n:=2) 3 #[.slice pz R.1.length pB,.bool R.2] Av fun LS ny=>?_
 refine aa (wp_seq (sqr (sqp [.m 65 12,.k 66 (vp CN)] ?_)))
 refine am 3 ny ?_
 refine sqk (.bool true) ny (fun cx=>⟨_,lx _ _ _ _ R.1 _ (At.of_ownN (cx.ri 1 rfl)) (At.of_ownN (cx.ri 2 rfl)) hedl,(aI (cx.ou 65) (cx.ou 67))⟩) fun JK je=>?_
 refine sqp [.k 15 (.bool true)] ?_
 refine aa (wp_seq (wp_seq (sqr (sqp [.k 69 (.bool true),.k 70 (.bool false),.k 71 (.bool false)] ?_))))
 refine il 71 [72,73,74,75] rfl rfl ?_
 refine sqp [.m 72 13,.k 73 (.pointer (some ⟨CN,1,none⟩))] ?_
 refine am 3 je ?_
 refine sqv (.bool (!(R.2==R.2))) je (by
   exact sv0 rfl rfl rfl rfl rfl (fun _ _ _ h=>h) fun d f W X cx=>by
    have NA:d (.tmp 72)= .bool R.2:=(cx.ou 72)
    have EG:d (.tmp 74)= .bool R.2:=(cx.ou 74)
    simp[go_sem,NA,EG]) fun LO pS=>?_
 refine sqp [.k 76 (.bool (!(R.2==R.2)))] ?_
 refine aa ?_
 rcases Bool.eq_false_or_eq_true (R.2==R.2) with kt|kt
 have p8:=beq_iff_eq.1 kt
 refine wp_cond_false (show Act.eval _ _= .bool false from(congrArg Value.bool (by rw[kt];rfl))) (wp_skip (aa (sqr (sqp [.m 77 8,.m 78 12] ?_))))
 refine ry (fun X_=>X_.fp) (.tuple #[]) (fun AC=>eBk ie (doB ps R.1) AC) 0 pS (by
   refine svA fun d f W X cx=>?_
   refine aC.call (aB (args:=#[vp ie,.slice mR R.1.length mS]) rfl cx.sees rfl (by kernel_rfl) (aI (cx.ou 77) (cx.ou 78))) ?_
   refine(mx ie ps _ 60 _ _ R.1 _ (CtxV.holdF cx (cx.init 0 _ rfl) rfl) (CtxV.ltF cx (cx.init 0 _ rfl) rfl) (CtxV.keepAt cx (cx.init 1 _ rfl) (cx.init 0 _ rfl) rfl rfl (by decide)) (Nat.le_trans hedl (by decide)) nA (by decide) hpb.its).mono ?_
   rintro e W1 ⟨rfl,fp4,aM⟩
   refine⟨_,rfl,bJ (E:=eBk ie ps fb) [eBk ie (doB ps R.1) fp4] (cx.init 0 _ rfl) rfl rfl aM (fun o g X' hs hb hv hN=>?_)⟩
   have aW:=(hv 79 rfl).1;have aG:=(hv 79 rfl).2
   exact⟨aW.trans rfl,kO ((List.cons.inj hN).1)⟩) fun AC y3 dN=>?_
 refine ax (aa (sqr (sqp [.m 34 10,sI 35 ((j:Int)+1) (by omega),.m 10 35] ?_)))
 refine aa ?_
 refine⟨g0-((j+1)),by omega,?_⟩
 exact⟨(j+1),(doB ps R.1),(vT S kn),AC,by omega,hpb.do (by rw[<-hR];exact KI hok _ _ _),by rw[ct];exact nA,by rw[<-hR];exact KF hok hc8 _ _,hsr.2,rfl,(by kernel_rfl),dN.pk [0]⟩
 have p8:=beq_eq_false_iff_ne.1 kt
 refine wp_cond_true (show Act.eval _ _= .bool true from(congrArg Value.bool (by rw[kt];rfl))) (wp_seq (sqr (sqp [.k 6 (.bool false)] ?_)))
 refine aa (wp_ret (af (aq (af (af (aq (af ?_)))))))
 refine bpr (.bool false) (ai Tryz.results3 rpt) ?_
 exfalso
 simp at kt
 have kG:=nC
 simp only[zB] at kG
 refine wp_exit (aj (aj (aO (aa (wp_seq ?_)))))
 have hck:=zL hso
 have hsl:=C1 hso
 have hent:∀q,q<(cu ps 0).length->bz (qkF ((cu ps 0).getD q en0).1) (opF ((cu ps 0).getD q en0).1) (osF ((cu ps 0).getD q en0).1)=((cu ps 0).getD q en0).1/\(qkF ((cu ps 0).getD q en0).1).size<=1000:=fun q hq=>by obtain⟨_,_,_,_,_,_,h5_,h6_,_⟩:=Dm hso hq;exact⟨h6_,Nat.le_trans h5_ (by decide)⟩
 refine sqr (sqp [.k 80 (.bool true),.k 81 (.bool true)] ?_)
 refine il 81 [82,83] rfl rfl ?_
 refine sqp [.m 82 8] ?_
 refine sqk (.bool true) bY (fun cx=>⟨_,Bh _ 0 ps _ (mC (CtxV.holdF cx (cx.init 0 _ rfl) rfl)) hnk hok hoc hck (by omega) hent,(aI (cx.ou 82) (cx.co _))⟩) fun LX pV=>?_
 refine sqp [.k 84 (.bool true),.k 85 (.bool true)] ?_
 refine il 85 [86,87,88,89] rfl rfl ?_
 refine sqp [.m 86 8,.m 87 2] ?_
 refine sqk (.string (d9 x)) pV (fun cx=>⟨_,ng x _,(bp (cx.ou 87))⟩) fun Ob uY=>?_
 refine sqk (.bool true) uY (fun cx=>⟨_,rF _ 0 (d9 x) ps _ (mC (CtxV.holdF cx (cx.init 0 _ rfl) rfl)) hnk hok hoc (Nat.le_trans (fo _) (by decide)),(dH (cx.ou 86) (cx.co _) (cx.ou 88))⟩) fun Of u1=>?_
 refine sqp [.k 90 (.bool true),.k 91 (.bool true)] ?_
 refine il 91 [92,93] rfl rfl ?_
 refine sqp [.m 92 8] ?_
 refine sqk (.bool true) u1 (fun cx=>⟨_,rF _ 0 (⟨#[]⟩:ByteArray) ps _ (mC (CtxV.holdF cx (cx.init 0 _ rfl) rfl)) hnk hok hoc (by decide),(dH (cx.ou 92) (cx.co _) (cx.co _))⟩) fun E4 eN=>?_
 refine sqp [.k 94 (.bool true),.k 6 (.bool true)] ?_
 refine aa (wp_ret ?_)
 refine bpr (.bool true) (ai Tryz.results3 rpt) ?_
 exact Ret.bool rfl eN.ext
end
section
open Go.ChangeShapes Go.WideShapes Go.ChangeAt Go.RowKit Go.Deep Go.Joins
theorem vI:ownKnob Tryz.prog.godebug=none:=by kernel_rfl
theorem GB:laidOutB Tryz.prog=true:=by kernel_rfl
section
variable{H:Type}{enc:TypeId×Value->H}{P:Program}
theorem nP(hl:laidOutB P=true){W W':World}{sp:Nat->Bool}:∀{ts:List TypeId}{vs:List Value}{ds:List (DataW H)}{ps:List MemPlace},(∀t∈ts,P.readableRec t=true/\t<P.types.size)->
  DataW.TrodAll enc P W 0 (fun _=>true) true ts vs ds ps->(∀p∈ps,W.sameAt W' p)->(∀p∈ps,sp p.block=true)->DataW.TrodAll enc P W' 0 sp true ts vs ds ps
 | [],[],[],_,_,h,_,_=>h
 |t:: _,_:: _,_:: _,_,hT,⟨p,q,h1,h2,e⟩,hsm,hs=>
  ⟨p,q,WideElems.Trod_stays hl (hT t (by simp)).1 (hT t (by simp)).2 h1 (fun x hx=>hsm x (by rw[e];exact List.mem_append_left _ hx)) (fun x hx=>hs x (by rw[e];exact List.mem_append_left _ hx)),
    nP hl (fun t ht=>hT t (by simp[ht])) h2 (fun x hx=>hsm x (by rw[e];exact List.mem_append_right _ hx)) (fun x hx=>hs x (by rw[e];exact List.mem_append_right _ hx)),e⟩
theorem DJ{f:Func}{s:ChangeSpec}{fresh handsOn again:Bool}{W W':World}{args:Array Value}{ds gs:List (DataW H)}{before:List MemPlace}{tb:TypeId}
  (hl:laidOutB P=true) (hT:∀t∈f.params.toList,P.readableRec t=true/\t<P.types.size) (hr:f.resultTypes=#[tb]) (hb:P.underlying tb=some .bool)
  (hW:DataW.Whole enc P f.params.toList s.vars false W args.toList ds gs before) (hvs:s.vars=[])
  (hres:(s.fn H (ds++gs)).results=[.lit (.bool true)]) (hargs:(s.fn H (ds++gs)).args=ds) (hvars:(s.fn H (ds++gs)).vars=[]) (hx:Ext W W'):
  s.post enc P f false fresh handsOn again W args (.bool true) W':=by
 have hlt:∀p∈before,p.block<W.heap.size:=fun p hp=>hW.lt p hp
 have hold:∀p∈before,(fun b=>decide (b<W.heap.size)) p.block=true:=fun p hp=>by simpa using hlt p hp
 have hW0:=hW
 obtain⟨p,q,hA,hV,rfl,hz,hn⟩:=hW
 rw[hvs] at hV
 obtain⟨rfl,rfl⟩:=trodVars_none hV
 rw[List.append_nil] at hlt hold hz
 have HA:∀sp:Nat->Bool,(∀x∈p,sp x.block=true)->DataW.TrodAll enc P W' 0 sp true f.params.toList args.toList (s.fn H (ds++[])).args p:=fun sp hs=>by
  rw[hargs]
  exact nP hl hT hA (fun x hx'=>hx.out.same (hlt x hx')) hs
 have HR:∀(b:Nat) (sp:Nat->Bool) (hd:Bool),DataW.TrodAll enc P W' b sp hd f.resultTypes.toList ((Value.bool true).resultList f.resultTypes.size) (s.fn H (ds++[])).results []:=fun b sp hd=>by
  rw[hres,hr]
  exact trodAll_cons_mk (shut_bool hb _) trodAll_mk0
 have HV:∀sp:Nat->Bool,DataW.TrodVars enc P W' sp s.vars (s.fn H (ds++[])).vars []:=fun sp=>by
  rw[hvs,hvars]
  rfl
 refine⟨ds,[],p++[],[],p,[],hW0,HR _ _ _,HA _ hold,HV _,World.keptBut_mono (fun x hx'=>⟨hx',?_⟩) (hx.out.frame (·∈p++[])),fun _=>?_⟩
 rw[List.append_nil] at hx'
 exact Or.inr (Or.inl hx')
 refine⟨?_,_,_,([]++p)++[],⟨[]++p,[],trodAll_append (HA _ (fun _ _=>rfl)) (HR _ _ _),HV _,rfl,?_,fun ha=>by cases ha⟩,?_⟩
 exact ok_one hr rfl (okWide_bool_mk hb _)
 intro b off hp
 have hin:MemPlace.cell b off∈p:=by simpa using hp
 rw[hx.out.frozen (hlt _ hin)]
 exact hz b off hin
 intro x hx' _
 simpa using hx'
end
end
section
open Go.ChangeShapes Go.WideShapes Go.ChangeAt Go.RowKit Go.Deep Go.Joins
inductive Sh where
 |int (k:IntKind)
 |bool
 |str
 |sl (e:Sh) (bs:Nat)
 |st (fs:List Sh)
mutual
def Sh.n:Sh->Nat
 | .st fs=>Sh.ns fs
 | .int _=>1
 | .bool=>1
 | .str=>1
 | .sl _ _=>1
def Sh.ns:List Sh->Nat
 | []=>0
 |f::fs=>f.n+Sh.ns fs
end
mutual
def lF(w:World):Sh->List Value->Prop
 | .int k,cs=>∃z,cs=[.int k z]/\(Lit.int k z).wf=true
 | .bool,cs=>∃b,cs=[.bool b]
 | .str,cs=>∃s:ByteArray,cs=[.string s]/\s.size<=140737488351232
 | .sl e bs,cs=>∃(A:Option Addr) (n c:Nat) (xs:List Value),cs=[.slice A n c]/\At w A xs/\xs.length=n*e.n/\n<=c/\c*bs<=140737488351232/\∀i,i<n->lF w e ((xs.drop (i*e.n)).take e.n)
 | .st fs,cs=>kV w fs cs
def kV(w:World):List Sh->List Value->Prop
 | [],cs=>cs=[]
 |f::fs,cs=>∃a b,cs=a++b/\lF w f a/\kV w fs b
end
mutual
def Sh.fits(P:Program):Sh->TypeId->Bool
 | .int k,t=>match P.underlying t with|some (.int k')=>decide (k'=k)|_=>false
 | .bool,t=>match P.underlying t with|some .bool=>true|_=>false
 | .str,t=>match P.underlying t with|some .string=>true|_=>false
 | .sl e bs,t=>match P.underlying t with|some (.slice u)=>e.fits P u&&decide (P.cellsOf u=e.n)&&decide (P.bytesOf u=bs)&&decide (0<e.n)|_=>false
 | .st fs,t=>match P.underlying t with
   |some (.struct gs)=>decide (P.cellsOf t=Sh.ns fs)&&Sh.fitsF P fs gs.toList 0
   |some (.array n u)=>decide (P.cellsOf t=Sh.ns fs)&&decide (fs.length=n)&&Sh.fitsA P fs u
   |_=>false
def Sh.fitsF(P:Program):List Sh->List Field->Nat->Bool
 | [],[],_=>true
 |f::fs,g::gs,off=>decide (g.offset=off)&&decide (P.cellsOf g.type=f.n)&&f.fits P g.type&&Sh.fitsF P fs gs (off+f.n)
 |_,_,_=>false
def Sh.fitsA(P:Program):List Sh->TypeId->Bool
 | [],_=>true
 |f::fs,u=>decide (P.cellsOf u=f.n)&&f.fits P u&&Sh.fitsA P fs u
end
theorem yv{α c:Type}{f:α->Option c}:∀{l:List α}{ys:List c},l.mapM f=some ys->ys.length=l.length/\∀(i:Nat) (a:α),l[i]? =some a->f a=ys[i]?
 | [],ys,h=>by simp at h;subst h;simp
 |a::l,ys,h=>by
  simp only[List.mapM_cons,Option.bind_eq_bind,Option.pure_def,Option.bind_eq_some_iff] at h
  obtain⟨b,hb,bs,hbs,he⟩:=h
  obtain rfl:b::bs=ys:=by simpa using he
  obtain⟨h1,h2⟩:=yv hbs
  refine⟨by simp[h1],fun i x hx=>?_⟩
  cases i with
  |zero=>simp at hx;subst hx;simpa using hb
  |succ i=>simpa using h2 i x (by simpa using hx)
section
variable{H:Type}{enc:TypeId×Value->H}{P:Program}
theorem nR{e:TypeId}:∀{ds:List (DataW H)}(i:Nat) (d:DataW H),ds[i]? =some d->∀x∈d.weights P e,x∈DataW.weightsAll P e ds
 | [],i,d,h,x,hx=>by simp at h
 |d0::ds,0,d,h,x,hx=>by
  simp at h;subst h
  simp only[DataW.weightsAll,List.mem_append];exact .inl hx
 |d0::ds,i+1,d,h,x,hx=>by
  simp only[DataW.weightsAll,List.mem_append]
  exact .inr (nR i d (by simpa using h) x hx)
theorem AI{w:World}{a:Addr}{m len:Nat}(hm:0<m)(h:∀i,i<len->∃csi,w.cells? 0 (a.add (i*m)) m=some csi):
  ∃xs:List Value,xs.length=len*m/\At w (some a) xs/\∀i,i<len->∀csi,w.cells? 0 (a.add (i*m)) m=some csi->(xs.drop (i*m)).take m=csi:=by
 have key:∀i,i<len->∀csi,w.cells? 0 (a.add (i*m)) m=some csi->csi.length=m/\∀r,r<m->w.cell? (a.add (i*m+r))=csi[r]? :=by
  intro i hi csi hc
  unfold World.cells? at hc
  rw[if_pos (Nat.zero_le _)] at hc
  obtain⟨h1,h2⟩:=yv hc
  refine⟨by simpa using h1,fun r hr=>?_⟩
  have:=h2 r r (by simp[hr])
  rw[kX] at this
  exact this
 have each:∀j,j<len*m->∃u,w.cell? (a.add j)=some u:=by
  intro j hj
  have hi:j / m<len:=by rw[Nat.div_lt_iff_lt_mul hm];exact hj
  obtain⟨csi,hc⟩:=h _ hi
  obtain⟨h1,h2⟩:=key _ hi _ hc
  have hr:=Nat.mod_lt j hm
  have:=h2 _ hr
  rw[show j / m*m+j % m=j by rw[Nat.mul_comm];exact Nat.div_add_mod j m] at this
  rw[List.getElem?_eq_getElem (by omega)] at this
  exact⟨_,this⟩
 refine⟨(List.range (len*m)).map fun j=>(w.cell? (a.add j)).getD undef,by simp,fun j u hu=>?_,fun i hi csi hc=>?_⟩
 rw[List.getElem?_map] at hu
 rcases Nat.lt_or_ge j (len*m) with hj|hj
 obtain⟨v,hv⟩:=each j hj
 rw[List.getElem?_range hj] at hu
 simp only[Option.map_some,hv,Option.getD_some,Option.some.injEq] at hu
 subst hu
 have:=World.block_lt_of_cell? _ _ hv
 rw[gp] at this
 exact⟨a,rfl,this,hv⟩
 rw[List.getElem?_eq_none (by simpa using hj)] at hu;cases hu
 obtain⟨h1,h2⟩:=key i hi csi hc
 have hb:i*m+m<=len*m:=by
  have:(i+1)*m<=len*m:=Nat.mul_le_mul_right m hi
  rw[Nat.add_mul,Nat.one_mul] at this
  exact this
 apply List.ext_getElem?
 intro r
 rw[List.getElem?_take]
 by_cases hr:r<m
 rw[if_pos hr,List.getElem?_drop,List.getElem?_map,List.getElem?_range (by omega),Option.map_some,h2 r hr,List.getElem?_eq_getElem (by omega)]
 rfl
 rw[if_neg hr,List.getElem?_eq_none (by omega)]
mutual
theorem pK{w:World}:∀(s:Sh) (t:TypeId) (fuel:Nat) (cs:List Value) (x:DataW H×List MemPlace),s.fits P t=true->DataW.trod enc P w 0 (fun _=>true) true fuel t cs=some x->
  (∀n∈x.1.weights P t,n<=reachBytes)->lF w s cs
 | .int k,t,fuel,cs,x,hf,h,hw=>by
   simp only[Sh.fits] at hf
   split at hf
   rename_i k' hu
   obtain rfl:=of_decide_eq_true hf
   obtain⟨z,hc,_,hz⟩:=DataW.trod_int hu h
   exact⟨z,hc,hz⟩
   cases hf
 | .bool,t,fuel,cs,x,hf,h,hw=>by
   simp only[Sh.fits] at hf
   split at hf
   rename_i hu
   obtain⟨b,hc,_⟩:=DataW.trod_bool hu h
   exact⟨b,hc⟩
   cases hf
 | .str,t,fuel,cs,x,hf,h,hw=>by
   simp only[Sh.fits] at hf
   split at hf
   rename_i hu
   obtain⟨s,hc,rfl,_⟩:=DataW.trod_string hu h
   refine⟨s,hc,?_⟩
   have:=hw s.data.toList.length (by simp[DataW.weights])
   exact this
   cases hf
 | .sl e bs,t,fuel,cs,x,hf,h,hw=>by
   simp only[Sh.fits] at hf
   split at hf
   rename_i u hu
   simp only[Bool.and_eq_true,decide_eq_true_eq] at hf
   obtain⟨⟨⟨he,hm⟩,hb⟩,hp⟩:=hf
   rcases DataW.trod_slice hu h with ⟨rfl,rfl⟩|⟨a,len,cap,elems,rest,n,_,rfl,rfl,_,hl,_,hlen,hel,hsp,_⟩
   exact⟨none,0,0,[],rfl,At.nil _ _,by simp,by simp,by simp,fun i hi=>by omega⟩
   obtain⟨hrl,_⟩:=hsp rfl
   rw[hm] at hel
   have hsz:=hw ((elems.length+rest.length)*P.bytesOf u) (by simp[DataW.weights,hu])
   rw[hlen,hrl,hb] at hsz
   have hR:reachBytes=140737488351232:=rfl
   rw[hR] at hsz
   have hex:∀i,i<len->∃csi y,w.cells? 0 (a.add (i*e.n)) e.n=some csi/\elems[i]? =some y/\DataW.trod enc P w 0 (fun _=>true) true n u csi=some y:=by
    intro i hi
    have h1:=hel i hi
    rw[List.getElem?_eq_getElem (by omega),Option.bind_eq_some_iff] at h1
    obtain⟨csi,hc,hy⟩:=h1
    exact⟨csi,_,hc,List.getElem?_eq_getElem (by omega),hy⟩
   obtain⟨xs,hxl,hxa,hxe⟩:=AI (w:=w) (a:=a) (len:=len) hp (fun i hi=>let ⟨csi,_,hc,_⟩:=hex i hi;⟨csi,hc⟩)
   refine⟨some a,len,cap,xs,rfl,hxa,hxl,hl,?_,fun i hi=>?_⟩
   rw[show len+(cap-len)=cap by omega] at hsz
   exact hsz
   obtain⟨csi,y,hc,hy,ht⟩:=hex i hi
   rw[hxe i hi csi hc]
   refine pK e u n csi y he ht fun z hz=>hw z ?_
   simp only[DataW.weights,hu,List.mem_cons,List.mem_append]
   refine .inr (.inl ?_)
   exact nR i y.1 (by rw[List.getElem?_map,hy];rfl) z hz
   cases hf
 | .st fs,t,fuel,cs,x,hf,h,hw=>by
   simp only[Sh.fits] at hf
   split at hf
   rename_i gs hu
   simp only[Bool.and_eq_true,decide_eq_true_eq] at hf
   obtain⟨hc,hF⟩:=hf
   obtain⟨xs,n,_,rfl,hcl,hxl,hat⟩:=DataW.trod_struct hu h
   have:=vC fs gs.toList 0 cs xs n hF (fun i g hg=>hat i g (by rw[<-hg];exact(Array.getElem?_toList ..).symm)) (by simpa using hxl) (by omega) (fun z hz=>hw z (by simp only[DataW.weights,hu];exact hz))
   rw[List.drop_zero,List.take_of_length_le (by omega)] at this
   exact this
   rename_i n u hu
   simp only[Bool.and_eq_true,decide_eq_true_eq] at hf
   obtain⟨⟨hc,hn⟩,hF⟩:=hf
   obtain⟨xs,m,_,rfl,hcl,hxl,hat⟩:=DataW.trod_array hu h
   have:=vK fs u 0 cs xs m hF (fun i hi=>by rw[Nat.zero_add];exact hat i (by omega)) (by omega) (by rw[Nat.zero_mul,Nat.zero_add];omega) (fun z hz=>hw z (by simp only[DataW.weights,hu];exact hz))
   rw[Nat.zero_mul,List.drop_zero,List.take_of_length_le (by omega)] at this
   exact this
   cases hf
theorem vC{w:World}:∀(fs:List Sh) (gs:List Field) (off:Nat) (cs:List Value) (xs:List (DataW H×List MemPlace)) (m:Nat),Sh.fitsF P fs gs off=true->
  (∀(i:Nat) (g:Field),gs[i]? =some g->DataW.trod enc P w 0 (fun _=>true) true m g.type ((cs.drop g.offset).take (P.cellsOf g.type))=xs[i]?)->xs.length=gs.length->off+Sh.ns fs<=cs.length->
  (∀n∈DataW.weightsEach P (gs.map (·.type)) (xs.map (·.1)),n<=reachBytes)->kV w fs ((cs.drop off).take (Sh.ns fs))
 | [],[],off,cs,xs,m,hf,h,hx,hl,hw=>by simp[kV,Sh.ns]
 |f::fs,g::gs,off,cs,xs,m,hf,h,hx,hl,hw=>by
  simp only[Sh.fitsF,Bool.and_eq_true,decide_eq_true_eq] at hf
  obtain⟨⟨⟨ho,hc⟩,hff⟩,hF⟩:=hf
  simp only[Sh.ns] at hl
  match xs,hx with
  |y::ys,hx=>
   have h0:=h 0 g rfl
   simp only[List.getElem?_cons_zero] at h0
   rw[ho,hc] at h0
   refine⟨(cs.drop off).take f.n,(cs.drop (off+f.n)).take (Sh.ns fs),?_,pK f g.type m _ y hff h0 (fun z hz=>hw z ?_),vC fs gs (off+f.n) cs ys m hF (fun i g' hg=>?_) (by simpa using hx) (by omega) (fun z hz=>hw z ?_)⟩
   rw[Sh.ns,<-List.drop_drop,List.take_add]
   simp only[List.map_cons,DataW.weightsEach,List.mem_append];exact .inl hz
   simpa using h (i+1) g' (by simpa using hg)
   simp only[List.map_cons,DataW.weightsEach,List.mem_append];exact .inr hz
 | [],_:: _,off,cs,xs,m,hf,h,hx,hl,hw=>by simp[Sh.fitsF] at hf
 |_:: _,[],off,cs,xs,m,hf,h,hx,hl,hw=>by simp[Sh.fitsF] at hf
theorem vK{w:World}:∀(fs:List Sh) (u:TypeId) (k:Nat) (cs:List Value) (xs:List (DataW H×List MemPlace)) (m:Nat),Sh.fitsA P fs u=true->
  (∀i,i<fs.length->DataW.trod enc P w 0 (fun _=>true) true m u ((cs.drop ((k+i)*P.cellsOf u)).take (P.cellsOf u))=xs[i]?)->xs.length=fs.length->k*P.cellsOf u+Sh.ns fs<=cs.length->
  (∀n∈DataW.weightsAll P u (xs.map (·.1)),n<=reachBytes)->kV w fs ((cs.drop (k*P.cellsOf u)).take (Sh.ns fs))
 | [],u,k,cs,xs,m,hf,h,hx,hl,hw=>by simp[kV,Sh.ns]
 |f::fs,u,k,cs,xs,m,hf,h,hx,hl,hw=>by
  simp only[Sh.fitsA,Bool.and_eq_true,decide_eq_true_eq] at hf
  obtain⟨⟨hc,hff⟩,hF⟩:=hf
  simp only[Sh.ns] at hl
  match xs,hx with
  |y::ys,hx=>
   have h0:=h 0 (by simp)
   simp only[List.getElem?_cons_zero,Nat.add_zero] at h0
   have hk:(k+1)*P.cellsOf u=k*P.cellsOf u+f.n:=by rw[Nat.add_mul,Nat.one_mul,hc]
   refine⟨(cs.drop (k*P.cellsOf u)).take f.n,(cs.drop ((k+1)*P.cellsOf u)).take (Sh.ns fs),?_,pK f u m _ y hff (by rw[<-hc];exact h0) (fun z hz=>hw z ?_),vK fs u (k+1) cs ys m hF (fun i hi=>?_) (by simpa using hx) (by rw[hk];omega) (fun z hz=>hw z ?_)⟩
   rw[Sh.ns,hk,<-List.drop_drop,List.take_add]
   simp only[List.map_cons,DataW.weightsAll,List.mem_append];exact .inl hz
   rw[show k+1+i=k+(i+1) by omega]
   simpa using h (i+1) (by simp;omega)
   simp only[List.map_cons,DataW.weightsAll,List.mem_append];exact .inr hz
end
end
theorem qH{H:Type}{enc:TypeId×Value->H}{P:Program}{w:World}{ts:List TypeId}{ds:List (DataW H)}(hsz:(DataW.weightsEach P ts ds).all (·<=reachBytes)=true)(j:Nat){t:TypeId}{v:Value}{d:DataW H}{p:List MemPlace}(s:Sh)
  (hf:s.fits P t=true) (ht:ts[j]? =some t) (hd:ds[j]? =some d) (h:DataW.Trod enc P w 0 (fun _=>true) true t v d p):lF w s v.cells.toList:=by
 obtain⟨fuel,h⟩:=h
 exact pK s t fuel _ (d,p) hf h fun n hn=>of_decide_eq_true (List.all_eq_true.1 hsz n (DataW.weights_mem_each ht hd n hn))
theorem A6{T:Type}(f:T->List Value)(p:T->Prop)(m:Nat):∀(n:Nat) (xs:List Value),xs.length=n*m->(∀i,i<n->∃t,(xs.drop (i*m)).take m=f t/\p t)->
  ∃ts:List T,ts.length=n/\xs=ts.flatMap f/\∀t∈ts,p t
 |0,xs,hl,h=>⟨[],rfl,by simpa using hl,by simp⟩
 |n+1,xs,hl,h=>by
  obtain⟨t,ht,hp⟩:=h 0 (by omega)
  rw[Nat.zero_mul,List.drop_zero] at ht
  have hle:(n+1)*m=m+n*m:=by rw[Nat.add_mul,Nat.one_mul,Nat.add_comm]
  obtain⟨ts,h1,h2,h3⟩:=A6 f p m n (xs.drop m) (by rw[List.length_drop];omega) (fun i hi=>by
   obtain⟨t',ht',hp'⟩:=h (i+1) (by omega)
   refine⟨t',?_,hp'⟩
   rw[List.drop_drop,show m+i*m=(i+1)*m by rw[Nat.add_mul,Nat.one_mul,Nat.add_comm]]
   exact ht')
  refine⟨t::ts,by simp[h1],?_,by simpa using ⟨hp,h3⟩⟩
  rw[List.flatMap_cons,<-h2,<-ht,List.take_append_drop]
theorem qa{T:Type}(f:T->Value):∀ts:List T,(ts.flatMap fun t=>[f t])=ts.map f
 | []=>rfl
 |t::ts=>by simp[qa f ts]
theorem ug{w:World}{k:IntKind}{bs:Nat}{cs:List Value}(h:lF w (.sl (.int k) bs) cs):
  ∃(A:Option Addr) (c:Nat) (zs:List Int),cs=[.slice A zs.length c]/\At w A (zs.map (Value.int k))/\zs.length<=c/\c*bs<=140737488351232/\∀z∈zs,(Lit.int k z).wf=true:=by
 simp only[lF,Sh.n,Nat.mul_one] at h
 obtain⟨A,n,c,xs,rfl,hA,hl,hc,hb,he⟩:=h
 obtain⟨zs,h1,h2,h3⟩:=A6 (fun z=>[Value.int k z]) (fun z=>(Lit.int k z).wf=true) 1 n xs (by omega) (fun i hi=>by rw[Nat.mul_one];exact he i hi)
 rw[qa] at h2
 subst h1 h2
 exact⟨A,c,zs,rfl,hA,hc,hb,h3⟩
def H8(w:World)(s:Sh)(v:Value):Prop:=match s with
 | .st fs=>∃cs:List Value,v= .agg ⟨cs⟩/\kV w fs cs
 |s=>lF w s [v]
theorem qM{P:Program}{W w:World}{r:Reach}{b0:Nat}{t:TypeId}{v:Value}(s:Sh)(hf:s.fits P t=true)(hv:Value.okWide P W r b0 t v)(h:lF w s v.cells.toList):H8 w s v:=by
 cases s with
 |int k=>
  simp only[Sh.fits] at hf
  split at hf
  rename_i k' hu
  obtain⟨n,rfl⟩:=okWide_int hu hv
  exact h
  cases hf
 |bool=>
  simp only[Sh.fits] at hf
  split at hf
  rename_i hu
  obtain⟨n,rfl⟩:=okWide_bool hu hv
  exact h
  cases hf
 |str=>
  simp only[Sh.fits] at hf
  split at hf
  rename_i hu
  obtain⟨n,rfl⟩:=okWide_string hu hv
  exact h
  cases hf
 |sl e bs=>
  simp only[Sh.fits] at hf
  split at hf
  rename_i u hu
  obtain⟨a,l,c,rfl⟩:=okWide_slice hu hv
  exact h
  cases hf
 |st fs=>
  simp only[Sh.fits] at hf
  split at hf
  rename_i gs hu
  obtain⟨cs,rfl,_⟩:=okWide_struct hu hv
  exact⟨cs.toList,rfl,h⟩
  rename_i n u hu
  simp only[Value.okWide,hu] at hv
  obtain⟨cs,rfl,_⟩:=hv
  exact⟨cs.toList,rfl,h⟩
  cases hf
end
end Go.Proofs.YtjlcoglmjldjbaaGreat
namespace Go.Proofs.YtjlcoglmjldjbaaGreat.treeTells
section
open Go.ChangeShapes Go.WideShapes Go.ChangeAt Go.RowKit Go.Deep Go.Joins
theorem lifted(os:Os)(started:os.Started)(H:Type)(enc:TypeId×Value->H):
  ReturnsInHanded {} Tryz.checked os 3 .any (Rows.treeTellsSpec.pre6 enc Tryz.prog Tryz.f3 Rows.treeTellsRow.domain false) (Rows.treeTellsSpec.post enc Tryz.prog Tryz.f3 false true false false):=by
 refine returnsInHanded_of_change_sized (C:=Tryz.checked) vI started (by kernel_rfl) Tryz.func3
  (ChangeSpec.witness6 (enc:=enc) (C:=Tryz.checked) false ⟨#[],#[.slice none 0 0,.slice none 0 0,.int .i64 0],[]⟩ 8 (by kernel_rfl) (by kernel_rfl) (by kernel_rfl) (by kernel_rfl)) ?_
 intro W base args ds gs before hval0 hW hcnd hsz0 _
 have hval:∀(j:Nat) t v,Tryz.f3.params[j]? =some t->args[j]? =some v->Value.okWide Tryz.prog W .any base t v:=hval0
 have hsz:(DataW.weightsEach Tryz.prog (Tryz.f3.params.toList++Rows.treeTellsSpec.plain.varTypes Tryz.prog) (ds++gs)).all (·<=reachBytes)=true:=hsz0
 clear hsz0 hval0
 have hW':=hW
 obtain⟨p,q,hA0,hV,rfl,hfz,hnd⟩:=hW
 have hA:DataW.TrodAll enc Tryz.prog W 0 (fun _=>true) true Tryz.f3.params.toList args.toList ds p:=hA0
 clear hA0
 rw[Tryz.params3] at hA hval hsz
 obtain⟨v0,vs0,d0,ds0,p0,q0,hargs,rfl,rfl,h0,r0⟩:=trodAll_cons hA
 obtain⟨v1,vs1,d1,ds1,p1,q1,rfl,rfl,rfl,h1,r1⟩:=trodAll_cons r0
 obtain⟨v2,vs2,d2,ds2,p2,q2,rfl,rfl,rfl,h2,r2⟩:=trodAll_cons r1
 obtain⟨rfl,rfl,rfl⟩:=trodAll_nil r2
 obtain rfl:args=#[v0,v1,v2]:=by cases args;simp_all
 obtain⟨rfl,rfl⟩:=trodVars_none hV
 have s0:=qM (.sl (.int .i64) 8) (by kernel_rfl) (hval 0 _ _ rfl rfl) (qH hsz 0 (.sl (.int .i64) 8) (by kernel_rfl) rfl rfl h0)
 have s1:=qM (.sl (.int .i64) 8) (by kernel_rfl) (hval 1 _ _ rfl rfl) (qH hsz 1 (.sl (.int .i64) 8) (by kernel_rfl) rfl rfl h1)
 have s2:=qM (.int .i64) (by kernel_rfl) (hval 2 _ _ rfl rfl) (qH hsz 2 (.int .i64) (by kernel_rfl) rfl rfl h2)
 clear hsz
 obtain⟨A,c,l,hE,atA,lA,bA,wA⟩:=ug s0
 cases hE
 obtain⟨G,gc,gone,hE,atG,lG,bG,wG⟩:=ug s1
 cases hE
 obtain⟨x,hE,wx⟩:=s2
 cases hE
 refine(uS A G _ c _ gc l gone x W atA rfl (by omega) atG rfl).mono fun e W' ⟨he,hx⟩=>?_
 subst he
 exact⟨_,rfl,DJ GB (by rw[Tryz.params3];exact(by decide+kernel)) rfl Tryz.underlying4 hW' rfl rfl rfl rfl hx⟩
theorem over:Rows.treeTellsRow.holds Tryz.pinned (OpenSpec.ofChange Rows.treeTellsSpec):=
 OpenClaim.holds_of_wide 3 Tryz.f3 rfl rfl rfl rfl rfl rfl rfl ⟨rfl,rfl,rfl,rfl,rfl⟩ rfl rfl rfl rfl rfl (by kernel_rfl) Tryz.func3 (by kernel_rfl)
  (of_decide_eq_true (by kernel_rfl)) (by unfold Func.isWrapper;first|(rw[if_pos (by decide+kernel)];kernel_rfl)|(rw[if_neg (by decide+kernel)];exact⟨rfl,rfl⟩))
  (fun os started H enc _=>lifted os started H enc)
theorem proved:Rows.TreeTellsSaid:=
 over
end
end Go.Proofs.YtjlcoglmjldjbaaGreat.treeTells
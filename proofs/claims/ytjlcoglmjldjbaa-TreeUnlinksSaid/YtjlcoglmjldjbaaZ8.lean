import Derived.Test.YtjlcoglmjldjbaaZ7
import Derived.Test.YtjlcoglmjldjbaaRows
import Derived.ProofKit
import Derived.OpenShut
import Derived.Below
import Derived.ChangeSame
import Derived.WideKeyArgs
import Derived.SliceStrings
import Derived.ChangeMaps5
import Derived.Lib.SmallJoins
import Derived.SizedLaws
import Derived.WalkKit
set_option linter.unusedVariables false
set_option linter.unusedSimpArgs false
set_option maxRecDepth 100000
set_option maxHeartbeats 16000000
namespace Go.Proofs.Ytjlcoglmjldjbaa
section
open Go.RowKit Go.Maps
theorem Hj{l:List Int}(hl:l.length<=80){E:List Kv}(hp:E.Perm (fZ l l.length))(fr i:Nat)(q:Int):UnE (E.take fr++E.drop i) (bu (cU q) 50 1):=by
 have hm:∀y∈E.take fr++E.drop i,y∈fZ l l.length:=fun y hy=>hp.mem_iff.1 (by
  rcases List.mem_append.1 hy with hy|hy
  exact List.mem_of_mem_take hy
  exact List.mem_of_mem_drop hy)
 exact⟨fun y hy=>Gg (by omega) (by omega) y (hm y hy),fun y hy=>yB (by omega) y (hm y hy),⟨_,_,_,rfl,gx _,by omega,by omega⟩⟩
theorem KS{E:List EnD}{r:Nat}(h:r<E.length)(h2:r<(E.map kv).length):((E.map kv)[r]).1=(E.getD r en0).1:=by
 rw[List.getElem_map,List.getD_eq_getElem?_getD,List.getElem?_eq_getElem h];rfl
theorem Gr{E:List EnD}{fr r:Nat}{ps:List PgS}(h:RmS (E.map kv) fr r ps)(af:fr<=r)(hr:r<E.length):(rmF ps 0 (E.getD r en0).1).2=true/\RmS (E.map kv) fr (r+1) (doB ps (rmF ps 0 (E.getD r en0).1).1):=by
 have h2:r<(E.map kv).length:=by rw[List.length_map];exact hr
 have h1:=It h af h2
 rw[KS hr h2] at h1
 exact h1
theorem ym{E:List EnD}{fr i j:Nat}(h:j<fr\/i<=j)(hj:j<E.length):kv (E.getD j en0)∈(E.map kv).take fr++(E.map kv).drop i:=by
 have h2:j<(E.map kv).length:=by rw[List.length_map];exact hj
 have h3:kv (E.getD j en0)=(E.map kv)[j]:=by rw[List.getElem_map,List.getD_eq_getElem?_getD,List.getElem?_eq_getElem hj];rfl
 rw[h3]
 rcases h with h|h
 exact List.mem_append.2 (.inl (List.mem_iff_getElem.2 ⟨j,by rw[List.length_take];omega,List.getElem_take⟩))
 exact List.mem_append.2 (.inr (List.mem_iff_getElem.2 ⟨j-i,by rw[List.length_drop];omega,by rw[List.getElem_drop];congr 1;omega⟩))
theorem Il{E:List EnD}{fr i:Nat}(h:fr<=i)(hi:i<=E.length):((E.map kv).take fr++(E.map kv).drop i).length=fr+(E.length-i):=by
 rw[List.length_append,List.length_take,List.length_drop,List.length_map];omega
theorem Hf{R R':List EdT×Bool}{f:FuncId}{args:Array Value}{w:World}(h:R=R')(hc:Calls Try.prog f args w (u2 R w)):Calls Try.prog f args w (u2 R' w):=h ▸ hc
theorem Bh{R R':List EdT×Int×Int}{f:FuncId}{args:Array Value}{w:World}(h:R=R')(hc:Calls Try.prog f args w (ra R w)):Calls Try.prog f args w (ra R' w):=h ▸ hc
theorem H5(x:Int)(w:World):Calls Try.prog 14 #[.int .i64 x,.int .i64 3] w (Ret (.int .i64 ((x.tmod 3+3).tmod 3)) w):=we x 3 w (by decide) (by decide)
theorem Hl(x:Int)(n m:Nat)(w:World)(h:m<n)(hn:n<=1000):Calls Try.prog 14 #[.int .i64 x,.int .i64 ((n:Int)-(m:Int))] w (Ret (.int .i64 ((x.tmod ((n:Int)-(m:Int))+((n:Int)-(m:Int))).tmod ((n:Int)-(m:Int)))) w):=by
 rw[show (n:Int)-(m:Int)=((n-m:Nat):Int) by omega]
 exact we x (n-m) w (by omega) (by omega)
theorem vJ(x d:Int)(hd:0<d):∃z:Nat,(x.tmod d+d).tmod d=(z:Int)/\(z:Int)<d:=by
 have h1:=Int.lt_tmod_of_pos x (b:=d) hd
 have h2:=Int.tmod_nonneg (a:=x.tmod d+d) d (by omega)
 have h3:=Int.tmod_lt_of_pos (x.tmod d+d) (b:=d) hd
 exact⟨((x.tmod d+d).tmod d).toNat,by omega,by omega⟩
theorem Fb(x:Int)(i:Nat)(h:i<200\/x=(i:Int)):∃z:Nat,(x.tmod 3+3).tmod 3=(z:Int)/\z<3/\(i<200\/i % 3=z):=by
 rcases h with h|h
 obtain⟨z,h1,h2⟩:=vJ x 3 (by decide)
 exact⟨z,h1,by omega,.inl h⟩
 subst h
 have h1:=CK i 3 (by omega)
 exact⟨i % 3,h1,Nat.mod_lt _ (by omega),.inr rfl⟩
def lbE:ByteArray:=bu (⟨#[]⟩:ByteArray) 0 0
theorem KR:bu (⟨#[]⟩:ByteArray) 0 0=ay:=by decide
theorem PuM.moreU{i:Nat}{p:PuT}(h:PuM (54016+10*i) (i+1) p):PuM (54016+10*(i+1)) (i+1+1) p:=⟨fun t ht=>by have:=h.left t ht;exact⟨by omega,by omega,by omega⟩,by have:=h.len;omega⟩
theorem DE{S S3:List ByteArray}{X:List EnD}{j:Nat}(hd:(S++X.map fun e=>e.1).Nodup)(h:j<X.length)(hS:S3=S++(X.take j).map fun e=>e.1):(X.getD j en0).1∉S3:=fun hm=>by
 subst hS
 have h1:(S++X.map fun e=>e.1)=(S++(X.take j).map fun e=>e.1)++(X.drop j).map fun e=>e.1:=by rw[List.append_assoc,<-List.map_append,List.take_append_drop]
 rw[h1] at hd
 refine(List.nodup_append.1 hd).2.2 _ hm (X.getD j en0).1 ?_ rfl
 rw[List.drop_eq_getElem_cons h,List.map_cons,List.getD_eq_getElem?_getD,List.getElem?_eq_getElem h]
 exact List.mem_cons_self ..
theorem K2{E:List Kv}{x:ByteArray}{i:Nat}{ps:List PgS}{nx:Int}{p:PuT}{w:WkT}{mo:Bool}{told:List ByteArray}(h:UnS E x i ps nx p w mo told):0<nx:=by
 obtain⟨T,r,rw,h1,_⟩:=h
 obtain⟨T0,r0,_,q1,_,q3⟩:=h1.tr.root
 have:=h1.pg 0 (by rw[<-q1];exact b4 q3 (by simp))
 exact this
theorem ro(A Kp:Option Addr)(n0 c k0 kc:Nat)(l ks:List Int)(q0 q1 q2:Int)(w:World)(hA:At w A (l.map (Value.int .i64)))(hn:l.length=n0)(hc:n0<=c)(hK:At w Kp (ks.map (Value.int .i64)))(hk:ks.length=k0):
  Calls Try.prog 9 #[.slice A n0 c,.agg #[.int .i64 q0,.int .i64 q1,.int .i64 q2],.slice Kp k0 kc] w (Ret (.bool true) w):=by
 go_enter Try.func9,Try.ntmps9
 have aq:=St.start w
 refine wp_seq (sqr ?_)
 refine bX #[vi q0,vi q1,vi q2] aq fun aW W1 aC=>?_
 refine sqp [.k 6 (.bool false)] ?_
 refine aa (wp_seq (sqr (sqk (.bool true) aC (fun cx=>⟨_,wz _,zo⟩) fun W3 bG=>?_)))
 refine sqp [.k 7 (.bool true)] ?_
 refine aa (wp_seq (sqr (sqp [.m 43 0] ?_)))
 refine sqk (.slice A ((min n0 80)) c) bG (fun cx=>⟨_,BK A n0 c 80 _ hc,(aK (cx.ou 43) (cx.co _))⟩) fun W6 ci=>?_
 refine pd (fun bg=>vp bg) (fun bg Eo=>eBk bg (fO (l.take (min n0 80))) Eo) ci (fun cx=>⟨_,(zd _ _ _ (l.take (min n0 80)) _ (At.take_mapI (hA.ext cx.upd.to_ext) (min n0 80)) (by first|(rw[List.length_take];omega)|omega)).mono (by rintro e W1 ⟨B4,fp4,rfl,aR⟩;exact⟨_,_,rfl,aR⟩),(br (cx.ou 44))⟩) fun bg Eo W7 bF=>?_
 refine sqp [.m 8 45] ?_
 refine aa (wp_seq ?_)
 obtain⟨nl,LS⟩:∃z,(min n0 80)=z:=⟨_,rfl⟩
 rw[LS] at bF |-
 have hnl_:nl<=80:=by omega
 have htl_:(l.take nl).length=nl:=by rw[List.length_take];omega
 have hgr0:=DD (l.take nl)
 have uU:=fun fr=>BB (l:=(l.take nl)) (by omega) (fr:=fr)
 obtain⟨b0,hb0⟩:∃z,fO (l.take nl)=z:=⟨_,rfl⟩
 rw[hb0] at hgr0 bF
 rw[hb0] at uU
 obtain⟨E,hE⟩:∃z,cN b0 0=z:=⟨_,rfl⟩
 rw[hE] at uU
 have hper:=(uU 0).2
 have hEl:E.length=nl:=by have h_:=hper.length_eq;rw[List.length_map,vR,htl_] at h_;exact h_
 have hbe:∀j,j<E.length->BzE (E.getD j en0).1:=fun j hj=>yB (l:=(l.take nl)) (by omega) (kv (E.getD j en0)) (hper.mem_iff.1 (List.mem_map.2 ⟨_,AZ hj,rfl⟩))
 have hok:=hgr0.1.ok (by omega) (by omega)
 have hoc:=hgr0.2.2.okc
 have hnk:b0.length<=1000:=by omega
 refine aj [0,1,3,7,15,15,31,127] [[],[],[1]] [[],[],[2,3]] [] [.k 47 (vp bg),.c 48 (.iface 24 (vp bg)),.a 49,.a 46,.a 50,.a 51,.a 9,.a 10] (fun ix o b X=>match ix with|0|1=>True|2=>o 49= .tuple #[.slice (sA (tg (b 49) 0)) E.length (sC (tg (b 49) 0)),.slice (sA (tg (b 49) 1)) E.length (sC (tg (b 49) 1))]/\X 2=eO 9 1 (.slice (sA (tg (b 49) 0)) E.length (sC (tg (b 49) 0))) E.length (E.map tqS)/\X 3=eO 31 2 (.slice (sA (tg (b 49) 1)) E.length (sC (tg (b 49) 1))) E.length (E.flatMap tqR)|3=>o 46= .tuple #[.slice (sA (tg (b 49) 0)) E.length (sC (tg (b 49) 0)),.slice (sA (tg (b 49) 1)) E.length (sC (tg (b 49) 1))]|4=>o 50= .slice (sA (tg (b 49) 0)) E.length (sC (tg (b 49) 0))|5=>o 51= .slice (sA (tg (b 49) 1)) E.length (sC (tg (b 49) 1))|6=>o 9= .slice (sA (tg (b 49) 0)) E.length (sC (tg (b 49) 0))|7=>o 10= .slice (sA (tg (b 49) 1)) E.length (sC (tg (b 49) 1))|_=>True) [0,1,2,3] [1,2,3,4,5,6,7] [(9,6,2,11),(35,3,1,36),(0,0,3,3),(0,4,2,2)] bF ?_ ?_ ?_
 exact fun ix _ _ _ _ _ _ hs hb hx h=>match ix,h with
 |2,h=>by dsimp only;rw[<-hs 49 rfl,<-hb 49 rfl,<-hx 2 rfl,<-hx 3 rfl];exact h
 |3,h=>by dsimp only;rw[<-hs 46 rfl,<-hb 49 rfl];exact h
 |4,h=>by dsimp only;rw[<-hs 50 rfl,<-hb 49 rfl];exact h
 |5,h=>by dsimp only;rw[<-hs 51 rfl,<-hb 49 rfl];exact h
 |6,h=>by dsimp only;rw[<-hs 9 rfl,<-hb 49 rfl];exact h
 |7,h=>by dsimp only;rw[<-hs 10 rfl,<-hb 49 rfl];exact h
 |0,_|1,_|_+8,_=>trivial
 refine⟨?_,?_,?_,?_,?_,?_,?_,trivial⟩
 exact sv0 rfl rfl rfl rfl rfl (fun _ _ _ h=>h) fun d b W X cx=>by
  have NI:d (.tmp 47)=vp bg:=(cx.an 0)
  simp[go_sem,NI]
 refine svA fun d b W X cx=>?_
 refine ax.call (av (args:=#[.iface 24 (vp bg),vi 0]) rfl cx.sees rfl (by kernel_rfl) (aK (cx.an 1) (cx.co _))) ?_
 refine(IB hE (Bc _ _ 0 b0 _ (d7 (iJ (CtxV.holdF cx (cx.init 1 _ rfl) rfl)) hnk) hok hoc)).mono ?_
 rintro e W1 ⟨KA4,kc4,RA4,rc4,rfl,aR⟩
 refine⟨_,rfl,dy [eO 9 1 (.slice KA4 E.length kc4) E.length (E.map tqS),eO 31 2 (.slice RA4 E.length rc4) E.length (E.flatMap tqR)] rfl rfl aR (fun o y X' hs hb hv hN=>?_)⟩
 have aZ:=(hv 49 rfl).1;have aJ:=(hv 49 rfl).2
 exact⟨aZ.trans (by rw[aJ];rfl),(by rw[aJ];exact(List.cons.inj hN).1),(by rw[aJ];exact(List.cons.inj (List.cons.inj hN).2).1)⟩
 exact sv rfl rfl rfl rfl rfl _ (fun _ _ _ h=>h) (fun b y h=>by rw[h 49 (by decide)]) fun d b W X cx=>b7 rfl (dTn (cx.an 2)).1
 exact sv rfl rfl rfl rfl rfl _ (fun _ _ _ h=>h) (fun b y h=>by rw[h 49 (by decide)]) fun d b W X cx=>aG rfl (dTn (cx.an 3)) rfl
 exact sv rfl rfl rfl rfl rfl _ (fun _ _ _ h=>h) (fun b y h=>by rw[h 49 (by decide)]) fun d b W X cx=>aG rfl (dTn (cx.an 3)) rfl
 exact sv rfl rfl rfl rfl rfl _ (fun _ _ _ h=>h) (fun b y h=>by rw[h 49 (by decide)]) fun d b W X cx=>aN rfl (dTn (cx.an 4))
 exact sv rfl rfl rfl rfl rfl _ (fun _ _ _ h=>h) (fun b y h=>by rw[h 49 (by decide)]) fun d b W X cx=>aN rfl (dTn (cx.an 5))
 intro o b X W9 hD bh fr af
 simp only[exq 2 ((dTn (hD 2 lq)).2.1),exq 3 ((dTn (hD 2 lq)).2.2)] at bh
 simp only[ed 49 ((dTn (hD 2 lq)).1),ed 46 ((dTn (hD 3 lq))),ed 50 ((dTn (hD 4 lq))),ed 51 ((dTn (hD 5 lq))),ed 9 ((dTn (hD 6 lq))),ed 10 ((dTn (hD 7 lq)))] at af
 generalize sA (tg (b 49) 0)=KA49_9,sC (tg (b 49) 0)=cKA49_9,sA (tg (b 49) 1)=RA49_9,sC (tg (b 49) 1)=cRA49_9 at bh af
 clear hD;subst af;clear o b X
 refine aa (wp_seq (wp_seq ?_))
 rcases Nat.eq_zero_or_pos E.length with hE0|hE0
 refine sqr ?_
 have hd13:((E.length:Int)==0)=true:=(by rw[hE0];rfl)
 refine sqp [.m 52 9,.k 53 (vi ((E.length:Int))),.e 54 (.bool ((E.length:Int)==0)) (.bool true) (congrArg Value.bool hd13),.k 55 (.bool true)] ?_
 refine sY 55 [56,57,58,59,60] rfl rfl ?_
 refine sqp [.k 61 (.bool true)] ?_
 refine aa (wct rfl (wp_seq (sqr (sqp [.k 62 (.bool true),.k 63 (.bool true)] ?_))))
 refine fW 63 [64,65,66] rfl rfl ?_
 have hd21:((n0:Int)==0)=true:=(beq_iff_eq.2 (by omega))
 refine sqp [.m 64 0,.k 65 (vi ((n0:Int))),.e 66 (.bool ((n0:Int)==0)) (.bool true) (congrArg Value.bool hd21)] ?_
 refine sqp [.k 67 (.bool true),.k 6 (.bool true)] ?_
 refine aa (wp_ret (ai ?_))
 refine bpr (.bool true) (ak Try.results9 rpt) ?_
 exact Ret.bool rfl bh.ext
 refine sqr ?_
 have hd27:((E.length:Int)==0)=false:=(beq_eq_false_iff_ne.2 (by omega))
 refine sqp [.m 52 9,.k 53 (vi ((E.length:Int))),.e 54 (.bool ((E.length:Int)==0)) (.bool false) (congrArg Value.bool hd27),.k 55 (.bool false)] ?_
 refine fW 55 [56,57,58,59,60] rfl rfl ?_
 have hd34:((E.length:Int) != (E.length:Int))=false:=(by simp)
 refine sqp [.m 56 10,.k 57 (vi ((E.length:Int))),.m 58 9,.k 59 (vi ((E.length:Int))),.e 60 (.bool ((E.length:Int) != (E.length:Int))) (.bool false) (congrArg Value.bool hd34)] ?_
 refine sqp [.k 61 (.bool false)] ?_
 refine aa (wcf rfl (wp_skip (aa (wp_seq (sqr ?_)))))
 refine sql (vp aW) bh (fun cx=>hH (n:=3) (sz:=1) (m:=0) (q:=0) rfl (by kernel_rfl) (cx.ou 4) (cx.co _) (by omega) (by omega) (by omega)) ?_
 refine al 0 bh ?_
 refine sqp [.m 70 9,.k 71 (vi ((E.length:Int)))] ?_
 refine sqk (vi (((q0.tmod (E.length:Int)+(E.length:Int)).tmod (E.length:Int)))) bh (fun cx=>⟨_,we q0 E.length _ (by omega) (by omega),(aK (cx.ou 69) (cx.ou 71))⟩) fun EI gL=>?_
 refine sqp [.m 11 72] ?_
 refine aa (wp_seq ?_)
 obtain⟨kz,nv⟩:∃z,((q0.tmod (E.length:Int)+(E.length:Int)).tmod (E.length:Int))=z:=⟨_,rfl⟩
 rw[nv]
 obtain⟨fr,hk1,hk2⟩:=vJ q0 (E.length:Int) (by omega)
 rw[nv] at hk1
 clear nv
 subst hk1
 have af:fr<E.length:=by omega
 obtain⟨td,hk3,hk4⟩:=vJ q1 ((E.length:Int)-(fr:Int)) (by omega)
 refine sqr (sqp [.m 73 11] ?_)
 refine sql (.pointer (some ⟨aW,1,none⟩)) gL (fun cx=>hH (n:=3) (sz:=1) (m:=1) (q:=1) rfl (by kernel_rfl) (cx.ou 4) (cx.co _) (by omega) (by omega) (by omega)) ?_
 refine al 0 gL ?_
 refine sqp [.m 76 9,.k 77 (vi ((E.length:Int))),.m 78 11,sI 79 ((E.length:Int)-(fr:Int)) (by omega)] ?_
 refine sqk (vi (((q1.tmod ((E.length:Int)-(fr:Int))+((E.length:Int)-(fr:Int))).tmod ((E.length:Int)-(fr:Int))))) gL (fun cx=>⟨_,Hl q1 E.length fr _ af (by omega),(aK (cx.ou 75) (cx.ou 79))⟩) fun Mg lH=>?_
 refine sqp [sI 81 ((fr:Int)+((q1.tmod ((E.length:Int)-(fr:Int))+((E.length:Int)-(fr:Int))).tmod ((E.length:Int)-(fr:Int)))) (by omega),.m 12 81] ?_
 refine aa (wp_seq (wp_seq ?_))
 obtain⟨tz,zQ⟩:∃z,((q1.tmod ((E.length:Int)-(fr:Int))+((E.length:Int)-(fr:Int))).tmod ((E.length:Int)-(fr:Int)))=z:=⟨_,rfl⟩
 rw[zQ]
 rw[zQ] at hk3
 clear zQ
 subst hk3
 have htd:fr+td<E.length:=by omega
 refine sqr (sqp [.m 82 11,.m 13 82] ?_)
 refine aa (wp_block ?_)
 refine aX (fun t_ mz az W=>∃r:Nat,∃p1:List PgS,∃f1:List Nat,(fr<=r/\r<=fr+td+1)/\BdM 54016 p1/\C8 p1/\RmS (E.map kv) fr r p1/\mz=fr+td+1-r/\az=⟨(ovr (jv az) [(6,6,1,[]),(6,13,0,[vi ((r:Int))]),(0,14,2,[]),(67,83,24,[])] t_).toArray,[]⟩/\St w [] [eBk bg p1 f1,eB aW 90 #[vi q0,vi q1,vi q2],eO 9 1 (.slice KA49_9 E.length cKA49_9) E.length (E.map tqS),eO 31 2 (.slice RA49_9 E.length cRA49_9) E.length (E.flatMap tqR)] W) (fr+td+1-fr) ?_ ?_
 exact⟨fr,b0,Eo,by omega,hgr0.1,hgr0.2.2,(uU fr).1,rfl,(by kernel_rfl),lH.pk [1,0,2,3]⟩
 rintro RW a54 Mi ⟨r,p1,f1,hr,hpb,hc8,hrm,rfl,hj_,lI⟩
 refine ovz hj_ fun QR=>?_
 have kV:=(Hk hrm).1
 have hok:=hpb.ok (by omega) (by omega)
 have hoc:=hc8.okc
 have hnk:p1.length<=1000:=by omega
 refine wp_seq (wp_seq (sqr (sqp [.m 83 13,.m 84 12,.k 85 (.bool (decide ((r:Int)<=(fr:Int)+(td:Int))))] ?_)))
 refine aa (wds (fun NJ LU=>?_) fun NJ LU=>?_)
 refine wp_skip (aa (wp_seq (wp_block (wp_seq ?_))))
 obtain⟨hee_,hez_,_,_⟩:=(hbe r (by omega)).parts
 obtain⟨R,hR⟩:∃z,rmF p1 0 (E.getD r en0).1=z:=⟨_,rfl⟩
 have hR2:rmF p1 0 (bu (qkF (E.getD r en0).1) (opF (E.getD r en0).1) (osF (E.getD r en0).1))=R:=by rw[hee_];exact hR
 have hrr:=Gr hrm hr.1 (by omega)
 rw[hR] at hrr
 have hrt_:=hrr.1
 have hedl:R.1.length<=100000:=by rw[<-hR];exact Ik hok _ _
 refine aj [0,1,0,0,12,28,0,0,192,448,1023,2047,4095,4095,8191,32767] [[],[],[],[],[2],[2],[],[],[3],[3],[0]] [[],[],[],[],[],[],[],[],[],[],[4]] [] [.k 89 (vp bg),.c 90 (.iface 24 (vp bg)),.k 91 (.slice KA49_9 E.length cKA49_9),.k 92 (vi ((r:Int))),.c 93 (.pointer (some ((ad KA49_9).add r))),.c 94 (.string (qkF (E.getD r en0).1)),.k 95 (.slice RA49_9 E.length cRA49_9),.k 96 (vi ((r:Int))),.c 97 (.pointer (some ((ad RA49_9).add (r*2)))),.c 98 (.agg #[vi (opF (E.getD r en0).1),vi (osF (E.getD r en0).1)]),.a 99,.a 88,.a 100,.c 101 (.bool true),.a 14,.k 15 (.bool true)] (fun ix o b X=>match ix with|0|1|2|3|4|5|6|7|8|9=>True|10=>o 99= .tuple #[.slice (sA (tg (b 99) 0)) R.1.length (sC (tg (b 99) 0)),.bool R.2]/\X 4=eO 99 3 (.slice (sA (tg (b 99) 0)) R.1.length (sC (tg (b 99) 0))) R.1.length (R.1.flatMap edC)|11=>o 88= .tuple #[.slice (sA (tg (b 99) 0)) R.1.length (sC (tg (b 99) 0)),.bool R.2]|12=>o 100= .slice (sA (tg (b 99) 0)) R.1.length (sC (tg (b 99) 0))|13=>True|14=>o 14= .slice (sA (tg (b 99) 0)) R.1.length (sC (tg (b 99) 0))|_=>True) [0,1,2,3,4] [1,4,5,8,9,10,11,12,13,14] [(14,14,2,16),(72,11,1,73),(0,0,11,11),(0,12,2,2)] lI ?_ ?_ ?_
 exact fun ix _ _ _ _ _ _ hs hb hx h=>match ix,h with
 |10,h=>by dsimp only;rw[<-hs 99 rfl,<-hb 99 rfl,<-hx 4 rfl];exact h
 |11,h=>by dsimp only;rw[<-hs 88 rfl,<-hb 99 rfl];exact h
 |12,h=>by dsimp only;rw[<-hs 100 rfl,<-hb 99 rfl];exact h
 |14,h=>by dsimp only;rw[<-hs 14 rfl,<-hb 99 rfl];exact h
 |0,_|1,_|2,_|3,_|4,_|5,_|6,_|7,_|8,_|9,_|13,_|_+15,_=>trivial
 refine⟨?_,?_,?_,?_,?_,?_,?_,?_,?_,?_,trivial⟩
 exact sv0 rfl rfl rfl rfl rfl (fun _ _ _ h=>h) fun d b W X cx=>by
  have D2:d (.tmp 89)=vp bg:=(cx.an 0)
  simp[go_sem,D2]
 exact xs4 rfl id fun cx=>bo (e:=9) (m:=r) rfl (by kernel_rfl) (by kernel_rfl) (cx.an 2) (cx.an 3) (by omega) (by omega) (At.of_own (cx.ri 2 rfl)) (by rw[List.length_map]<;>omega)
 exact xs4 rfl id fun cx=>ae rfl (by kernel_rfl) (cx.an 4) (At.cellAd (At.of_own (cx.ri 2 rfl)) (mE (by omega)))
 exact xs4 rfl id fun cx=>aD (e:=31) (m:=r) (sz:=2) rfl (by kernel_rfl) (by kernel_rfl) (cx.an 6) (cx.an 7) (by omega) (by omega) (At.of_ownN (cx.ri 3 rfl)) (be (sz:=2) iw (by decide) (by omega))
 exact xs4 rfl id fun cx=>aY (f:=tqR) (m:=r) (sz:=2) (off:=0) (n:=2) rfl (by kernel_rfl) (by kernel_rfl) (cx.an 8) rfl iw (At.of_ownN (cx.ri 3 rfl)) (ck (by omega)) (fun k hk=>match k,hk with|0,_=>rfl|1,_=>rfl|k+2,hk=>absurd hk (by omega))
 refine svA fun d b W X cx=>?_
 refine ax.call (av (args:=#[.iface 24 (vp bg),vi 0,.string (qkF (E.getD r en0).1),.agg #[vi (opF (E.getD r en0).1),vi (osF (E.getD r en0).1)]]) rfl cx.sees rfl (by kernel_rfl) (yW (cx.an 1) (cx.co _) (cx.an 5) (cx.an 9))) ?_
 refine(Hf hR2 (pF _ _ 0 (qkF (E.getD r en0).1) (opF (E.getD r en0).1) (osF (E.getD r en0).1) p1 _ (d7 (iJ (CtxV.holdF cx (cx.init 0 _ rfl) rfl)) hnk) hok hoc (by omega))).mono ?_
 rintro e W1 ⟨A4,c4,rfl,aR⟩
 refine⟨_,rfl,dy [eO 99 3 (.slice A4 R.1.length c4) R.1.length (R.1.flatMap edC)] rfl rfl aR (fun o y X' hs hb hv hN=>?_)⟩
 have aZ:=(hv 99 rfl).1;have aJ:=(hv 99 rfl).2
 exact⟨aZ.trans (by rw[aJ];rfl),(by rw[aJ];exact(List.cons.inj hN).1)⟩
 exact sv rfl rfl rfl rfl rfl _ (fun _ _ _ h=>h) (fun b y h=>by rw[h 99 (by decide)]) fun d b W X cx=>b7 rfl (dTn (cx.an 10)).1
 exact sv rfl rfl rfl rfl rfl _ (fun _ _ _ h=>h) (fun b y h=>by rw[h 99 (by decide)]) fun d b W X cx=>aG rfl (dTn (cx.an 11)) rfl
 exact s4 rfl (fun _ _ _ h=>h.trans (congrArg Value.bool hrt_)) fun cx=>aG rfl (dTn (cx.an 11)) rfl
 exact sv rfl rfl rfl rfl rfl _ (fun _ _ _ h=>h) (fun b y h=>by rw[h 99 (by decide)]) fun d b W X cx=>aN rfl (dTn (cx.an 12))
 intro o b X Jp hD jC fr af
 simp only[exq 4 ((dTn (hD 10 lq)).2)] at jC
 simp only[ed 99 ((dTn (hD 10 lq)).1),ed 88 ((dTn (hD 11 lq))),ed 100 ((dTn (hD 12 lq))),ed 14 ((dTn (hD 14 lq)))] at af
 generalize sA (tg (b 99) 0)=Kt,sC (tg (b 99) 0)=Ku at jC af
 clear hD;subst af;clear o b X
 refine aa (wp_seq (wp_seq (sqr (sqp [.k 102 (.bool true),.k 103 (.bool false)] ?_))))
 refine aa (wcf rfl (wp_skip (aa (sqr (sqp [.m 104 8,.m 105 14] ?_)))))
 refine mF (fun X_=>X_.fp) (.tuple #[]) (fun zR=>eBk bg (doB p1 R.1) zR) 0 jC (by
   refine svA fun d b W X cx=>?_
   refine ax.call (av (args:=#[vp bg,.slice Kt R.1.length Ku]) rfl cx.sees rfl (by kernel_rfl) (aK (cx.ou 104) (cx.ou 105))) ?_
   refine(i8 bg p1 _ 60 _ _ R.1 _ (CtxV.holdF cx (cx.init 0 _ rfl) rfl) (CtxV.ltF cx (cx.init 0 _ rfl) rfl) (CtxV.keepAt cx (cx.init 4 _ rfl) (cx.init 0 _ rfl) rfl rfl (by decide)) hedl kV (by decide) hpb.its).mono ?_
   rintro e W1 ⟨rfl,fp4,aR⟩
   refine⟨_,rfl,bw (E:=eBk bg p1 f1) [eBk bg (doB p1 R.1) fp4] (cx.init 0 _ rfl) rfl rfl aR (fun o y X' hs hb hv hN=>?_)⟩
   have aZ:=(hv 106 rfl).1;have aJ:=(hv 106 rfl).2
   exact⟨aZ.trans rfl,ij ((List.cons.inj hN).1)⟩) fun zR EV bJ=>?_
 refine aw (aa (sqr (sqp [.m 86 13,sI 87 ((r:Int)+1) (by omega),.m 13 87] ?_)))
 refine aa ?_
 refine⟨fr+td+1-((r+1)),by omega,?_⟩
 exact⟨(r+1),(doB p1 R.1),zR,by omega,hpb.do (by rw[<-hR];exact KV hok _ _ _),by rw[<-hR];exact KZ hok hc8 _ _,hrr.2,rfl,(by kernel_rfl),bJ.pk [0,1,2,3]⟩
 refine wp_exit (am (am (bj (aa (wp_seq (sqr ?_))))))
 refine Dc (fun cE=>vp cE) (fun cE=>eB cE 145 #[vi 0,vi 0,.string lbE,.bool false]) lI (fun cx=>⟨_,(yR 0 (⟨#[]⟩:ByteArray) _ (by decide)).mono (by rintro e W1 ⟨B4,rfl,aR⟩;exact⟨_,rfl,aR⟩),(aK (cx.co _) (cx.co _))⟩) fun cE Ou pt=>?_
 refine sqp [.m 16 107] ?_
 refine aa (wp_seq (sqr ?_))
 refine sql (.pointer (some ⟨aW,2,none⟩)) pt (fun cx=>hH (n:=3) (sz:=1) (m:=2) (q:=2) rfl (by kernel_rfl) (cx.ou 4) (cx.co _) (by omega) (by omega) (by omega)) ?_
 refine al 1 pt ?_
 refine sqk (.string (cU q2)) pt (fun cx=>⟨_,pO q2 _,(br (cx.ou 109))⟩) fun O2 py=>?_
 refine sqp [.k 111 (.agg #[vi 50,vi 1])] ?_
 refine pd (fun c9=>vp c9) (fun c9 zS=>ePk c9 (dD 0 (cU q2) 50 1) zS) py (fun cx=>⟨_,(qE 0 (cU q2) 50 1 _ (Nat.le_trans (gx _) (by decide))).mono (by rintro e W1 ⟨B4,fp4,rfl,aR⟩;exact⟨_,_,rfl,aR⟩),(eC (cx.co _) (cx.ou 110) (cx.ou 111))⟩) fun c9 zS RX LV=>?_
 refine sqp [.m 17 112] ?_
 refine aa (wp_seq (sqr ?_))
 refine lS (fun x_=>pbx x_) (fun dz=> .map (some dz)) (fun dz=>eMx kcS ecI Try.prog 9 dz 0 (fun _=>none)) LV (by
   refine svA fun d b W X cx=>?_
   exact BL rfl rfl rfl rfl (fun _ _ _ _ _=> .intro)) fun dz Mc jz=>?_
 refine sqp [.m 18 113] ?_
 refine aa (wp_seq (sqr (sqp [.k 19 (.bool true)] ?_)))
 refine aa (wp_seq (sqr (sqp [.k 20 (vi 56)] ?_)))
 refine aa (wp_seq (wp_seq (sqr (sqp [.k 21 (vi 0)] ?_))))
 refine aa (wp_block ?_)
 obtain rfl:r=fr+td+1:=by omega
 have hus0:=DK hrm (k:=cU q2) (g:=50) (s:=1)
 have hue:=Hj (l:=(l.take nl)) (by omega) hper fr (fr+td+1) q2
 rw[<-KR] at hus0
 have hpu0:PuM (54016+10*0) (0+1) (dD 0 (cU q2) 50 1):=Bz _ _ _ _ (by omega)
 obtain⟨p0,kU⟩:∃z,dD 0 (cU q2) 50 1=z:=⟨_,rfl⟩
 rw[kU] at hus0 hpu0 jz
 rw[Ii] at jz
 obtain⟨En,hEn⟩:∃z,((E.map kv).take fr++(E.map kv).drop (fr+td+1))=z:=⟨_,rfl⟩
 obtain⟨xq,hxq⟩:∃z,(bu (cU q2) 50 1)=z:=⟨_,rfl⟩
 rw[hEn,hxq] at hus0 hue
 have hEnl:=Il (E:=E) (fr:=fr) (i:=fr+td+1) (by omega) (by omega)
 rw[hEn] at hEnl
 refine aX (fun t_ mz az W=>∃i:Nat,∃ps:List PgS,∃fb:List Nat,∃nx:Int,∃p:PuT,∃fk:List Nat,∃wk:WkT,∃mo:Bool,∃S:List ByteArray,i<=1200/\BdM (54016+10*i) ps/\C8 ps/\PuM (54016+10*i) (i+1) p/\wk.fm.size<=900000/\UnS En xq i ps nx p wk mo S/\mz=1200-i/\az=⟨(ovr (jv az) [(6,6,1,[]),(12,19,0,[.bool mo,vi nx,vi ((i:Int))]),(0,22,12,[]),(80,114,92,[])] t_).toArray,[]⟩/\St w [] [eB aW 90 #[vi q0,vi q1,vi q2],eO 9 1 (.slice KA49_9 E.length cKA49_9) E.length (E.map tqS),eO 31 2 (.slice RA49_9 E.length cRA49_9) E.length (E.flatMap tqR),eBk bg ps fb,ePk c9 p fk,eB cE 145 #[vi wk.pos,vi wk.st,.string wk.fm,.bool wk.fin],eMx kcS ecI Try.prog 9 dz S.length (mN S)] W) (1200-0) ?_ ?_
 exact⟨0,p1,f1,56,p0,zS,⟨0,0,bu (⟨#[]⟩:ByteArray) 0 0,false⟩,true,[],by omega,hpb,hc8,hpu0,(by decide),hus0,rfl,(by kernel_rfl),jz.pk [1,2,3,0,5,4,6]⟩
 rintro RY a81 RZ ⟨i,ps,fb,nx,p,fk,wk,mo,S,hi12,hpb,hc8,hpu,hfz,hus,rfl,hj_,so⟩
 refine ovz hj_ fun QS=>?_
 have hcs:=vE hus
 have kV:ps.length=60:=hcs.2.1
 have hok:=hpb.ok (by omega) (by omega)
 have hoc:=hc8.okc
 have hnk:ps.length<=1000:=by omega
 refine wp_seq (wp_seq (sqr (sqp [.m 114 21,.k 115 (.bool (decide ((i:Int)<1200)))] ?_)))
 refine aa (wds (fun D0 zx=>?_) fun D0 zx=>?_)
 ·refine wp_skip (aa (wp_seq (wp_block (wp_seq (sqr (sqp [.m 118 21,.m 22 118] ?_))))))
  refine aa ?_
  refine ji (fun t_ az W=>∃pk:Int,(i<200\/pk=(i:Int))/\az=⟨(ovr (jv az) [(22,22,0,[vi pk]),(96,119,12,[])] t_).toArray,[]⟩/\St w [] [eB aW 90 #[vi q0,vi q1,vi q2],eO 9 1 (.slice KA49_9 E.length cKA49_9) E.length (E.map tqS),eO 31 2 (.slice RA49_9 E.length cRA49_9) E.length (E.flatMap tqR),eBk bg ps fb,ePk c9 p fk,eB cE 145 #[vi wk.pos,vi wk.st,.string wk.fm,.bool wk.fin],eMx kcS ecI Try.prog 9 dz S.length (mN S)] W) ?_ ?_
  refine wp_seq (sqr (sqp [.m 119 21,.m 120 2,.k 121 (vi ((k0:Int))),.k 122 (.bool (decide ((i:Int)<(k0:Int)))),.m 123 122] ?_))
  refine sqw 123 [124,125] rfl (fun _=>sqp [.m 124 21,.k 125 (.bool (decide ((i:Int)<200)))] sqe) ?_
  refine sqp [sPa 126 (decide ((i:Int)<(k0:Int))) (decide ((i:Int)<200))] ?_
  refine aa (wbs (fun nh=>?_) fun nh=>?_)
  have ki:=nh
  simp only[zB] at ki
  obtain⟨JO,JP⟩:=ki
  refine sqr (sqp [.m 127 2,.m 128 21] ?_)
  refine sql (.pointer (some ((ad Kp).add i))) so (fun cx=>bo (e:=3) (m:=i) rfl (by kernel_rfl) (by kernel_rfl) (cx.ou 127) (cx.ou 128) (by omega) (by omega) (hK.ext cx.upd.to_ext) (by rw[List.length_map]<;>omega)) ?_
  refine sql (vi (ks.getD i 0)) so (fun cx=>ae rfl (by kernel_rfl) (cx.ou 129) (At.cellAd (hK.ext cx.upd.to_ext) (qi (by omega)))) ?_
  refine sqp [.m 22 130] ?_
  refine aa ?_
  exact⟨ks.getD i 0,.inl (by omega),(by kernel_rfl),so.pk [0,1,2,3,4,5,6]⟩
  have ki:=nh
  simp only[zB] at ki
  refine wp_skip (aa ?_)
  exact⟨(i:Int),.inr rfl,(by kernel_rfl),so.pk [0,1,2,3,4,5,6]⟩
  rintro a87 R0 ⟨pk,hpk,hj_,LW⟩
  refine ovz hj_ fun QT=>?_
  refine ji (fun t_ az W=>∃ps2:List PgS,∃fb2:List Nat,∃nx2:Int,∃p2:PuT,∃fk2:List Nat,∃wk2:WkT,∃mo2:Bool,∃S2:List ByteArray,BdM (54016+10*(i+1)) ps2/\C8 ps2/\PuM (54016+10*(i+1)) ((i+1)+1) p2/\wk2.fm.size<=900000/\UnS En xq (i+1) ps2 nx2 p2 wk2 mo2 S2/\az=⟨(ovr (jv az) [(6,6,1,[]),(12,19,0,[.bool mo2,vi nx2]),(2,23,11,[]),(97,131,67,[])] t_).toArray,[]⟩/\St w [] [eB aW 90 #[vi q0,vi q1,vi q2],eO 9 1 (.slice KA49_9 E.length cKA49_9) E.length (E.map tqS),eO 31 2 (.slice RA49_9 E.length cRA49_9) E.length (E.flatMap tqR),eBk bg ps2 fb2,ePk c9 p2 fk2,eB cE 145 #[vi wk2.pos,vi wk2.st,.string wk2.fm,.bool wk2.fin],eMx kcS ecI Try.prog 9 dz S2.length (mN S2)] W) ?_ ?_
  refine wp_seq (sqr (sqp [.m 131 22] ?_))
  refine sqk (vi (((pk.tmod 3+3).tmod 3))) LW (fun cx=>⟨_,H5 pk _,(aK (cx.ou 131) (cx.co _))⟩) fun QU sq=>?_
  refine aa (wp_block (wp_seq ?_))
  obtain⟨kz,nv⟩:∃z,((pk.tmod 3+3).tmod 3)=z:=⟨_,rfl⟩
  rw[nv]
  obtain⟨kn,hk5,hk6,hk7⟩:=Fb pk i hpk
  rw[nv] at hk5
  clear nv
  subst hk5
  refine sqr (sqp [.k 144 (.bool ((kn:Int)==0)),.m 143 144] ?_)
  refine aa (wbs (fun zT=>?_) fun zT=>?_)
  have Kw:=beq_iff_eq.1 zT
  refine wp_seq ?_
  have hsw:i<200\/i % 3=0:=by omega
  rcases hR:wkN ps wk with ⟨w1,r1⟩
  have hb2:=FV hus hue hsw hR
  rcases Ad r1 with ⟨mq,rfl⟩|⟨nd,rfl⟩
  have hfm1:=zZ hR
  have hbs2:UnS En xq (i+1) ps nx p w1 mq S:=by cases mq<;>exact hb2
  refine sqr (sqp [.m 146 16,.m 147 8] ?_)
  refine sqv (.iface 24 (vp bg)) sq (by
    exact sv0 rfl rfl rfl rfl rfl (fun _ _ _ h=>h) fun d b W X cx=>by
     have zU:d (.tmp 147)=vp bg:=(cx.ou 147)
     simp[go_sem,zU]) fun QV Kx=>?_
  refine lU (.tuple #[vi ((-1)),.slice none 0 0,.slice none 0 0,.bool mq]) (eB cE 145 #[vi w1.pos,vi w1.st,.string w1.fm,.bool w1.fin]) 5 Kx (by
    refine svA fun d b W X cx=>?_
    refine ax.call (av (args:=#[vp cE,.iface 24 (vp bg)]) rfl cx.sees rfl (by kernel_rfl) (aK (cx.ou 146) (cx.ou 148))) ?_
    refine(Im (BC hR (qF _ _ _ wk.pos wk.st wk.fm wk.fin ps _ (cx.bi 5 rfl) (fun W hW=>d7 (BkU.at (CtxV.bkU cx (cx.init 3 _ rfl) (cx.init 5 _ rfl) rfl rfl (by decide)) hW) hnk) hok hoc (by omega) hfz))).mono ?_
    rintro e W1 ⟨rfl,aR⟩
    refine⟨_,rfl,bw (E:=eB cE 145 #[vi wk.pos,vi wk.st,.string wk.fm,.bool wk.fin]) [eB cE 145 #[vi w1.pos,vi w1.st,.string w1.fm,.bool w1.fin]] (cx.init 5 _ rfl) rfl rfl aR (fun o y X' hs hb hv hN=>?_)⟩
    have aZ:=(hv 149 rfl).1;have aJ:=(hv 149 rfl).2
    exact⟨aZ.trans rfl,(List.cons.inj hN).1⟩) fun MT wQ=>?_
  refine sqp [.m 145 149,.k 150 (vi ((-1))),.k 151 (.slice none 0 0),.k 152 (.slice none 0 0),.k 153 (.bool mq),.m 23 150,.m 24 151,.m 25 152,.m 26 153] ?_
  refine aa (wp_seq (wp_seq (sqr (sqp [.k 27 (vi 0)] ?_))))
  refine aa (wp_block ?_)
  refine aX (fun t_ mz az W=>∃j:Nat,j<=0/\mz=0-j/\az=⟨(ovr (jv az) [(27,27,0,[vi ((j:Int))]),(126,154,24,[])] t_).toArray,[]⟩/\St w [] [eB aW 90 #[vi q0,vi q1,vi q2],eO 9 1 (.slice KA49_9 E.length cKA49_9) E.length (E.map tqS),eO 31 2 (.slice RA49_9 E.length cRA49_9) E.length (E.flatMap tqR),eBk bg ps fb,ePk c9 p fk,eB cE 145 #[vi w1.pos,vi w1.st,.string w1.fm,.bool w1.fin],eMx kcS ecI Try.prog 9 dz S.length (mN S)] W) (0-0) ?_ ?_
  exact⟨0,Nat.zero_le _,rfl,(by kernel_rfl),wQ.pk [0,1,2,3,4,5,6]⟩
  rintro QW a122 MU ⟨j,hj,rfl,hj_,rL⟩
  refine ovz hj_ fun PN=>?_
  refine wp_seq (wp_seq (sqr ?_))
  have hd127:(decide ((j:Int)<0))=false:=(decide_eq_false (by omega))
  refine sqp [.m 154 27,.m 155 24,.k 156 (vi 0),.e 157 (.bool (decide ((j:Int)<0))) (.bool false) (congrArg Value.bool hd127),.k 158 (.bool false)] ?_
  refine sY 158 [159,160,161,162] rfl rfl ?_
  refine sqp [.k 163 (.bool false)] ?_
  refine aa (wcf rfl (wp_exit (am (am (bj (aa (sqr (sqp [.m 178 26,.m 19 178] ?_))))))))
  refine aw (aa ?_)
  exact⟨ps,fb,nx,p,fk,w1,mq,S,hpb.mono (by omega),hc8,hpu.moreU,by rw[hfm1];exact hfz,hbs2,(by kernel_rfl),rL.pk [0,1,2,3,4,5,6]⟩
  have hfm1:=zZ hR
  have hbs2:UnS En xq (i+1) ps nx p (wkL w1 nd) true (S++(aM w1.fm nd.es).map fun e=>e.1):=hb2
  have hN0:=e8 hok (HG hR)
  have hN1:=hN0.len
  have hN3:=hN0.hi
  have hfz3:(wkL w1 nd).fm.size<=900000:=by show (if nd.high.size=0 then w1.fm else nd.high).size<=900000;split;(rw[hfm1];exact hfz);omega
  have hkl_:(aM w1.fm nd.es).length<=nd.es.length:=List.length_filter_le _ _
  have hen_:=Hr hbs2 hue
  have htl9:=hen_.2.1
  rw[List.length_append,List.length_map] at htl9
  refine aj [0,0,2,7,15,31,31,31,31,63,639,1791,4095] [[],[],[],[5,3]] [[],[],[],[7,8,9]] [[],[],[],[5]] [.k 146 (vp cE),.k 147 (vp bg),.c 148 (.iface 24 (vp bg)),.a 149,.a 145,.c 150 (vi wk.pos),.a 151,.a 152,.c 153 (.bool true),.k 23 (vi wk.pos),.a 24,.a 25,.k 26 (.bool true)] (fun ix o b X=>match ix with|0|1|2=>True|3=>o 149= .tuple #[vi wk.pos,.slice (sA (tg (b 149) 1)) ((aM w1.fm nd.es).length) (sC (tg (b 149) 1)),.slice (sA (tg (b 149) 2)) ((aM w1.fm nd.es).length) (sC (tg (b 149) 2)),.bool true]/\X 7=eB cE 145 #[vi ((wkL w1 nd).pos),vi ((wkL w1 nd).st),.string ((wkL w1 nd).fm),.bool ((wkL w1 nd).fin)]/\X 8=eO 9 1 (.slice (sA (tg (b 149) 1)) ((aM w1.fm nd.es).length) (sC (tg (b 149) 1))) ((aM w1.fm nd.es).length) ((aM w1.fm nd.es).map tqS)/\X 9=eO 31 2 (.slice (sA (tg (b 149) 2)) ((aM w1.fm nd.es).length) (sC (tg (b 149) 2))) ((aM w1.fm nd.es).length) ((aM w1.fm nd.es).flatMap tqR)|4=>o 145= .tuple #[vi wk.pos,.slice (sA (tg (b 149) 1)) ((aM w1.fm nd.es).length) (sC (tg (b 149) 1)),.slice (sA (tg (b 149) 2)) ((aM w1.fm nd.es).length) (sC (tg (b 149) 2)),.bool true]|5=>True|6=>o 151= .slice (sA (tg (b 149) 1)) ((aM w1.fm nd.es).length) (sC (tg (b 149) 1))|7=>o 152= .slice (sA (tg (b 149) 2)) ((aM w1.fm nd.es).length) (sC (tg (b 149) 2))|8|9=>True|10=>o 24= .slice (sA (tg (b 149) 1)) ((aM w1.fm nd.es).length) (sC (tg (b 149) 1))|11=>o 25= .slice (sA (tg (b 149) 2)) ((aM w1.fm nd.es).length) (sC (tg (b 149) 2))|_=>True) [0,1,2,3,4,6,7,8,9] [2,3,4,5,6,7,8,10,11] [(23,9,4,27),(118,4,1,119),(0,0,4,4),(0,5,4,4)] sq ?_ ?_ ?_
  exact fun ix _ _ _ _ _ _ hs hb hx h=>match ix,h with
  |3,h=>by dsimp only;rw[<-hs 149 rfl,<-hb 149 rfl,<-hx 7 rfl,<-hx 8 rfl,<-hx 9 rfl];exact h
  |4,h=>by dsimp only;rw[<-hs 145 rfl,<-hb 149 rfl];exact h
  |6,h=>by dsimp only;rw[<-hs 151 rfl,<-hb 149 rfl];exact h
  |7,h=>by dsimp only;rw[<-hs 152 rfl,<-hb 149 rfl];exact h
  |10,h=>by dsimp only;rw[<-hs 24 rfl,<-hb 149 rfl];exact h
  |11,h=>by dsimp only;rw[<-hs 25 rfl,<-hb 149 rfl];exact h
  |0,_|1,_|2,_|5,_|8,_|9,_|_+12,_=>trivial
  refine⟨?_,?_,?_,?_,?_,?_,?_,?_,?_,trivial⟩
  exact sv0 rfl rfl rfl rfl rfl (fun _ _ _ h=>h) fun d b W X cx=>by
   have zU:d (.tmp 147)=vp bg:=(cx.an 1)
   simp[go_sem,zU]
  refine svA fun d b W X cx=>?_
  refine ax.call (av (args:=#[vp cE,.iface 24 (vp bg)]) rfl cx.sees rfl (by kernel_rfl) (aK (cx.an 0) (cx.an 2))) ?_
  refine(BC hR (qF _ _ _ wk.pos wk.st wk.fm wk.fin ps _ (cx.bi 5 rfl) (fun W hW=>d7 (BkU.at (CtxV.bkU cx (cx.init 3 _ rfl) (cx.init 5 _ rfl) rfl rfl (by decide)) hW) hnk) hok hoc (by omega) hfz)).mono ?_
  rintro e W1 ⟨KA4,kc4,RA4,rc4,rfl,aR⟩
  refine⟨_,rfl,bw (E:=eB cE 145 #[vi wk.pos,vi wk.st,.string wk.fm,.bool wk.fin]) [eB cE 145 #[vi ((wkL w1 nd).pos),vi ((wkL w1 nd).st),.string ((wkL w1 nd).fm),.bool ((wkL w1 nd).fin)],eO 9 1 (.slice KA4 (aM w1.fm nd.es).length kc4) (aM w1.fm nd.es).length ((aM w1.fm nd.es).map tqS),eO 31 2 (.slice RA4 (aM w1.fm nd.es).length rc4) (aM w1.fm nd.es).length ((aM w1.fm nd.es).flatMap tqR)] (cx.init 5 _ rfl) rfl rfl aR (fun o y X' hs hb hv hN=>?_)⟩
  have aZ:=(hv 149 rfl).1;have aJ:=(hv 149 rfl).2
  exact⟨aZ.trans (by rw[aJ];rfl),(List.cons.inj hN).1,(by rw[aJ];exact(List.cons.inj (List.cons.inj hN).2).1),(by rw[aJ];exact(List.cons.inj (List.cons.inj (List.cons.inj hN).2).2).1)⟩
  exact sv rfl rfl rfl rfl rfl _ (fun _ _ _ h=>h) (fun b y h=>by rw[h 149 (by decide)]) fun d b W X cx=>b7 rfl (dTn (cx.an 3)).1
  exact xs4 rfl id fun cx=>aG rfl (dTn (cx.an 4)) rfl
  exact sv rfl rfl rfl rfl rfl _ (fun _ _ _ h=>h) (fun b y h=>by rw[h 149 (by decide)]) fun d b W X cx=>aG rfl (dTn (cx.an 4)) rfl
  exact sv rfl rfl rfl rfl rfl _ (fun _ _ _ h=>h) (fun b y h=>by rw[h 149 (by decide)]) fun d b W X cx=>aG rfl (dTn (cx.an 4)) rfl
  exact xs4 rfl id fun cx=>aG rfl (dTn (cx.an 4)) rfl
  exact sv rfl rfl rfl rfl rfl _ (fun _ _ _ h=>h) (fun b y h=>by rw[h 149 (by decide)]) fun d b W X cx=>aN rfl (dTn (cx.an 6))
  exact sv rfl rfl rfl rfl rfl _ (fun _ _ _ h=>h) (fun b y h=>by rw[h 149 (by decide)]) fun d b W X cx=>aN rfl (dTn (cx.an 7))
  intro o b X M8 hD kR fr af
  simp only[exq 7 ((dTn (hD 3 lq)).2.1),exq 8 ((dTn (hD 3 lq)).2.2.1),exq 9 ((dTn (hD 3 lq)).2.2.2)] at kR
  simp only[ed 149 ((dTn (hD 3 lq)).1),ed 145 ((dTn (hD 4 lq))),ed 151 ((dTn (hD 6 lq))),ed 152 ((dTn (hD 7 lq))),ed 24 ((dTn (hD 10 lq))),ed 25 ((dTn (hD 11 lq)))] at af
  generalize sA (tg (b 149) 1)=GA149_132,sC (tg (b 149) 1)=cGA149_132,sA (tg (b 149) 2)=HA149_132,sC (tg (b 149) 2)=cHA149_132 at kR af
  clear hD;subst af;clear o b X
  refine aa (wp_seq (wp_seq (sqr (sqp [.k 27 (vi 0)] ?_))))
  refine aa (wp_block ?_)
  refine aX (fun t_ mz az W=>∃j:Nat,∃S3:List ByteArray,j<=(aM w1.fm nd.es).length/\(S3=S++((aM w1.fm nd.es).take j).map fun e=>e.1)/\mz=(aM w1.fm nd.es).length-j/\az=⟨(ovr (jv az) [(27,27,0,[vi ((j:Int))]),(126,154,24,[])] t_).toArray,[]⟩/\St w [] [eB aW 90 #[vi q0,vi q1,vi q2],eO 9 1 (.slice KA49_9 E.length cKA49_9) E.length (E.map tqS),eO 31 2 (.slice RA49_9 E.length cRA49_9) E.length (E.flatMap tqR),eBk bg ps fb,ePk c9 p fk,eMx kcS ecI Try.prog 9 dz S3.length (mN S3),eB cE 145 #[vi ((wkL w1 nd).pos),vi ((wkL w1 nd).st),.string ((wkL w1 nd).fm),.bool ((wkL w1 nd).fin)],eO 9 1 (.slice GA149_132 ((aM w1.fm nd.es).length) cGA149_132) ((aM w1.fm nd.es).length) ((aM w1.fm nd.es).map tqS),eO 31 2 (.slice HA149_132 ((aM w1.fm nd.es).length) cHA149_132) ((aM w1.fm nd.es).length) ((aM w1.fm nd.es).flatMap tqR)] W) ((aM w1.fm nd.es).length-0) ?_ ?_
  exact⟨0,S,Nat.zero_le _,by simp,rfl,(by kernel_rfl),kR.pk [0,1,2,3,4,5,6,7,8]⟩
  rintro QX a134 QY ⟨j,S3,hj,hS3,rfl,hj_,Co⟩
  refine ovz hj_ fun PO=>?_
  refine wp_seq (wp_seq (sqr (sqp [.m 154 27,.m 155 24,.k 156 (vi (((aM w1.fm nd.es).length:Int))),.k 157 (.bool (decide ((j:Int)<((aM w1.fm nd.es).length:Int)))),.m 158 157] ?_)))
  refine sqw 158 [159,160,161,162] rfl (fun _=>sqp [.m 159 27,.m 160 25,.k 161 (vi (((aM w1.fm nd.es).length:Int))),.k 162 (.bool (decide ((j:Int)<((aM w1.fm nd.es).length:Int))))] sqe) ?_
  refine sqp [sPa 163 (decide ((j:Int)<((aM w1.fm nd.es).length:Int))) (decide ((j:Int)<((aM w1.fm nd.es).length:Int)))] ?_
  refine aa (wbs (fun zV=>?_) fun zV=>?_)
  have sr:=zV
  simp only[zB] at sr
  obtain⟨NV,NW⟩:=sr
  refine wp_skip (aa (wp_seq (wp_block ?_)))
  obtain⟨he1_,he2_,_,he4_⟩:=(hen_.1 _ (List.mem_append_right S (Cv (E:=(aM w1.fm nd.es)) (k:=j) (by omega)))).parts
  have hxz_:kcS.ok ((aM w1.fm nd.es).getD j en0).1:=by show _<=100000000;omega
  have hSl_:S3.length<=1000:=by rw[hS3,List.length_append,List.length_map,List.length_take];omega
  have hnx_:((aM w1.fm nd.es).getD j en0).1∉S3:=DE hen_.2.2 (by omega) hS3
  have hn0_:=KP hnx_
  refine aj [0,0,0,6,14,0,0,96,224,510,1023,2047,4095] [[],[],[],[7],[7],[],[],[8],[8],[],[5],[],[5]] [[],[],[],[],[],[],[],[],[],[],[],[],[9]] [[],[],[],[],[],[],[],[],[],[],[],[],[5]] [.k 166 (.map (some dz)),.k 167 (.slice GA149_132 ((aM w1.fm nd.es).length) cGA149_132),.k 168 (vi ((j:Int))),.c 169 (.pointer (some ((ad GA149_132).add j))),.c 170 (.string (qkF ((aM w1.fm nd.es).getD j en0).1)),.k 171 (.slice HA149_132 ((aM w1.fm nd.es).length) cHA149_132),.k 172 (vi ((j:Int))),.c 173 (.pointer (some ((ad HA149_132).add (j*2)))),.c 174 (.agg #[vi (opF ((aM w1.fm nd.es).getD j en0).1),vi (osF ((aM w1.fm nd.es).getD j en0).1)]),.c 175 (.string (((aM w1.fm nd.es).getD j en0).1)),.c 176 (vi (nB S3 (((aM w1.fm nd.es).getD j en0).1))),tI 177 ((nB S3 (((aM w1.fm nd.es).getD j en0).1))+1) (by omega),.n] (fun ix o b X=>match ix with|0|1|2|3|4|5|6|7|8|9|10|11=>True|12=>X 9=eMx kcS ecI Try.prog 9 dz ((mzP (mN S3) (((aM w1.fm nd.es).getD j en0).1) S3.length)) (qg (mN S3) (((aM w1.fm nd.es).getD j en0).1) (some (nB S3 (((aM w1.fm nd.es).getD j en0).1)+1)))|_=>True) [0,1,2,3,4,6,7,8,9] [3,4,7,8,9,10,12] [(166,0,12,178)] Co ?_ ?_ ?_
  exact fun ix _ _ _ _ _ _ hs hb hx h=>match ix,h with
  |12,h=>by dsimp only;rw[<-hx 9 rfl];exact h
  |0,_|1,_|2,_|3,_|4,_|5,_|6,_|7,_|8,_|9,_|10,_|11,_|_+13,_=>trivial
  refine⟨?_,?_,?_,?_,?_,?_,?_,trivial⟩
  exact xs4 rfl id fun cx=>bo (e:=9) (m:=j) rfl (by kernel_rfl) (by kernel_rfl) (cx.an 1) (cx.an 2) (by omega) (by omega) (At.of_own (cx.ri 7 rfl)) (by rw[List.length_map]<;>omega)
  exact xs4 rfl id fun cx=>ae rfl (by kernel_rfl) (cx.an 3) (At.cellAd (At.of_own (cx.ri 7 rfl)) (mE (by omega)))
  exact xs4 rfl id fun cx=>aD (e:=31) (m:=j) (sz:=2) rfl (by kernel_rfl) (by kernel_rfl) (cx.an 5) (cx.an 6) (by omega) (by omega) (At.of_ownN (cx.ri 8 rfl)) (be (sz:=2) iw (by decide) (by omega))
  exact xs4 rfl id fun cx=>aY (f:=tqR) (m:=j) (sz:=2) (off:=0) (n:=2) rfl (by kernel_rfl) (by kernel_rfl) (cx.an 7) rfl iw (At.of_ownN (cx.ri 8 rfl)) (ck (by omega)) (fun k hk=>match k,hk with|0,_=>rfl|1,_=>rfl|k+2,hk=>absurd hk (by omega))
  exact xsc rfl id rfl rfl fun cx=>⟨_,pI _ he1_ (by omega),(aK (cx.an 4) (cx.an 8))⟩
  exact xs4 rfl id fun cx=>mQ (e:=3) (C:=ecI) (K:=kcS) (x:=(((aM w1.fm nd.es).getD j en0).1)) rfl (cx.an 0) (cx.an 9) (CtxV.mx cx (cx.init 5 _ rfl) rfl) (h0:=(by rfl)) (hx:=hxz_) (hk:=show Program.underlying _ _= _ from by kernel_rfl)
  refine svA fun d b W X cx=>?_
  exact Dh (e:=3) (v:=(nB S3 (((aM w1.fm nd.es).getD j en0).1)+1)) (.inl rfl) (cx.an 0) (show d _=Kc.enc kcS (((aM w1.fm nd.es).getD j en0).1) from(cx.an 9)) (show d _=Ec.enc ecI (nB S3 (((aM w1.fm nd.es).getD j en0).1)+1) from(cx.an 11)) cx (cx.init 5 _ rfl) rfl ((by constructor<;>omega)) (by omega) (hxz_) rfl rfl rfl (fun _ _ _ _ _=>id) (hk:=show Program.underlying _ _= _ from by kernel_rfl)
  intro o b X QZ hD xw fr af
  simp only[exq 9 ((dTn (hD 12 lq)))] at xw
  clear hD;subst af;clear o b X
  refine aw (aa (sqr (sqp [.m 164 27,sI 165 ((j:Int)+1) (by omega),.m 27 165] ?_)))
  refine aa ?_
  rw[hn0_,show (0:Int)+1=1 from rfl,Iu,Fm hnx_] at xw
  refine⟨(aM w1.fm nd.es).length-((j+1)),by omega,?_⟩
  exact⟨(j+1),(S3++[((aM w1.fm nd.es).getD j en0).1]),by omega,by rw[hS3,If (by omega),List.append_assoc],rfl,(by kernel_rfl),xw.pk [0,1,2,3,4,8,5,6,7]⟩
  have sr:=zV
  simp only[zB] at sr
  refine wp_exit (am (am (bj (aa (sqr (sqp [.k 178 (.bool true),.k 19 (.bool true)] ?_))))))
  refine aw (aa ?_)
  exact⟨ps,fb,nx,p,fk,(wkL w1 nd),true,S3,hpb.mono (by omega),hc8,hpu.moreU,hfz3,by rw[hS3,List.take_of_length_le (l:=(aM w1.fm nd.es)) (by omega)];exact hbs2,(by kernel_rfl),Co.pk [0,1,2,3,4,6,5]⟩
  have Kw:=beq_eq_false_iff_ne.1 zT
  refine wp_seq (sqr (sqp [.k 180 (.bool ((kn:Int)==1)),.m 179 180] ?_))
  refine aa (wbs (fun zW=>?_) fun zW=>?_)
  have Ky:=beq_iff_eq.1 zW
  refine wp_seq ?_
  have hsw:i<200\/i % 3=1:=by omega
  obtain⟨R,hR⟩:∃z,aU ps p nx=z:=⟨_,rfl⟩
  have hpl:=hpu.len
  have hte:∀t∈p.left,t.1.size<=900000/\0<=t.2.1/\t.2.1<=90000:=fun t ht=>by have h_:=hpu.left t ht;omega
  have hss:=sF (fresh:=nx) hpb hpu
  have hed9:=tV (fresh:=nx) (p:=p) hok
  have hnr_:nx≠p.root:=by have h_:=K2 hus;rw[hcs.2.2.2.2];omega
  have hc83:=yg (p:=p) (fresh:=nx) hc8 hok hnr_
  have hbp_:=Hn hus hue hsw hR
  rw[hR] at hss hed9 hc83
  have her:=hbp_.1
  have hbs2:=hbp_.2
  have hedm:=hss.1
  have hpu3:=hss.2
  have hedl:R.2.eds.length<=100000:=by omega
  refine aj [0,0,2,0,15,31,63,63,63,127,767,2047] [[],[],[],[],[4,3]] [[],[],[],[],[7,8]] [[],[],[],[],[4]] [.k 182 (vp c9),.k 183 (vp bg),.c 184 (.iface 24 (vp bg)),.k 185 (vi nx),.a 186,.a 181,.a 187,.c 188 (.bool R.2.used),.c 189 (vi R.2.err),.a 28,.k 29 (.bool R.2.used),.k 30 (vi R.2.err)] (fun ix o b X=>match ix with|0|1|2|3=>True|4=>o 186= .tuple #[.slice (sA (tg (b 186) 0)) R.2.eds.length (sC (tg (b 186) 0)),.bool R.2.used,vi R.2.err]/\X 7=ePk c9 R.1 ((X 7).fp)/\X 8=eO 99 3 (.slice (sA (tg (b 186) 0)) R.2.eds.length (sC (tg (b 186) 0))) R.2.eds.length (R.2.eds.flatMap edC)|5=>o 181= .tuple #[.slice (sA (tg (b 186) 0)) R.2.eds.length (sC (tg (b 186) 0)),.bool R.2.used,vi R.2.err]|6=>o 187= .slice (sA (tg (b 186) 0)) R.2.eds.length (sC (tg (b 186) 0))|7|8=>True|9=>o 28= .slice (sA (tg (b 186) 0)) R.2.eds.length (sC (tg (b 186) 0))|_=>True) [0,1,2,3,5,6,7,8] [2,4,5,6,7,8,9] [(28,9,3,31),(150,5,1,151),(0,0,5,5),(0,6,3,3)] sq ?_ ?_ ?_
  exact fun ix _ _ _ _ _ _ hs hb hx h=>match ix,h with
  |4,h=>by dsimp only;rw[<-hs 186 rfl,<-hb 186 rfl,<-hx 7 rfl,<-hx 8 rfl];exact h
  |5,h=>by dsimp only;rw[<-hs 181 rfl,<-hb 186 rfl];exact h
  |6,h=>by dsimp only;rw[<-hs 187 rfl,<-hb 186 rfl];exact h
  |9,h=>by dsimp only;rw[<-hs 28 rfl,<-hb 186 rfl];exact h
  |0,_|1,_|2,_|3,_|7,_|8,_|_+10,_=>trivial
  refine⟨?_,?_,?_,?_,?_,?_,?_,trivial⟩
  exact sv0 rfl rfl rfl rfl rfl (fun _ _ _ h=>h) fun d b W X cx=>by
   have LX:d (.tmp 183)=vp bg:=(cx.an 1)
   simp[go_sem,LX]
  refine svA fun d b W X cx=>?_
  refine ax.call (av (args:=#[vp c9,.iface 24 (vp bg),vi nx]) rfl cx.sees rfl (by kernel_rfl) (eC (cx.an 0) (cx.an 2) (cx.an 3))) ?_
  refine(Ey hR (GC (CtxV.holdF cx (cx.init 4 _ rfl) rfl) (CtxV.bkU cx (cx.init 3 _ rfl) (cx.init 4 _ rfl) rfl rfl (by decide)) hok hc8.okc (by omega) hte (by omega))).mono ?_
  rintro e W1 ⟨A4,c4,rfl,fp4,aR⟩
  refine⟨_,rfl,bw (E:=ePk c9 p fk) [ePk c9 R.1 fp4,eO 99 3 (.slice A4 R.2.eds.length c4) R.2.eds.length (R.2.eds.flatMap edC)] (cx.init 4 _ rfl) rfl rfl aR (fun o y X' hs hb hv hN=>?_)⟩
  have aZ:=(hv 186 rfl).1;have aJ:=(hv 186 rfl).2
  exact⟨aZ.trans (by rw[aJ];rfl),pX ((List.cons.inj hN).1),(by rw[aJ];exact(List.cons.inj (List.cons.inj hN).2).1)⟩
  exact sv rfl rfl rfl rfl rfl _ (fun _ _ _ h=>h) (fun b y h=>by rw[h 186 (by decide)]) fun d b W X cx=>b7 rfl (dTn (cx.an 4)).1
  exact sv rfl rfl rfl rfl rfl _ (fun _ _ _ h=>h) (fun b y h=>by rw[h 186 (by decide)]) fun d b W X cx=>aG rfl (dTn (cx.an 5)) rfl
  exact xs4 rfl id fun cx=>aG rfl (dTn (cx.an 5)) rfl
  exact xs4 rfl id fun cx=>aG rfl (dTn (cx.an 5)) rfl
  exact sv rfl rfl rfl rfl rfl _ (fun _ _ _ h=>h) (fun b y h=>by rw[h 186 (by decide)]) fun d b W X cx=>aN rfl (dTn (cx.an 6))
  intro o b X Q0 hD xy fr af
  obtain⟨xz,l8⟩:∃z,sA (tg (b 186) 0)=z:=⟨_,rfl⟩
  obtain⟨xA,l9⟩:∃z,sC (tg (b 186) 0)=z:=⟨_,rfl⟩
  have kT:X 7= _:=(dTn (hD 4 lq)).2.1
  obtain⟨Cp,ur⟩:∃z,(X 7).fp=z:=⟨_,rfl⟩
  rw[ur] at kT
  clear ur
  simp only[kT,exq 8 ((dTn (hD 4 lq)).2.2),l8,l9] at xy
  simp only[ed 186 ((dTn (hD 4 lq)).1),ed 181 ((dTn (hD 5 lq))),ed 187 ((dTn (hD 6 lq))),ed 28 ((dTn (hD 9 lq))),l8,l9] at af
  clear hD kT l8 l9;subst af;clear o b X
  refine aa (wp_seq (wp_seq (sqr ?_)))
  have hd158:(R.2.err != 0)=false:=(by rw[her];rfl)
  refine sqp [.m 190 30,.e 191 (.bool (R.2.err != 0)) (.bool false) (congrArg Value.bool hd158)] ?_
  refine aa (wcf rfl (wp_skip (aa ?_)))
  refine ji (fun t_ az W=>∃nx3:Int,(nx3=if R.2.used then nx+1 else nx)/\az=⟨(ovr (jv az) [(20,20,0,[vi nx3]),(171,192,3,[])] t_).toArray,[]⟩/\St w [] [eB aW 90 #[vi q0,vi q1,vi q2],eO 9 1 (.slice KA49_9 E.length cKA49_9) E.length (E.map tqS),eO 31 2 (.slice RA49_9 E.length cRA49_9) E.length (E.flatMap tqR),eBk bg ps fb,eB cE 145 #[vi wk.pos,vi wk.st,.string wk.fm,.bool wk.fin],eMx kcS ecI Try.prog 9 dz S.length (mN S),ePk c9 R.1 Cp,eO 99 3 (.slice xz R.2.eds.length xA) R.2.eds.length (R.2.eds.flatMap edC)] W) ?_ ?_
  refine wp_seq (sqr (sqp [.m 192 29] ?_))
  refine aa (wbs (fun zX=>?_) fun zX=>?_)
  refine sqr (sqp [.m 193 20,sI 194 (nx+1) (by omega),.m 20 194] ?_)
  refine aa ?_
  exact⟨(nx+1),by rw[zX];rfl,(by kernel_rfl),xy.pk [0,1,2,3,4,5,6,7]⟩
  refine wp_skip (aa ?_)
  exact⟨nx,by rw[zX];rfl,(by kernel_rfl),xy.pk [0,1,2,3,4,5,6,7]⟩
  rintro a159 Q1 ⟨nx3,hnx3,hj_,Kz⟩
  refine ovz hj_ fun PP=>?_
  refine sqr (sqp [.m 195 8,.m 196 28] ?_)
  refine mF (fun X_=>X_.fp) (.tuple #[]) (fun xB=>eBk bg (doB ps R.2.eds) xB) 3 Kz (by
    refine svA fun d b W X cx=>?_
    refine ax.call (av (args:=#[vp bg,.slice xz R.2.eds.length xA]) rfl cx.sees rfl (by kernel_rfl) (aK (cx.ou 195) (cx.ou 196))) ?_
    refine(i8 bg ps _ 60 _ _ R.2.eds _ (CtxV.holdF cx (cx.init 3 _ rfl) rfl) (CtxV.ltF cx (cx.init 3 _ rfl) rfl) (CtxV.keepAt cx (cx.init 7 _ rfl) (cx.init 3 _ rfl) rfl rfl (by decide)) hedl kV (by decide) hpb.its).mono ?_
    rintro e W1 ⟨rfl,fp4,aR⟩
    refine⟨_,rfl,bw (E:=eBk bg ps fb) [eBk bg (doB ps R.2.eds) fp4] (cx.init 3 _ rfl) rfl rfl aR (fun o y X' hs hb hv hN=>?_)⟩
    have aZ:=(hv 197 rfl).1;have aJ:=(hv 197 rfl).2
    exact⟨aZ.trans rfl,ij ((List.cons.inj hN).1)⟩) fun xB Q2 KB=>?_
  refine aw (aa ?_)
  exact⟨(doB ps R.2.eds),xB,nx3,R.1,Cp,wk,mo,S,(hpb.mono (by omega)).do hedm,hc83,hpu3,hfz,by rw[hnx3];exact hbs2,(by kernel_rfl),KB.pk [0,1,2,3,6,4,5]⟩
  have Ky:=beq_eq_false_iff_ne.1 zW
  refine wp_seq ?_
  have hsw:i<200\/i % 3=2:=by omega
  have hue_:=H4 hus hpb hc8
  have hbs2:=Hh hus hsw
  obtain⟨U,hU⟩:∃z,dN ps 0=z:=⟨_,rfl⟩
  rw[hU] at hue_ hbs2
  have hedm:=hue_.1
  have hc83:=hue_.2.1
  have hedl:U.1.length<=100000:=by omega
  refine sqr (sqp [.m 134 8] ?_)
  refine sqv (.iface 24 (vp bg)) sq (by
    exact sv0 rfl rfl rfl rfl rfl (fun _ _ _ h=>h) fun d b W X cx=>by
     have LY:d (.tmp 134)=vp bg:=(cx.ou 134)
     simp[go_sem,LY]) fun Q3 KC=>?_
  refine gQ (fun jr js=> .tuple #[.slice jr U.1.length js,vi U.2.1,vi U.2.2]) (fun jr js=>eO 99 3 (.slice jr U.1.length js) U.1.length (U.1.flatMap edC)) KC (fun cx=>⟨_,(Bh hU (ud _ _ 0 ps _ (d7 (iJ (CtxV.holdF cx (cx.init 3 _ rfl) rfl)) hnk) hok hoc)).mono (by rintro e W1 ⟨A4,c4,rfl,aR⟩;exact⟨_,_,rfl,aR⟩),(aK (cx.ou 135) (cx.co _))⟩) fun jr js Nb wZ=>?_
  refine sqp [.m 133 136,.k 137 (.slice jr U.1.length js),.k 138 (vi U.2.1),.k 139 (vi U.2.2),.m 31 137,.m 32 138,.m 33 139] ?_
  refine aa (sqr (sqp [.m 140 8,.m 141 31] ?_))
  refine mF (fun X_=>X_.fp) (.tuple #[]) (fun xC=>eBk bg (doB ps U.1) xC) 3 wZ (by
    refine svA fun d b W X cx=>?_
    refine ax.call (av (args:=#[vp bg,.slice jr U.1.length js]) rfl cx.sees rfl (by kernel_rfl) (aK (cx.ou 140) (cx.ou 141))) ?_
    refine(i8 bg ps _ 60 _ _ U.1 _ (CtxV.holdF cx (cx.init 3 _ rfl) rfl) (CtxV.ltF cx (cx.init 3 _ rfl) rfl) (CtxV.keepAt cx (cx.init 7 _ rfl) (cx.init 3 _ rfl) rfl rfl (by decide)) hedl kV (by decide) hpb.its).mono ?_
    rintro e W1 ⟨rfl,fp4,aR⟩
    refine⟨_,rfl,bw (E:=eBk bg ps fb) [eBk bg (doB ps U.1) fp4] (cx.init 3 _ rfl) rfl rfl aR (fun o y X' hs hb hv hN=>?_)⟩
    have aZ:=(hv 142 rfl).1;have aJ:=(hv 142 rfl).2
    exact⟨aZ.trans rfl,ij ((List.cons.inj hN).1)⟩) fun xC Nc w3=>?_
  refine aw (aa ?_)
  exact⟨(doB ps U.1),xC,nx,p,fk,wk,mo,S,(hpb.mono (by omega)).do hedm,hc83,hpu.moreU,hfz,hbs2,(by kernel_rfl),w3.pk [0,1,2,3,4,5,6]⟩
  rintro a102 Q4 ⟨ps2,fb2,nx2,p2,fk2,wk2,mo2,S2,hpb2,hc82,hpu2,hfz2,hus2,hj_,Cq⟩
  refine ovz hj_ fun PQ=>?_
  have hcs2:=vE hus2
  have hck2:=hcs2.1
  have PR:ps2.length=60:=hcs2.2.1
  have hok:=hpb2.ok (by omega) (by omega)
  have hoc:=hc82.okc
  have hnk:ps2.length<=1000:=by omega
  refine wp_seq (sqr (sqp [.m 198 21,.k 199 (.bool (decide ((i:Int)<300))),.m 200 199] ?_))
  refine nM 200 [201,202,203,204] ?_ Cq rfl (fun hq=>?_) fun Q5 KD=>?_
  rotate_left
  refine sqp [.m 201 8] ?_
  refine sqv (.iface 24 (vp bg)) Cq (by
    exact sv0 rfl rfl rfl rfl rfl (fun _ _ _ h=>h) fun d b W X cx=>by
     have LZ:d (.tmp 201)=vp bg:=(cx.ou 201)
     simp[go_sem,LZ]) fun Nd w4=>?_
  refine sqk (vi ((du ps2 0))) w4 (fun cx=>⟨_,pQ _ _ 0 ps2 _ (d7 (iJ (CtxV.holdF cx (cx.init 3 _ rfl) rfl)) hnk) hok hoc,(aK (cx.ou 202) (cx.co _))⟩) fun Q6 KE=>?_
  refine sqp [.k 204 (.bool ((du ps2 0) != 0))] ?_
  exact sqE KE
  refine dn ?_
  have hd190:((decide ((i:Int)<300))&&((du ps2 0) != 0))=false:=(by rw[hck2];simp)
  refine sqp [Mk 205 (decide ((i:Int)<300)) ((du ps2 0) != 0) false hd190] ?_
  refine aa (wcf rfl (wp_skip (aw (aa (sqr (sqp [.m 116 21,sI 117 ((i:Int)+1) (by omega),.m 21 117] ?_))))))
  refine aa ?_
  refine⟨1200-((i+1)),by omega,?_⟩
  exact⟨(i+1),ps2,fb2,nx2,p2,fk2,wk2,mo2,S2,by omega,hpb2,hc82,hpu2,hfz2,hus2,rfl,(by kernel_rfl),KD.pk [0,1,2,3,4,5,6]⟩
 refine wp_exit (am (am (bj (aa (wp_seq (wp_seq ?_))))))
 obtain rfl:i=1200:=by omega
 obtain⟨hmo,hlf,hun,hal,hfo,hin⟩:=HS hus hue
 have hck:=hcs.1
 subst hmo
 refine sqr (sqp [.k 34 (vi 0)] ?_)
 refine aa (wp_block ?_)
 refine aX (fun t_ mz az W=>∃j:Nat,j<=E.length/\mz=E.length-j/\az=⟨(ovr (jv az) [(6,6,1,[]),(27,34,0,[vi ((j:Int))]),(171,206,28,[])] t_).toArray,[]⟩/\St w [] [eB aW 90 #[vi q0,vi q1,vi q2],eO 9 1 (.slice KA49_9 E.length cKA49_9) E.length (E.map tqS),eO 31 2 (.slice RA49_9 E.length cRA49_9) E.length (E.flatMap tqR),eBk bg ps fb,ePk c9 p fk,eB cE 145 #[vi wk.pos,vi wk.st,.string wk.fm,.bool wk.fin],eMx kcS ecI Try.prog 9 dz S.length (mN S)] W) (E.length-0) ?_ ?_
 exact⟨0,Nat.zero_le _,rfl,(by kernel_rfl),so.pk [0,1,2,3,4,5,6]⟩
 rintro Q7 a195 Q8 ⟨j,hj,rfl,hj_,su⟩
 refine ovz hj_ fun PS=>?_
 refine wp_seq (wp_seq (sqr (sqp [.m 206 34,.m 207 9,.k 208 (vi ((E.length:Int))),.k 209 (.bool (decide ((j:Int)<(E.length:Int))))] ?_)))
 refine aa (wds (fun L1 KF=>?_) fun L1 KF=>?_)
 refine wp_skip (aa (wp_seq (wp_block (wp_seq ?_))))
 obtain⟨he1_,he2_,_,he4_⟩:=(hbe j (by omega)).parts
 have hxz_:kcS.ok (E.getD j en0).1:=by show _<=100000000;omega
 rcases(by omega:j<fr\/(¬j<fr/\fr+td<j)\/(¬j<fr/\¬fr+td<j)) with hc_|hc_|hc_
 have hin_:nB S (E.getD j en0).1=1:=Es (hin (kv (E.getD j en0)) (by rw[<-hEn];exact ym (fr:=fr) (i:=fr+td+1) (by omega) (by omega)))
 have hd202:(decide ((j:Int)<(fr:Int)))=true:=(decide_eq_true (by omega))
 have hd203:((nB S ((E.getD j en0).1)) != 1)=false:=(by rw[hin_];rfl)
 refine bC [0,0,3,7,15,15,63,127,255,511,511,511,3583,7679,511,511,49663,115199,261631,524287,1048575,2097151] [[],[],[],[],[],[],[],[],[],[],[],[],[1],[1],[],[],[2],[2],[],[6]] [.k 212 (vi ((j:Int))),.k 213 (vi ((fr:Int))),.e 214 (.bool (decide ((j:Int)<(fr:Int)))) (.bool true) (congrArg Value.bool hd202),.k 215 (.bool true),.u 216,.u 217,.u 218,.k 219 (.bool true),.k 220 (.bool true),.k 221 (.map (some dz)),.k 222 (.slice KA49_9 E.length cKA49_9),.k 223 (vi ((j:Int))),.c 224 (.pointer (some ((ad KA49_9).add j))),.c 225 (.string (qkF (E.getD j en0).1)),.k 226 (.slice RA49_9 E.length cRA49_9),.k 227 (vi ((j:Int))),.c 228 (.pointer (some ((ad RA49_9).add (j*2)))),.c 229 (.agg #[vi (opF (E.getD j en0).1),vi (osF (E.getD j en0).1)]),.c 230 (.string ((E.getD j en0).1)),.c 231 (vi (nB S ((E.getD j en0).1))),.e 232 (.bool ((nB S ((E.getD j en0).1)) != 1)) (.bool false) (congrArg Value.bool hd203),.k 233 (.bool false)] [0,1,2,3,4,5,6] [12,13,16,17,18,19] [(212,0,22,234)] su ?_ fun Q9 KG=>?_
 refine⟨?_,?_,?_,?_,?_,?_,trivial⟩
 exact xs5 rfl id (fun cx=>(cx.an 8)) fun cx=>bo (e:=9) (m:=j) rfl (by kernel_rfl) (by kernel_rfl) (cx.an 10) (cx.an 11) (by omega) (by omega) (At.of_own (cx.ri 1 rfl)) (by rw[List.length_map]<;>omega)
 exact xs5 rfl id (fun cx=>(cx.an 8)) fun cx=>ae rfl (by kernel_rfl) (cx.an 12) (At.cellAd (At.of_own (cx.ri 1 rfl)) (mE (by omega)))
 exact xs5 rfl id (fun cx=>(cx.an 8)) fun cx=>aD (e:=31) (m:=j) (sz:=2) rfl (by kernel_rfl) (by kernel_rfl) (cx.an 14) (cx.an 15) (by omega) (by omega) (At.of_ownN (cx.ri 2 rfl)) (be (sz:=2) iw (by decide) (by omega))
 exact xs5 rfl id (fun cx=>(cx.an 8)) fun cx=>aY (f:=tqR) (m:=j) (sz:=2) (off:=0) (n:=2) rfl (by kernel_rfl) (by kernel_rfl) (cx.an 16) rfl iw (At.of_ownN (cx.ri 2 rfl)) (ck (by omega)) (fun k hk=>match k,hk with|0,_=>rfl|1,_=>rfl|k+2,hk=>absurd hk (by omega))
 exact j6 rfl rfl rfl rfl rfl rfl (fun _ _ _ h=>h) (fun _ _ _ _ cx=>(cx.an 8)) fun d b W X cx=>⟨_,_,av (args:=#[.string (qkF (E.getD j en0).1),.agg #[vi (opF (E.getD j en0).1),vi (osF (E.getD j en0).1)]]) rfl cx.sees rfl (by kernel_rfl) (aK (cx.an 13) (cx.an 17)),pI _ he1_ (by omega)⟩
 exact xs5 rfl id (fun cx=>(cx.an 8)) fun cx=>mQ (e:=3) (C:=ecI) (K:=kcS) (x:=((E.getD j en0).1)) rfl (cx.an 9) (cx.an 18) (CtxV.mx cx (cx.init 6 _ rfl) rfl) (h0:=(by rfl)) (hx:=hxz_) (hk:=show Program.underlying _ _= _ from by kernel_rfl)
 refine aa (wcf rfl (wp_skip (aw (aa (sqr (sqp [.m 210 34,sI 211 ((j:Int)+1) (by omega),.m 34 211] ?_))))))
 refine aa ?_
 refine⟨E.length-((j+1)),by omega,?_⟩
 exact⟨(j+1),by omega,rfl,(by kernel_rfl),KG.pk [0,1,2,3,4,5,6]⟩
 have hin_:nB S (E.getD j en0).1=1:=Es (hin (kv (E.getD j en0)) (by rw[<-hEn];exact ym (fr:=fr) (i:=fr+td+1) (by omega) (by omega)))
 have hd208:(decide ((j:Int)<(fr:Int)))=false:=(decide_eq_false (by omega))
 have hd209:(decide ((fr:Int)+(td:Int)<(j:Int)))=true:=(decide_eq_true (by omega))
 have hd210:((nB S ((E.getD j en0).1)) != 1)=false:=(by rw[hin_];rfl)
 refine bC [0,0,3,7,15,15,63,127,255,511,511,511,3583,7679,511,511,49663,115199,261631,524287,1048575,2097151] [[],[],[],[],[],[],[],[],[],[],[],[],[1],[1],[],[],[2],[2],[],[6]] [.k 212 (vi ((j:Int))),.k 213 (vi ((fr:Int))),.e 214 (.bool (decide ((j:Int)<(fr:Int)))) (.bool false) (congrArg Value.bool hd208),.k 215 (.bool false),.k 216 (vi ((j:Int))),.k 217 (vi ((fr:Int)+(td:Int))),.e 218 (.bool (decide ((fr:Int)+(td:Int)<(j:Int)))) (.bool true) (congrArg Value.bool hd209),.k 219 (.bool true),.k 220 (.bool true),.k 221 (.map (some dz)),.k 222 (.slice KA49_9 E.length cKA49_9),.k 223 (vi ((j:Int))),.c 224 (.pointer (some ((ad KA49_9).add j))),.c 225 (.string (qkF (E.getD j en0).1)),.k 226 (.slice RA49_9 E.length cRA49_9),.k 227 (vi ((j:Int))),.c 228 (.pointer (some ((ad RA49_9).add (j*2)))),.c 229 (.agg #[vi (opF (E.getD j en0).1),vi (osF (E.getD j en0).1)]),.c 230 (.string ((E.getD j en0).1)),.c 231 (vi (nB S ((E.getD j en0).1))),.e 232 (.bool ((nB S ((E.getD j en0).1)) != 1)) (.bool false) (congrArg Value.bool hd210),.k 233 (.bool false)] [0,1,2,3,4,5,6] [12,13,16,17,18,19] [(212,0,22,234)] su ?_ fun Ra KH=>?_
 refine⟨?_,?_,?_,?_,?_,?_,trivial⟩
 exact xs5 rfl id (fun cx=>(cx.an 8)) fun cx=>bo (e:=9) (m:=j) rfl (by kernel_rfl) (by kernel_rfl) (cx.an 10) (cx.an 11) (by omega) (by omega) (At.of_own (cx.ri 1 rfl)) (by rw[List.length_map]<;>omega)
 exact xs5 rfl id (fun cx=>(cx.an 8)) fun cx=>ae rfl (by kernel_rfl) (cx.an 12) (At.cellAd (At.of_own (cx.ri 1 rfl)) (mE (by omega)))
 exact xs5 rfl id (fun cx=>(cx.an 8)) fun cx=>aD (e:=31) (m:=j) (sz:=2) rfl (by kernel_rfl) (by kernel_rfl) (cx.an 14) (cx.an 15) (by omega) (by omega) (At.of_ownN (cx.ri 2 rfl)) (be (sz:=2) iw (by decide) (by omega))
 exact xs5 rfl id (fun cx=>(cx.an 8)) fun cx=>aY (f:=tqR) (m:=j) (sz:=2) (off:=0) (n:=2) rfl (by kernel_rfl) (by kernel_rfl) (cx.an 16) rfl iw (At.of_ownN (cx.ri 2 rfl)) (ck (by omega)) (fun k hk=>match k,hk with|0,_=>rfl|1,_=>rfl|k+2,hk=>absurd hk (by omega))
 exact j6 rfl rfl rfl rfl rfl rfl (fun _ _ _ h=>h) (fun _ _ _ _ cx=>(cx.an 8)) fun d b W X cx=>⟨_,_,av (args:=#[.string (qkF (E.getD j en0).1),.agg #[vi (opF (E.getD j en0).1),vi (osF (E.getD j en0).1)]]) rfl cx.sees rfl (by kernel_rfl) (aK (cx.an 13) (cx.an 17)),pI _ he1_ (by omega)⟩
 exact xs5 rfl id (fun cx=>(cx.an 8)) fun cx=>mQ (e:=3) (C:=ecI) (K:=kcS) (x:=((E.getD j en0).1)) rfl (cx.an 9) (cx.an 18) (CtxV.mx cx (cx.init 6 _ rfl) rfl) (h0:=(by rfl)) (hx:=hxz_) (hk:=show Program.underlying _ _= _ from by kernel_rfl)
 refine aa (wcf rfl (wp_skip (aw (aa (sqr (sqp [.m 210 34,sI 211 ((j:Int)+1) (by omega),.m 34 211] ?_))))))
 refine aa ?_
 refine⟨E.length-((j+1)),by omega,?_⟩
 exact⟨(j+1),by omega,rfl,(by kernel_rfl),KH.pk [0,1,2,3,4,5,6]⟩
 have hd215:(decide ((j:Int)<(fr:Int)))=false:=(decide_eq_false (by omega))
 have hd216:(decide ((fr:Int)+(td:Int)<(j:Int)))=false:=(decide_eq_false (by omega))
 refine lK [0,0,3,7,15,15,63,127,255,511,511,511,3583,7679,511,511,49663,115199,261631,524287,1048575,2097151] [.k 212 (vi ((j:Int))),.k 213 (vi ((fr:Int))),.e 214 (.bool (decide ((j:Int)<(fr:Int)))) (.bool false) (congrArg Value.bool hd215),.k 215 (.bool false),.k 216 (vi ((j:Int))),.k 217 (vi ((fr:Int)+(td:Int))),.e 218 (.bool (decide ((fr:Int)+(td:Int)<(j:Int)))) (.bool false) (congrArg Value.bool hd216),.k 219 (.bool false),.k 220 (.bool false),.u 221,.u 222,.u 223,.u 224,.u 225,.u 226,.u 227,.u 228,.u 229,.u 230,.u 231,.u 232,.k 233 (.bool false)] [(212,0,22,234)] su fun Rb KI=>?_
 refine aa (wcf rfl (wp_skip (aw (aa (sqr (sqp [.m 210 34,sI 211 ((j:Int)+1) (by omega),.m 34 211] ?_))))))
 refine aa ?_
 refine⟨E.length-((j+1)),by omega,?_⟩
 exact⟨(j+1),by omega,rfl,(by kernel_rfl),KI.pk [0,1,2,3,4,5,6]⟩
 refine wp_exit (am (am (bj (aa (wp_seq (aj [0,1,3,7,15,15,31,127] [[],[],[3]] [[],[],[7,8]] [] [.k 235 (vp bg),.c 236 (.iface 24 (vp bg)),.a 237,.a 234,.a 238,.a 239,.a 35,.a 36] (fun ix o b X=>match ix with|0|1=>True|2=>o 237= .tuple #[.slice (sA (tg (b 237) 0)) ((cN ps 0).length) (sC (tg (b 237) 0)),.slice (sA (tg (b 237) 1)) ((cN ps 0).length) (sC (tg (b 237) 1))]/\X 7=eO 9 1 (.slice (sA (tg (b 237) 0)) ((cN ps 0).length) (sC (tg (b 237) 0))) ((cN ps 0).length) ((cN ps 0).map tqS)/\X 8=eO 31 2 (.slice (sA (tg (b 237) 1)) ((cN ps 0).length) (sC (tg (b 237) 1))) ((cN ps 0).length) ((cN ps 0).flatMap tqR)|3=>o 234= .tuple #[.slice (sA (tg (b 237) 0)) ((cN ps 0).length) (sC (tg (b 237) 0)),.slice (sA (tg (b 237) 1)) ((cN ps 0).length) (sC (tg (b 237) 1))]|4=>o 238= .slice (sA (tg (b 237) 0)) ((cN ps 0).length) (sC (tg (b 237) 0))|5=>o 239= .slice (sA (tg (b 237) 1)) ((cN ps 0).length) (sC (tg (b 237) 1))|6=>o 35= .slice (sA (tg (b 237) 0)) ((cN ps 0).length) (sC (tg (b 237) 0))|7=>o 36= .slice (sA (tg (b 237) 1)) ((cN ps 0).length) (sC (tg (b 237) 1))|_=>True) [0,1,2,3,4,5,6,7,8] [1,2,3,4,5,6,7] [(35,6,2,37),(197,3,1,198),(0,0,3,3),(0,4,2,2)] su ?_ ?_ ?_))))))
 exact fun ix _ _ _ _ _ _ hs hb hx h=>match ix,h with
 |2,h=>by dsimp only;rw[<-hs 237 rfl,<-hb 237 rfl,<-hx 7 rfl,<-hx 8 rfl];exact h
 |3,h=>by dsimp only;rw[<-hs 234 rfl,<-hb 237 rfl];exact h
 |4,h=>by dsimp only;rw[<-hs 238 rfl,<-hb 237 rfl];exact h
 |5,h=>by dsimp only;rw[<-hs 239 rfl,<-hb 237 rfl];exact h
 |6,h=>by dsimp only;rw[<-hs 35 rfl,<-hb 237 rfl];exact h
 |7,h=>by dsimp only;rw[<-hs 36 rfl,<-hb 237 rfl];exact h
 |0,_|1,_|_+8,_=>trivial
 refine⟨?_,?_,?_,?_,?_,?_,?_,trivial⟩
 exact sv0 rfl rfl rfl rfl rfl (fun _ _ _ h=>h) fun d b W X cx=>by
  have L2:d (.tmp 235)=vp bg:=(cx.an 0)
  simp[go_sem,L2]
 refine svA fun d b W X cx=>?_
 refine ax.call (av (args:=#[.iface 24 (vp bg),vi 0]) rfl cx.sees rfl (by kernel_rfl) (aK (cx.an 1) (cx.co _))) ?_
 refine(Bc _ _ 0 ps _ (d7 (iJ (CtxV.holdF cx (cx.init 3 _ rfl) rfl)) hnk) hok hoc).mono ?_
 rintro e W1 ⟨KA4,kc4,RA4,rc4,rfl,aR⟩
 refine⟨_,rfl,dy [eO 9 1 (.slice KA4 ((cN ps 0).length) kc4) ((cN ps 0).length) ((cN ps 0).map tqS),eO 31 2 (.slice RA4 ((cN ps 0).length) rc4) ((cN ps 0).length) ((cN ps 0).flatMap tqR)] rfl rfl aR (fun o y X' hs hb hv hN=>?_)⟩
 have aZ:=(hv 237 rfl).1;have aJ:=(hv 237 rfl).2
 exact⟨aZ.trans (by rw[aJ];rfl),(by rw[aJ];exact(List.cons.inj hN).1),(by rw[aJ];exact(List.cons.inj (List.cons.inj hN).2).1)⟩
 exact sv rfl rfl rfl rfl rfl _ (fun _ _ _ h=>h) (fun b y h=>by rw[h 237 (by decide)]) fun d b W X cx=>b7 rfl (dTn (cx.an 2)).1
 exact sv rfl rfl rfl rfl rfl _ (fun _ _ _ h=>h) (fun b y h=>by rw[h 237 (by decide)]) fun d b W X cx=>aG rfl (dTn (cx.an 3)) rfl
 exact sv rfl rfl rfl rfl rfl _ (fun _ _ _ h=>h) (fun b y h=>by rw[h 237 (by decide)]) fun d b W X cx=>aG rfl (dTn (cx.an 3)) rfl
 exact sv rfl rfl rfl rfl rfl _ (fun _ _ _ h=>h) (fun b y h=>by rw[h 237 (by decide)]) fun d b W X cx=>aN rfl (dTn (cx.an 4))
 exact sv rfl rfl rfl rfl rfl _ (fun _ _ _ h=>h) (fun b y h=>by rw[h 237 (by decide)]) fun d b W X cx=>aN rfl (dTn (cx.an 5))
 intro o b X Rc hD xD fr af
 simp only[exq 7 ((dTn (hD 2 lq)).2.1),exq 8 ((dTn (hD 2 lq)).2.2)] at xD
 simp only[ed 237 ((dTn (hD 2 lq)).1),ed 234 ((dTn (hD 3 lq))),ed 238 ((dTn (hD 4 lq))),ed 239 ((dTn (hD 5 lq))),ed 35 ((dTn (hD 6 lq))),ed 36 ((dTn (hD 7 lq)))] at af
 generalize sA (tg (b 237) 0)=KA237_220,sC (tg (b 237) 0)=cKA237_220,sA (tg (b 237) 1)=RA237_220,sC (tg (b 237) 1)=cRA237_220 at xD af
 clear hD;subst af;clear o b X
 refine aa (wp_seq ?_)
 rw[<-hxq] at hfo
 refine sqr (sqp [.m 241 8] ?_)
 refine sqv (.iface 24 (vp bg)) xD (by
   exact sv0 rfl rfl rfl rfl rfl (fun _ _ _ h=>h) fun d b W X cx=>by
    have L3:d (.tmp 241)=vp bg:=(cx.ou 241)
    simp[go_sem,L3]) fun Re xE=>?_
 refine sql (.pointer (some ⟨aW,2,none⟩)) xE (fun cx=>hH (n:=3) (sz:=1) (m:=2) (q:=2) rfl (by kernel_rfl) (cx.ou 4) (cx.co _) (by omega) (by omega) (by omega)) ?_
 refine al 0 xE ?_
 refine sqk (.string (cU q2)) xE (fun cx=>⟨_,pO q2 _,(br (cx.ou 244))⟩) fun Rf KJ=>?_
 refine sqp [.k 246 (.agg #[vi 50,vi 1])] ?_
 refine gQ (fun kW kX=> .tuple #[.slice kW ((rmF ps 0 (bu (cU q2) 50 1)).1.length) kX,.bool ((rmF ps 0 (bu (cU q2) 50 1)).2)]) (fun kW kX=>eO 99 3 (.slice kW ((rmF ps 0 (bu (cU q2) 50 1)).1.length) kX) ((rmF ps 0 (bu (cU q2) 50 1)).1.length) ((rmF ps 0 (bu (cU q2) 50 1)).1.flatMap edC)) KJ (fun cx=>⟨_,(pF _ _ 0 (cU q2) 50 1 ps _ (d7 (iJ (CtxV.holdF cx (cx.init 3 _ rfl) rfl)) hnk) hok hoc (Nat.le_trans (gx _) (by decide))).mono (by rintro e W1 ⟨A4,c4,rfl,aR⟩;exact⟨_,_,rfl,aR⟩),(yW (cx.ou 242) (cx.co _) (cx.ou 245) (cx.ou 246))⟩) fun kW kX Rg KK=>?_
 have hd231:((rmF ps 0 (bu (cU q2) 50 1)).2)=true:=hfo
 refine sqp [.m 240 247,.k 248 (.slice kW ((rmF ps 0 (bu (cU q2) 50 1)).1.length) kX),.e 249 (.bool ((rmF ps 0 (bu (cU q2) 50 1)).2)) (.bool true) (congrArg Value.bool hd231),.m 37 248,.k 38 (.bool true)] ?_
 refine aa (wp_seq ?_)
 obtain⟨U,hU⟩:∃z,dN ps 0=z:=⟨_,rfl⟩
 have hU1:U.2.1= -1:=by rw[<-hU,hun]
 refine sqr (sqp [.m 251 8] ?_)
 refine sqv (.iface 24 (vp bg)) KK (by
   exact sv0 rfl rfl rfl rfl rfl (fun _ _ _ h=>h) fun d b W X cx=>by
    have L6:d (.tmp 251)=vp bg:=(cx.ou 251)
    simp[go_sem,L6]) fun Rh KL=>?_
 refine gQ (fun kY kZ=> .tuple #[.slice kY U.1.length kZ,vi U.2.1,vi U.2.2]) (fun kY kZ=>eO 99 3 (.slice kY U.1.length kZ) U.1.length (U.1.flatMap edC)) KL (fun cx=>⟨_,(Bh hU (ud _ _ 0 ps _ (d7 (iJ (CtxV.holdF cx (cx.init 3 _ rfl) rfl)) hnk) hok hoc)).mono (by rintro e W1 ⟨A4,c4,rfl,aR⟩;exact⟨_,_,rfl,aR⟩),(aK (cx.ou 252) (cx.co _))⟩) fun kY kZ Nf w7=>?_
 refine sqp [.m 250 253,.k 254 (.slice kY U.1.length kZ),.k 255 (vi U.2.1),.k 256 (vi U.2.2),.m 39 254,.m 40 255,.m 41 256] ?_
 refine aa (wp_seq (sqr (sqp [.k 257 (.bool true),.k 258 (.bool true)] ?_)))
 refine fW 258 [259,260] rfl rfl ?_
 refine sqp [.k 259 (.bool false),.k 260 (.bool true)] ?_
 refine sqp [.k 261 (.bool true),.k 262 (.bool true)] ?_
 refine fW 262 [263,264] rfl rfl ?_
 have hd252:((p.left.length:Int)==0)=true:=(by rw[hlf];rfl)
 refine sqp [.m 263 17] ?_
 refine sqv (.bool true) w7 (eI rfl rfl rfl rfl rfl (fun _ _ _ h=>h.trans (congrArg Value.bool hd252)) fun d b W X cx=>⟨_,_,av (args:=#[vp c9]) rfl cx.sees rfl (by kernel_rfl) (br (cx.ou 263)),vm (CtxV.holdF cx (cx.init 4 _ rfl) rfl)⟩) fun Ri KM=>?_
 refine sqp [.k 265 (.bool true),.k 266 (.bool true)] ?_
 refine fW 266 [267] rfl rfl ?_
 refine sqp [.k 267 (.bool true)] ?_
 refine sqp [.k 268 (.bool true),.k 269 (.bool true)] ?_
 refine fW 269 [270,271] rfl rfl ?_
 have hd260:(decide (U.2.1<0))=true:=(by rw[hU1];rfl)
 refine sqp [.m 270 40,.e 271 (.bool (decide (U.2.1<0))) (.bool true) (congrArg Value.bool hd260)] ?_
 refine sqp [.k 272 (.bool true),.k 273 (.bool true)] ?_
 refine fW 273 [274,275,276,277] rfl rfl ?_
 refine sqp [.m 274 8] ?_
 refine sqv (.iface 24 (vp bg)) KM (by
   exact sv0 rfl rfl rfl rfl rfl (fun _ _ _ h=>h) fun d b W X cx=>by
    have L9:d (.tmp 274)=vp bg:=(cx.ou 274)
    simp[go_sem,L9]) fun Rj KN=>?_
 refine sqk (vi ((du ps 0))) KN (fun cx=>⟨_,pQ _ _ 0 ps _ (d7 (iJ (CtxV.holdF cx (cx.init 3 _ rfl) rfl)) hnk) hok hoc,(aK (cx.ou 275) (cx.co _))⟩) fun Rk KO=>?_
 have hd267:((du ps 0)==0)=true:=(by rw[hck];rfl)
 refine sqp [.e 277 (.bool ((du ps 0)==0)) (.bool true) (congrArg Value.bool hd267)] ?_
 refine sqp [.k 278 (.bool true),.k 279 (.bool true)] ?_
 refine fW 279 [280,281,282,283,284,285,286,287,288,289,290] rfl rfl ?_
 have hd281:(((cN ps 0).length:Int)==(((E.length:Int)-(((fr:Int)+(td:Int)-(fr:Int))+1))+1))=true:=(beq_iff_eq.2 (by rw[hal];omega))
 refine sqp [.m 280 35,.k 281 (vi (((cN ps 0).length:Int))),.m 282 9,.k 283 (vi ((E.length:Int))),.m 284 12,.m 285 11,sI 286 (((fr:Int)+(td:Int))-(fr:Int)) (by omega),sI 287 (((fr:Int)+(td:Int)-(fr:Int))+1) (by omega),sI 288 ((E.length:Int)-(((fr:Int)+(td:Int)-(fr:Int))+1)) (by omega),sI 289 (((E.length:Int)-(((fr:Int)+(td:Int)-(fr:Int))+1))+1) (by omega),.e 290 (.bool (((cN ps 0).length:Int)==(((E.length:Int)-(((fr:Int)+(td:Int)-(fr:Int))+1))+1))) (.bool true) (congrArg Value.bool hd281)] ?_
 refine sqp [.k 291 (.bool true),.k 6 (.bool true)] ?_
 refine aa (wp_ret ?_)
 refine bpr (.bool true) (ak Try.results9 rpt) ?_
 exact Ret.bool rfl KO.ext
end
section
open Go.ChangeShapes Go.WideShapes Go.ChangeAt Go.RowKit Go.Deep Go.Joins
theorem wj:ownKnob Try.prog.godebug=none:=by kernel_rfl
theorem FR:laidOutB Try.prog=true:=by kernel_rfl
section
variable{H:Type}{enc:TypeId×Value->H}{P:Program}
theorem nw(hl:laidOutB P=true){W W':World}{sp:Nat->Bool}:∀{ts:List TypeId}{vs:List Value}{ds:List (DataW H)}{ps:List MemPlace},(∀t∈ts,P.readableRec t=true/\t<P.types.size)->
  DataW.TrodAll enc P W 0 (fun _=>true) true ts vs ds ps->(∀p∈ps,W.sameAt W' p)->(∀p∈ps,sp p.block=true)->DataW.TrodAll enc P W' 0 sp true ts vs ds ps
 | [],[],[],_,_,h,_,_=>h
 |t:: _,_:: _,_:: _,_,hT,⟨p,q,h1,h2,e⟩,hsm,hs=>
  ⟨p,q,WideElems.Trod_stays hl (hT t (by simp)).1 (hT t (by simp)).2 h1 (fun x hx=>hsm x (by rw[e];exact List.mem_append_left _ hx)) (fun x hx=>hs x (by rw[e];exact List.mem_append_left _ hx)),
    nw hl (fun t ht=>hT t (by simp[ht])) h2 (fun x hx=>hsm x (by rw[e];exact List.mem_append_right _ hx)) (fun x hx=>hs x (by rw[e];exact List.mem_append_right _ hx)),e⟩
theorem Ds{f:Func}{s:ChangeSpec}{fresh handsOn again:Bool}{W W':World}{args:Array Value}{ds gs:List (DataW H)}{before:List MemPlace}{tb:TypeId}
  (hl:laidOutB P=true) (hT:∀t∈f.params.toList,P.readableRec t=true/\t<P.types.size) (hr:f.resultTypes=#[tb]) (hb:P.underlying tb=some .bool)
  (hW:DataW.Whole enc P f.params.toList s.vars false W args.toList ds gs before) (hvs:s.vars=[])
  (hres:(s.fn H (ds++gs)).results=[.lit (.bool true)]) (hargs:(s.fn H (ds++gs)).args=ds) (hvars:(s.fn H (ds++gs)).vars=[]) (hx:Ext W W'):
  s.post enc P f false fresh handsOn again W args (.bool true) W':=by
 have hlt:∀p∈before,p.block<W.heap.size:=fun p hp=>hW.lt p hp
 have hold:∀p∈before,(fun b=>decide (b<W.heap.size)) p.block=true:=fun p hp=>by simpa using hlt p hp
 have hW0:=hW
 obtain⟨p,q,hA,hV,rfl,hz,hn⟩:=hW
 rw[hvs] at hV
 obtain⟨rfl,rfl⟩:=trodVars_none hV
 rw[List.append_nil] at hlt hold hz
 have HA:∀sp:Nat->Bool,(∀x∈p,sp x.block=true)->DataW.TrodAll enc P W' 0 sp true f.params.toList args.toList (s.fn H (ds++[])).args p:=fun sp hs=>by
  rw[hargs]
  exact nw hl hT hA (fun x hx'=>hx.out.same (hlt x hx')) hs
 have HR:∀(b:Nat) (sp:Nat->Bool) (hd:Bool),DataW.TrodAll enc P W' b sp hd f.resultTypes.toList ((Value.bool true).resultList f.resultTypes.size) (s.fn H (ds++[])).results []:=fun b sp hd=>by
  rw[hres,hr]
  exact trodAll_cons_mk (shut_bool hb _) trodAll_mk0
 have HV:∀sp:Nat->Bool,DataW.TrodVars enc P W' sp s.vars (s.fn H (ds++[])).vars []:=fun sp=>by
  rw[hvs,hvars]
  rfl
 refine⟨ds,[],p++[],[],p,[],hW0,HR _ _ _,HA _ hold,HV _,World.keptBut_mono (fun x hx'=>⟨hx',?_⟩) (hx.out.frame (·∈p++[])),fun _=>?_⟩
 rw[List.append_nil] at hx'
 exact Or.inr (Or.inl hx')
 refine⟨?_,_,_,([]++p)++[],⟨[]++p,[],trodAll_append (HA _ (fun _ _=>rfl)) (HR _ _ _),HV _,rfl,?_,fun ha=>by cases ha⟩,?_⟩
 exact ok_one hr rfl (okWide_bool_mk hb _)
 intro b off hp
 have hin:MemPlace.cell b off∈p:=by simpa using hp
 rw[hx.out.frozen (hlt _ hin)]
 exact hz b off hin
 intro x hx' _
 simpa using hx'
end
end
section
open Go.ChangeShapes Go.WideShapes Go.ChangeAt Go.RowKit Go.Deep Go.Joins
inductive Sh where
 |int (k:IntKind)
 |bool
 |str
 |sl (e:Sh) (bs:Nat)
 |st (fs:List Sh)
mutual
def Sh.n:Sh->Nat
 | .st fs=>Sh.ns fs
 | .int _=>1
 | .bool=>1
 | .str=>1
 | .sl _ _=>1
def Sh.ns:List Sh->Nat
 | []=>0
 |f::fs=>f.n+Sh.ns fs
end
mutual
def lr(w:World):Sh->List Value->Prop
 | .int k,cs=>∃z,cs=[.int k z]/\(Lit.int k z).wf=true
 | .bool,cs=>∃b,cs=[.bool b]
 | .str,cs=>∃s:ByteArray,cs=[.string s]/\s.size<=140737488351232
 | .sl e bs,cs=>∃(A:Option Addr) (n c:Nat) (xs:List Value),cs=[.slice A n c]/\At w A xs/\xs.length=n*e.n/\n<=c/\c*bs<=140737488351232/\∀i,i<n->lr w e ((xs.drop (i*e.n)).take e.n)
 | .st fs,cs=>kL w fs cs
def kL(w:World):List Sh->List Value->Prop
 | [],cs=>cs=[]
 |f::fs,cs=>∃a b,cs=a++b/\lr w f a/\kL w fs b
end
mutual
def Sh.fits(P:Program):Sh->TypeId->Bool
 | .int k,t=>match P.underlying t with|some (.int k')=>decide (k'=k)|_=>false
 | .bool,t=>match P.underlying t with|some .bool=>true|_=>false
 | .str,t=>match P.underlying t with|some .string=>true|_=>false
 | .sl e bs,t=>match P.underlying t with|some (.slice u)=>e.fits P u&&decide (P.cellsOf u=e.n)&&decide (P.bytesOf u=bs)&&decide (0<e.n)|_=>false
 | .st fs,t=>match P.underlying t with
   |some (.struct gs)=>decide (P.cellsOf t=Sh.ns fs)&&Sh.fitsF P fs gs.toList 0
   |some (.array n u)=>decide (P.cellsOf t=Sh.ns fs)&&decide (fs.length=n)&&Sh.fitsA P fs u
   |_=>false
def Sh.fitsF(P:Program):List Sh->List Field->Nat->Bool
 | [],[],_=>true
 |f::fs,g::gs,off=>decide (g.offset=off)&&decide (P.cellsOf g.type=f.n)&&f.fits P g.type&&Sh.fitsF P fs gs (off+f.n)
 |_,_,_=>false
def Sh.fitsA(P:Program):List Sh->TypeId->Bool
 | [],_=>true
 |f::fs,u=>decide (P.cellsOf u=f.n)&&f.fits P u&&Sh.fitsA P fs u
end
theorem yx{α c:Type}{f:α->Option c}:∀{l:List α}{ys:List c},l.mapM f=some ys->ys.length=l.length/\∀(i:Nat) (a:α),l[i]? =some a->f a=ys[i]?
 | [],ys,h=>by simp at h;subst h;simp
 |a::l,ys,h=>by
  simp only[List.mapM_cons,Option.bind_eq_bind,Option.pure_def,Option.bind_eq_some_iff] at h
  obtain⟨b,hb,bs,hbs,he⟩:=h
  obtain rfl:b::bs=ys:=by simpa using he
  obtain⟨h1,h2⟩:=yx hbs
  refine⟨by simp[h1],fun i x hx=>?_⟩
  cases i with
  |zero=>simp at hx;subst hx;simpa using hb
  |succ i=>simpa using h2 i x (by simpa using hx)
section
variable{H:Type}{enc:TypeId×Value->H}{P:Program}
theorem nA{e:TypeId}:∀{ds:List (DataW H)}(i:Nat) (d:DataW H),ds[i]? =some d->∀x∈d.weights P e,x∈DataW.weightsAll P e ds
 | [],i,d,h,x,hx=>by simp at h
 |d0::ds,0,d,h,x,hx=>by
  simp at h;subst h
  simp only[DataW.weightsAll,List.mem_append];exact .inl hx
 |d0::ds,i+1,d,h,x,hx=>by
  simp only[DataW.weightsAll,List.mem_append]
  exact .inr (nA i d (by simpa using h) x hx)
theorem AP{w:World}{a:Addr}{m len:Nat}(hm:0<m)(h:∀i,i<len->∃csi,w.cells? 0 (a.add (i*m)) m=some csi):
  ∃xs:List Value,xs.length=len*m/\At w (some a) xs/\∀i,i<len->∀csi,w.cells? 0 (a.add (i*m)) m=some csi->(xs.drop (i*m)).take m=csi:=by
 have key:∀i,i<len->∀csi,w.cells? 0 (a.add (i*m)) m=some csi->csi.length=m/\∀r,r<m->w.cell? (a.add (i*m+r))=csi[r]? :=by
  intro i hi csi hc
  unfold World.cells? at hc
  rw[if_pos (Nat.zero_le _)] at hc
  obtain⟨h1,h2⟩:=yx hc
  refine⟨by simpa using h1,fun r hr=>?_⟩
  have:=h2 r r (by simp[hr])
  rw[kJ] at this
  exact this
 have each:∀j,j<len*m->∃u,w.cell? (a.add j)=some u:=by
  intro j hj
  have hi:j / m<len:=by rw[Nat.div_lt_iff_lt_mul hm];exact hj
  obtain⟨csi,hc⟩:=h _ hi
  obtain⟨h1,h2⟩:=key _ hi _ hc
  have hr:=Nat.mod_lt j hm
  have:=h2 _ hr
  rw[show j / m*m+j % m=j by rw[Nat.mul_comm];exact Nat.div_add_mod j m] at this
  rw[List.getElem?_eq_getElem (by omega)] at this
  exact⟨_,this⟩
 refine⟨(List.range (len*m)).map fun j=>(w.cell? (a.add j)).getD undef,by simp,fun j u hu=>?_,fun i hi csi hc=>?_⟩
 rw[List.getElem?_map] at hu
 rcases Nat.lt_or_ge j (len*m) with hj|hj
 obtain⟨v,hv⟩:=each j hj
 rw[List.getElem?_range hj] at hu
 simp only[Option.map_some,hv,Option.getD_some,Option.some.injEq] at hu
 subst hu
 have:=World.block_lt_of_cell? _ _ hv
 rw[gk] at this
 exact⟨a,rfl,this,hv⟩
 rw[List.getElem?_eq_none (by simpa using hj)] at hu;cases hu
 obtain⟨h1,h2⟩:=key i hi csi hc
 have hb:i*m+m<=len*m:=by
  have:(i+1)*m<=len*m:=Nat.mul_le_mul_right m hi
  rw[Nat.add_mul,Nat.one_mul] at this
  exact this
 apply List.ext_getElem?
 intro r
 rw[List.getElem?_take]
 by_cases hr:r<m
 rw[if_pos hr,List.getElem?_drop,List.getElem?_map,List.getElem?_range (by omega),Option.map_some,h2 r hr,List.getElem?_eq_getElem (by omega)]
 rfl
 rw[if_neg hr,List.getElem?_eq_none (by omega)]
mutual
theorem oW{w:World}:∀(s:Sh) (t:TypeId) (fuel:Nat) (cs:List Value) (x:DataW H×List MemPlace),s.fits P t=true->DataW.trod enc P w 0 (fun _=>true) true fuel t cs=some x->
  (∀n∈x.1.weights P t,n<=reachBytes)->lr w s cs
 | .int k,t,fuel,cs,x,hf,h,hw=>by
   simp only[Sh.fits] at hf
   split at hf
   rename_i k' hu
   obtain rfl:=of_decide_eq_true hf
   obtain⟨z,hc,_,hz⟩:=DataW.trod_int hu h
   exact⟨z,hc,hz⟩
   cases hf
 | .bool,t,fuel,cs,x,hf,h,hw=>by
   simp only[Sh.fits] at hf
   split at hf
   rename_i hu
   obtain⟨b,hc,_⟩:=DataW.trod_bool hu h
   exact⟨b,hc⟩
   cases hf
 | .str,t,fuel,cs,x,hf,h,hw=>by
   simp only[Sh.fits] at hf
   split at hf
   rename_i hu
   obtain⟨s,hc,rfl,_⟩:=DataW.trod_string hu h
   refine⟨s,hc,?_⟩
   have:=hw s.data.toList.length (by simp[DataW.weights])
   exact this
   cases hf
 | .sl e bs,t,fuel,cs,x,hf,h,hw=>by
   simp only[Sh.fits] at hf
   split at hf
   rename_i u hu
   simp only[Bool.and_eq_true,decide_eq_true_eq] at hf
   obtain⟨⟨⟨he,hm⟩,hb⟩,hp⟩:=hf
   rcases DataW.trod_slice hu h with ⟨rfl,rfl⟩|⟨a,len,cap,elems,rest,n,_,rfl,rfl,_,hl,_,hlen,hel,hsp,_⟩
   exact⟨none,0,0,[],rfl,At.nil _ _,by simp,by simp,by simp,fun i hi=>by omega⟩
   obtain⟨hrl,_⟩:=hsp rfl
   rw[hm] at hel
   have hsz:=hw ((elems.length+rest.length)*P.bytesOf u) (by simp[DataW.weights,hu])
   rw[hlen,hrl,hb] at hsz
   have hR:reachBytes=140737488351232:=rfl
   rw[hR] at hsz
   have hex:∀i,i<len->∃csi y,w.cells? 0 (a.add (i*e.n)) e.n=some csi/\elems[i]? =some y/\DataW.trod enc P w 0 (fun _=>true) true n u csi=some y:=by
    intro i hi
    have h1:=hel i hi
    rw[List.getElem?_eq_getElem (by omega),Option.bind_eq_some_iff] at h1
    obtain⟨csi,hc,hy⟩:=h1
    exact⟨csi,_,hc,List.getElem?_eq_getElem (by omega),hy⟩
   obtain⟨xs,hxl,hxa,hxe⟩:=AP (w:=w) (a:=a) (len:=len) hp (fun i hi=>let ⟨csi,_,hc,_⟩:=hex i hi;⟨csi,hc⟩)
   refine⟨some a,len,cap,xs,rfl,hxa,hxl,hl,?_,fun i hi=>?_⟩
   rw[show len+(cap-len)=cap by omega] at hsz
   exact hsz
   obtain⟨csi,y,hc,hy,ht⟩:=hex i hi
   rw[hxe i hi csi hc]
   refine oW e u n csi y he ht fun z hz=>hw z ?_
   simp only[DataW.weights,hu,List.mem_cons,List.mem_append]
   refine .inr (.inl ?_)
   exact nA i y.1 (by rw[List.getElem?_map,hy];rfl) z hz
   cases hf
 | .st fs,t,fuel,cs,x,hf,h,hw=>by
   simp only[Sh.fits] at hf
   split at hf
   rename_i gs hu
   simp only[Bool.and_eq_true,decide_eq_true_eq] at hf
   obtain⟨hc,hF⟩:=hf
   obtain⟨xs,n,_,rfl,hcl,hxl,hat⟩:=DataW.trod_struct hu h
   have:=wq fs gs.toList 0 cs xs n hF (fun i g hg=>hat i g (by rw[<-hg];exact(Array.getElem?_toList ..).symm)) (by simpa using hxl) (by omega) (fun z hz=>hw z (by simp only[DataW.weights,hu];exact hz))
   rw[List.drop_zero,List.take_of_length_le (by omega)] at this
   exact this
   rename_i n u hu
   simp only[Bool.and_eq_true,decide_eq_true_eq] at hf
   obtain⟨⟨hc,hn⟩,hF⟩:=hf
   obtain⟨xs,m,_,rfl,hcl,hxl,hat⟩:=DataW.trod_array hu h
   have:=wm fs u 0 cs xs m hF (fun i hi=>by rw[Nat.zero_add];exact hat i (by omega)) (by omega) (by rw[Nat.zero_mul,Nat.zero_add];omega) (fun z hz=>hw z (by simp only[DataW.weights,hu];exact hz))
   rw[Nat.zero_mul,List.drop_zero,List.take_of_length_le (by omega)] at this
   exact this
   cases hf
theorem wq{w:World}:∀(fs:List Sh) (gs:List Field) (off:Nat) (cs:List Value) (xs:List (DataW H×List MemPlace)) (m:Nat),Sh.fitsF P fs gs off=true->
  (∀(i:Nat) (g:Field),gs[i]? =some g->DataW.trod enc P w 0 (fun _=>true) true m g.type ((cs.drop g.offset).take (P.cellsOf g.type))=xs[i]?)->xs.length=gs.length->off+Sh.ns fs<=cs.length->
  (∀n∈DataW.weightsEach P (gs.map (·.type)) (xs.map (·.1)),n<=reachBytes)->kL w fs ((cs.drop off).take (Sh.ns fs))
 | [],[],off,cs,xs,m,hf,h,hx,hl,hw=>by simp[kL,Sh.ns]
 |f::fs,g::gs,off,cs,xs,m,hf,h,hx,hl,hw=>by
  simp only[Sh.fitsF,Bool.and_eq_true,decide_eq_true_eq] at hf
  obtain⟨⟨⟨ho,hc⟩,hff⟩,hF⟩:=hf
  simp only[Sh.ns] at hl
  match xs,hx with
  |y::ys,hx=>
   have h0:=h 0 g rfl
   simp only[List.getElem?_cons_zero] at h0
   rw[ho,hc] at h0
   refine⟨(cs.drop off).take f.n,(cs.drop (off+f.n)).take (Sh.ns fs),?_,oW f g.type m _ y hff h0 (fun z hz=>hw z ?_),wq fs gs (off+f.n) cs ys m hF (fun i g' hg=>?_) (by simpa using hx) (by omega) (fun z hz=>hw z ?_)⟩
   rw[Sh.ns,<-List.drop_drop,List.take_add]
   simp only[List.map_cons,DataW.weightsEach,List.mem_append];exact .inl hz
   simpa using h (i+1) g' (by simpa using hg)
   simp only[List.map_cons,DataW.weightsEach,List.mem_append];exact .inr hz
 | [],_:: _,off,cs,xs,m,hf,h,hx,hl,hw=>by simp[Sh.fitsF] at hf
 |_:: _,[],off,cs,xs,m,hf,h,hx,hl,hw=>by simp[Sh.fitsF] at hf
theorem wm{w:World}:∀(fs:List Sh) (u:TypeId) (k:Nat) (cs:List Value) (xs:List (DataW H×List MemPlace)) (m:Nat),Sh.fitsA P fs u=true->
  (∀i,i<fs.length->DataW.trod enc P w 0 (fun _=>true) true m u ((cs.drop ((k+i)*P.cellsOf u)).take (P.cellsOf u))=xs[i]?)->xs.length=fs.length->k*P.cellsOf u+Sh.ns fs<=cs.length->
  (∀n∈DataW.weightsAll P u (xs.map (·.1)),n<=reachBytes)->kL w fs ((cs.drop (k*P.cellsOf u)).take (Sh.ns fs))
 | [],u,k,cs,xs,m,hf,h,hx,hl,hw=>by simp[kL,Sh.ns]
 |f::fs,u,k,cs,xs,m,hf,h,hx,hl,hw=>by
  simp only[Sh.fitsA,Bool.and_eq_true,decide_eq_true_eq] at hf
  obtain⟨⟨hc,hff⟩,hF⟩:=hf
  simp only[Sh.ns] at hl
  match xs,hx with
  |y::ys,hx=>
   have h0:=h 0 (by simp)
   simp only[List.getElem?_cons_zero,Nat.add_zero] at h0
   have hk:(k+1)*P.cellsOf u=k*P.cellsOf u+f.n:=by rw[Nat.add_mul,Nat.one_mul,hc]
   refine⟨(cs.drop (k*P.cellsOf u)).take f.n,(cs.drop ((k+1)*P.cellsOf u)).take (Sh.ns fs),?_,oW f u m _ y hff (by rw[<-hc];exact h0) (fun z hz=>hw z ?_),wm fs u (k+1) cs ys m hF (fun i hi=>?_) (by simpa using hx) (by rw[hk];omega) (fun z hz=>hw z ?_)⟩
   rw[Sh.ns,hk,<-List.drop_drop,List.take_add]
   simp only[List.map_cons,DataW.weightsAll,List.mem_append];exact .inl hz
   rw[show k+1+i=k+(i+1) by omega]
   simpa using h (i+1) (by simp;omega)
   simp only[List.map_cons,DataW.weightsAll,List.mem_append];exact .inr hz
end
end
theorem qf{H:Type}{enc:TypeId×Value->H}{P:Program}{w:World}{ts:List TypeId}{ds:List (DataW H)}(hsz:(DataW.weightsEach P ts ds).all (·<=reachBytes)=true)(j:Nat){t:TypeId}{v:Value}{d:DataW H}{p:List MemPlace}(s:Sh)
  (hf:s.fits P t=true) (ht:ts[j]? =some t) (hd:ds[j]? =some d) (h:DataW.Trod enc P w 0 (fun _=>true) true t v d p):lr w s v.cells.toList:=by
 obtain⟨fuel,h⟩:=h
 exact oW s t fuel _ (d,p) hf h fun n hn=>of_decide_eq_true (List.all_eq_true.1 hsz n (DataW.weights_mem_each ht hd n hn))
theorem Ba{T:Type}(f:T->List Value)(p:T->Prop)(m:Nat):∀(n:Nat) (xs:List Value),xs.length=n*m->(∀i,i<n->∃t,(xs.drop (i*m)).take m=f t/\p t)->
  ∃ts:List T,ts.length=n/\xs=ts.flatMap f/\∀t∈ts,p t
 |0,xs,hl,h=>⟨[],rfl,by simpa using hl,by simp⟩
 |n+1,xs,hl,h=>by
  obtain⟨t,ht,hp⟩:=h 0 (by omega)
  rw[Nat.zero_mul,List.drop_zero] at ht
  have hle:(n+1)*m=m+n*m:=by rw[Nat.add_mul,Nat.one_mul,Nat.add_comm]
  obtain⟨ts,h1,h2,h3⟩:=Ba f p m n (xs.drop m) (by rw[List.length_drop];omega) (fun i hi=>by
   obtain⟨t',ht',hp'⟩:=h (i+1) (by omega)
   refine⟨t',?_,hp'⟩
   rw[List.drop_drop,show m+i*m=(i+1)*m by rw[Nat.add_mul,Nat.one_mul,Nat.add_comm]]
   exact ht')
  refine⟨t::ts,by simp[h1],?_,by simpa using ⟨hp,h3⟩⟩
  rw[List.flatMap_cons,<-h2,<-ht,List.take_append_drop]
theorem pG{T:Type}(f:T->Value):∀ts:List T,(ts.flatMap fun t=>[f t])=ts.map f
 | []=>rfl
 |t::ts=>by simp[pG f ts]
theorem tZ{w:World}{k:IntKind}{bs:Nat}{cs:List Value}(h:lr w (.sl (.int k) bs) cs):
  ∃(A:Option Addr) (c:Nat) (zs:List Int),cs=[.slice A zs.length c]/\At w A (zs.map (Value.int k))/\zs.length<=c/\c*bs<=140737488351232/\∀z∈zs,(Lit.int k z).wf=true:=by
 simp only[lr,Sh.n,Nat.mul_one] at h
 obtain⟨A,n,c,xs,rfl,hA,hl,hc,hb,he⟩:=h
 obtain⟨zs,h1,h2,h3⟩:=Ba (fun z=>[Value.int k z]) (fun z=>(Lit.int k z).wf=true) 1 n xs (by omega) (fun i hi=>by rw[Nat.mul_one];exact he i hi)
 rw[pG] at h2
 subst h1 h2
 exact⟨A,c,zs,rfl,hA,hc,hb,h3⟩
def HD(w:World)(s:Sh)(v:Value):Prop:=match s with
 | .st fs=>∃cs:List Value,v= .agg ⟨cs⟩/\kL w fs cs
 |s=>lr w s [v]
theorem p7{P:Program}{W w:World}{r:Reach}{b0:Nat}{t:TypeId}{v:Value}(s:Sh)(hf:s.fits P t=true)(hv:Value.okWide P W r b0 t v)(h:lr w s v.cells.toList):HD w s v:=by
 cases s with
 |int k=>
  simp only[Sh.fits] at hf
  split at hf
  rename_i k' hu
  obtain⟨n,rfl⟩:=okWide_int hu hv
  exact h
  cases hf
 |bool=>
  simp only[Sh.fits] at hf
  split at hf
  rename_i hu
  obtain⟨n,rfl⟩:=okWide_bool hu hv
  exact h
  cases hf
 |str=>
  simp only[Sh.fits] at hf
  split at hf
  rename_i hu
  obtain⟨n,rfl⟩:=okWide_string hu hv
  exact h
  cases hf
 |sl e bs=>
  simp only[Sh.fits] at hf
  split at hf
  rename_i u hu
  obtain⟨a,l,c,rfl⟩:=okWide_slice hu hv
  exact h
  cases hf
 |st fs=>
  simp only[Sh.fits] at hf
  split at hf
  rename_i gs hu
  obtain⟨cs,rfl,_⟩:=okWide_struct hu hv
  exact⟨cs.toList,rfl,h⟩
  rename_i n u hu
  simp only[Value.okWide,hu] at hv
  obtain⟨cs,rfl,_⟩:=hv
  exact⟨cs.toList,rfl,h⟩
  cases hf
end
end Go.Proofs.Ytjlcoglmjldjbaa
namespace Go.Proofs.Ytjlcoglmjldjbaa.treeUnlinks
section
open Go.ChangeShapes Go.WideShapes Go.ChangeAt Go.RowKit Go.Deep Go.Joins
theorem lifted(os:Os)(started:os.Started)(H:Type)(enc:TypeId×Value->H):
  ReturnsInHanded {} Try.checked os 9 .any (Rows.treeUnlinksSpec.pre6 enc Try.prog Try.f9 Rows.treeUnlinksRow.domain false) (Rows.treeUnlinksSpec.post enc Try.prog Try.f9 false true false false):=by
 refine returnsInHanded_of_change_sized (C:=Try.checked) wj started (by kernel_rfl) Try.func9
  (ChangeSpec.witness6 (enc:=enc) (C:=Try.checked) false ⟨#[],#[.slice none 0 0,.agg #[.int .i64 0,.int .i64 0,.int .i64 0],.slice none 0 0],[]⟩ 8 (by kernel_rfl) (by kernel_rfl) (by kernel_rfl) (by kernel_rfl)) ?_
 intro W base args ds gs before hval0 hW hcnd hsz0 _
 have hval:∀(j:Nat) t v,Try.f9.params[j]? =some t->args[j]? =some v->Value.okWide Try.prog W .any base t v:=hval0
 have hsz:(DataW.weightsEach Try.prog (Try.f9.params.toList++Rows.treeUnlinksSpec.plain.varTypes Try.prog) (ds++gs)).all (·<=reachBytes)=true:=hsz0
 clear hsz0 hval0
 have hW':=hW
 obtain⟨p,q,hA0,hV,rfl,hfz,hnd⟩:=hW
 have hA:DataW.TrodAll enc Try.prog W 0 (fun _=>true) true Try.f9.params.toList args.toList ds p:=hA0
 clear hA0
 rw[Try.params9] at hA hval hsz
 obtain⟨v0,vs0,d0,ds0,p0,q0,hargs,rfl,rfl,h0,r0⟩:=trodAll_cons hA
 obtain⟨v1,vs1,d1,ds1,p1,q1,rfl,rfl,rfl,h1,r1⟩:=trodAll_cons r0
 obtain⟨v2,vs2,d2,ds2,p2,q2,rfl,rfl,rfl,h2,r2⟩:=trodAll_cons r1
 obtain⟨rfl,rfl,rfl⟩:=trodAll_nil r2
 obtain rfl:args=#[v0,v1,v2]:=by cases args;simp_all
 obtain⟨rfl,rfl⟩:=trodVars_none hV
 have s0:=p7 (.sl (.int .i64) 8) (by kernel_rfl) (hval 0 _ _ rfl rfl) (qf hsz 0 (.sl (.int .i64) 8) (by kernel_rfl) rfl rfl h0)
 have s1:=p7 (.st [.int .i64,.int .i64,.int .i64]) (by kernel_rfl) (hval 1 _ _ rfl rfl) (qf hsz 1 (.st [.int .i64,.int .i64,.int .i64]) (by kernel_rfl) rfl rfl h1)
 have s2:=p7 (.sl (.int .i64) 8) (by kernel_rfl) (hval 2 _ _ rfl rfl) (qf hsz 2 (.sl (.int .i64) 8) (by kernel_rfl) rfl rfl h2)
 clear hsz
 obtain⟨A,c,l,hE,atA,lA,bA,wA⟩:=tZ s0
 cases hE
 obtain⟨cs_,hE,s1⟩:=s1
 cases hE
 obtain⟨a_,b_,hE,NK,s1r⟩:=s1
 cases hE
 obtain⟨a_,b_,hE,NL,s1r⟩:=s1r
 cases hE
 obtain⟨a_,b_,hE,NM,s1r⟩:=s1r
 cases hE
 cases s1r
 obtain⟨q0,hE,wq0⟩:=NK
 cases hE
 obtain⟨q1,hE,wq1⟩:=NL
 cases hE
 obtain⟨q2,hE,wq2⟩:=NM
 cases hE
 obtain⟨Kp,kc,ks,hE,atKp,lKp,bKp,wKp⟩:=tZ s2
 cases hE
 refine(ro A Kp _ c _ kc l ks q0 q1 q2 W atA rfl (by omega) atKp rfl).mono fun e W' ⟨he,hx⟩=>?_
 subst he
 exact⟨_,rfl,Ds FR (by rw[Try.params9];exact(by decide+kernel)) rfl Try.underlying4 hW' rfl rfl rfl rfl hx⟩
theorem over:Rows.treeUnlinksRow.holds Try.pinned (OpenSpec.ofChange Rows.treeUnlinksSpec):=
 OpenClaim.holds_of_wide 9 Try.f9 rfl rfl rfl rfl rfl rfl rfl ⟨rfl,rfl,rfl,rfl,rfl⟩ rfl rfl rfl rfl rfl (by kernel_rfl) Try.func9 (by kernel_rfl)
  (of_decide_eq_true (by kernel_rfl)) (by unfold Func.isWrapper;first|(rw[if_pos (by decide+kernel)];kernel_rfl)|(rw[if_neg (by decide+kernel)];exact⟨rfl,rfl⟩))
  (fun os started H enc _=>lifted os started H enc)
theorem proved:Rows.TreeUnlinksSaid:=
 over
end
end Go.Proofs.Ytjlcoglmjldjbaa.treeUnlinks
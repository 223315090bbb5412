import Derived.Test.YtjlcoglmjldjbaaGreatZ6
set_option linter.unusedVariables false
set_option linter.unusedSimpArgs false
set_option maxRecDepth 100000
set_option maxHeartbeats 16000000
namespace Go.Proofs.YtjlcoglmjldjbaaGreat
section
open Go.RowKit
theorem ye{L:List (Int×NoD)}{pg rt:Int}{i j:Nat}(hi:i<L.length)(h0:∀k<i,gM (L.getD k (0,cg)).2 pg rt=none)(hd:(L.getD i (0,cg)).2.dead=false)(hj:j+1<(L.getD i (0,cg)).2.es.length)(h1:∀k<j,gN (L.getD i (0,cg)).2.es pg rt k=false)(h2:gN (L.getD i (0,cg)).2.es pg rt j=true):iN L pg rt=some (i,j):=by
 refine AJ (i:=i) hi (fun k hk=>?_) ?_
 rw[h0 k hk];rfl
 rw[gM,if_neg (by rw[hd];decide),Bq (j:=j) (by omega) h1 h2];rfl
theorem Gf{L:List (Int×NoD)}{pg rt:Int}(h0:∀k<L.length,gM (L.getD k (0,cg)).2 pg rt=none):iN L pg rt=none:=by
 refine yi fun k hk=>?_
 rw[h0 k hk];rfl
theorem BL{ab L:List (Int×NoD)}{root:Int}{i k j:Nat}{n:Int×NoD}(h:∀y∈L.take i,ev ab root y=none)(hn:L[i]? =some n)(hx:ev ab root n=some (k,j)):fu ab root none L=(unE (ahd none (L.take i)) n (ab.getD k (0,cg)) j,n.1,n.2.right):=by
 obtain⟨hi,rfl⟩:=List.getElem?_eq_some_iff.1 hn
 have e:fu ab root none L=fu ab root none (L.take i++L[i]::L.drop (i+1)):=by rw[List.getElem_cons_drop,List.take_append_drop]
 rw[e,kN h,yg hx]
theorem F0{ab L:List (Int×NoD)}{root:Int}{i:Nat}(h:∀y∈L.take i,ev ab root y=none)(hi:L.length<=i):fu ab root none L=([],-1,-1):=by
 rw[List.take_of_length_le hi] at h
 have e:fu ab root none L=fu ab root none (L++[]):=by rw[List.append_nil]
 rw[e,kN h,fu]
theorem ut{ab L:List (Int×NoD)}{root:Int}{i:Nat}{n:Int×NoD}(h:∀y∈L.take i,ev ab root y=none)(hn:L[i]? =some n)(hx:ev ab root n=none):∀y∈L.take (i+1),ev ab root y=none:=fun y hy=>by
 rw[List.take_add_one,hn] at hy
 rcases List.mem_append.1 hy with hy|hy
 exact h y hy
 simp at hy;subst hy;exact hx
theorem DW{L:List (Int×NoD)}{i:Nat}{a:Int×NoD}(h0:0<i)(h:L[((i:Int)-1).toNat]? =some a):ahd none (L.take i)=some a:=by
 obtain⟨j,rfl⟩:∃j,i=j+1:=⟨i-1,by omega⟩
 rw[show (((j+1:Nat):Int)-1).toNat=j by omega] at h
 rw[List.take_add_one,h]
 simp[ahd]
theorem FG{L:List (Int×NoD)}{i:Nat}{a:Int×NoD}(h:L[i]? =some a):L.getD i (0,cg)=a:=by rw[List.getD_eq_getElem?_getD,h];rfl
def rJ(r:List EdT×Int×Int)(w:World)(e:Ending)(w':World):Prop:=∃A c,e= .returned (.agg #[.slice A r.1.length c,.int .i64 r.2.1,.int .i64 r.2.2])/\St w [] [eO 67 3 (.slice A r.1.length c) r.1.length (r.1.flatMap edC)] w'
theorem vV{w W:World}{A:Option Addr}{c n:Nat}{O:List EdT}{lf rt:Int}{r:List EdT×Int×Int}(h:r=(O,lf,rt))(hn:n=O.length)(hs:St w [] [eO 67 3 (.slice A n c) n (O.flatMap edC)] W):rJ r w (.returned (.agg #[.slice A n c,.int .i64 lf,.int .i64 rt])) W:=by subst h hn;exact⟨A,c,rfl,hs⟩
theorem yb(bk:Nat)(root:Int)(ps:List PgS)(w:World)(hB:fZ w bk ps)(hok:OkS ps):
  Calls Tryz.prog 42 #[.pointer (some ⟨bk,0,none⟩),.int .i64 root] w (rJ (oI ps root) w):=by
 go_enter Tryz.func42,Tryz.ntmps42
 have ar:=St.start w
 refine wp_seq (sqr (bF #[.slice none 0 0,vi 0,vi 0] ar fun bx W1 aE=>?_))
 refine aa (wp_seq (sqr (sqp [.m 14 0,.m 15 1] ?_)))
 refine ff (fun dD fY=> .slice dD ((ao ps root 0).length) fY) (fun dD fY=>eO 3 1 (.slice dD ((ao ps root 0).length) fY) ((ao ps root 0).length) ((ao ps root 0).map (Value.int .i64))) aE (fun cx=>⟨_,(jj bk root 0 ps _ (hB.ext cx.upd.to_ext) hok).mono (by rintro e W1 ⟨A4,c4,rfl,aM⟩;exact⟨_,_,rfl,aM⟩),(dH (cx.ou 14) (cx.ou 15) (cx.co _))⟩) fun dD fY W4 bR=>?_
 refine sqp [.m 5 16] ?_
 refine aa (wp_seq (sqr (sqp [.m 17 0,.m 18 1] ?_)))
 refine ff (fun gL jT=> .slice gL ((ao ps root 1).length) jT) (fun gL jT=>eO 3 1 (.slice gL ((ao ps root 1).length) jT) ((ao ps root 1).length) ((ao ps root 1).map (Value.int .i64))) bR (fun cx=>⟨_,(jj bk root 1 ps _ (hB.ext cx.upd.to_ext) hok).mono (by rintro e W1 ⟨A4,c4,rfl,aM⟩;exact⟨_,_,rfl,aM⟩),(dH (cx.ou 17) (cx.ou 18) (cx.co _))⟩) fun gL jT W8 bj=>?_
 refine sqp [.m 6 19] ?_
 refine aa (wp_seq (wp_seq (sqr (sqp [.k 7 (vi 0)] ?_))))
 refine aa (wp_block ?_)
 have hl0_:(ao ps root 0).length=(bo ps root 0).length:=List.length_map _
 have hl1_:(ao ps root 1).length=(bo ps root 1).length:=List.length_map _
 have hl2_:=jz ps root 0
 have hl3_:=jz ps root 1
 refine aL (fun t_ mz az W=>∃i:Nat,i<=(ao ps root 0).length/\(∀y∈(bo ps root 0).take i,ev (bo ps root 1) root y=none)/\mz=(ao ps root 0).length-i/\az=⟨(ovr (jv az) [(7,7,0,[vi ((i:Int))]),(0,8,6,[]),(6,20,154,[])] t_).toArray,[]⟩/\St w [] [eB bx 108 #[.slice none 0 0,vi 0,vi 0],eO 3 1 (.slice dD ((ao ps root 0).length) fY) ((ao ps root 0).length) ((ao ps root 0).map (Value.int .i64)),eO 3 1 (.slice gL ((ao ps root 1).length) jT) ((ao ps root 1).length) ((ao ps root 1).map (Value.int .i64))] W) ((ao ps root 0).length-0) ?_ ?_
 exact⟨0,Nat.zero_le _,(fun y hy=>absurd hy (by simp)),rfl,(by kernel_rfl),bj.pk [0,1,2]⟩
 rintro IF a11 oK ⟨i,hi,hall,rfl,hj_,bY⟩
 refine ovz hj_ fun Em=>?_
 refine wp_seq (wp_seq (sqr (sqp [.m 20 7,.m 21 5,.k 22 (vi (((ao ps root 0).length:Int))),.k 23 (.bool (decide ((i:Int)<((ao ps root 0).length:Int))))] ?_)))
 refine aa (wds (fun nB LB=>?_) fun nB LB=>?_)
 ·refine wp_skip (aa (wp_seq (wp_block (wp_seq ?_))))
  obtain⟨nd,hnd,hndl,hni⟩:=rT (ps:=ps) (root:=root) (lv:=0) (i:=i) (by omega)
  have hnd0:=cO hok hnd
  have hnd1:=hnd0.len
  have hnd2:=hnd0.rt
  have hnd3:=hnd0.hi
  have hnd4:=hnd0.lv
  have hpg_:((ao ps root 0).getD i 0,nd).1=(ao ps root 0).getD i 0:=rfl
  refine ak [0,0,0,6,14,31,0,127] [[],[],[],[1],[1],[],[],[6]] [[],[],[],[],[],[3,4,5],[6],[7]] [[],[],[],[],[],[],[],[6]] [.k 26 (vp bk),.k 27 (.slice dD ((ao ps root 0).length) fY),.k 28 (vi ((i:Int))),.c 29 (.pointer (some ((ad dD).add i))),.c 30 (vi (((ao ps root 0)).getD i 0)),.a 31,.a 8,.n] (fun ix d b X=>match ix with|0|1|2|3|4=>True|5=>d 31= .agg #[.bool true,.bool nd.dead,vi nd.lv,vi nd.right,.string nd.high,.slice (sA (tg (b 31) 5)) nd.es.length (sC (tg (b 31) 5)),.slice (sA (tg (b 31) 6)) nd.es.length (sC (tg (b 31) 6)),.slice (sA (tg (b 31) 7)) nd.es.length (sC (tg (b 31) 7))]/\X 3=eO 9 1 (.slice (sA (tg (b 31) 5)) nd.es.length (sC (tg (b 31) 5))) nd.es.length (nd.es.map stv)/\X 4=eO 3 1 (.slice (sA (tg (b 31) 6)) nd.es.length (sC (tg (b 31) 6))) nd.es.length (nd.es.map slv)/\X 5=eO 3 1 (.slice (sA (tg (b 31) 7)) nd.es.length (sC (tg (b 31) 7))) nd.es.length (nd.es.map kdv)|6=>d 8=vp (pb (b 8))/\X 6=eB (pb (b 8)) 95 #[.bool false,.bool false,vi 0,vi 0,.string ByteArray.empty,.slice none 0 0,.slice none 0 0,.slice none 0 0]|7=>X 7=eB (pb (b 8)) 95 #[.bool true,.bool nd.dead,vi nd.lv,vi nd.right,.string nd.high,.slice (sA (tg (b 31) 5)) nd.es.length (sC (tg (b 31) 5)),.slice (sA (tg (b 31) 6)) nd.es.length (sC (tg (b 31) 6)),.slice (sA (tg (b 31) 7)) nd.es.length (sC (tg (b 31) 7))]|_=>True) [0,1,2,3,4,5,7] [3,4,5,6,7] [(8,6,1,9),(17,0,6,23)] bY ?_ ?_ ?_
  exact fun ix _ _ _ _ _ _ hs hb hx h=>match ix,h with
  |5,h=>by dsimp only;rw[<-hs 31 rfl,<-hb 31 rfl,<-hx 3 rfl,<-hx 4 rfl,<-hx 5 rfl];exact h
  |6,h=>by dsimp only;rw[<-hs 8 rfl,<-hb 8 rfl,<-hx 6 rfl];exact h
  |7,h=>by dsimp only;rw[<-hb 8 rfl,<-hb 31 rfl,<-hx 7 rfl];exact h
  |0,_|1,_|2,_|3,_|4,_|_+8,_=>trivial
  refine⟨?_,?_,?_,?_,?_,trivial⟩
  exact xs4 rfl id fun cx=>ay (e:=3) (m:=i) rfl (by kernel_rfl) (by kernel_rfl) (cx.an 1) (cx.an 2) (by omega) (by omega) (At.of_own (cx.ri 1 rfl)) (by rw[List.length_map]<;>omega)
  exact xs4 rfl id fun cx=>ae rfl (by kernel_rfl) (cx.an 3) (At.cellAd (At.of_own (cx.ri 1 rfl)) (bX (by omega)))
  refine svA fun f b W X cx=>?_
  refine aC.call (aB (args:=#[vp bk,vi (((ao ps root 0)).getD i 0)]) rfl cx.sees rfl (by kernel_rfl) (aI (cx.an 0) (cx.an 4))) ?_
  refine(fF hnd (dF bk ps (((ao ps root 0)).getD i 0) _ (hB.ext cx.upd.to_ext) hok)).mono ?_
  rintro e W1 ⟨EA4,ec4,SA4,sc4,KA4,kc4,rfl,aM⟩
  refine⟨_,rfl,cl [eO 9 1 (.slice EA4 nd.es.length ec4) nd.es.length (nd.es.map stv),eO 3 1 (.slice SA4 nd.es.length sc4) nd.es.length (nd.es.map slv),eO 3 1 (.slice KA4 nd.es.length kc4) nd.es.length (nd.es.map kdv)] rfl rfl aM (fun d g X' hs hb hv hN=>?_)⟩
  have aW:=(hv 31 rfl).1;have aG:=(hv 31 rfl).2
  exact⟨aW.trans (by rw[aG];rfl),(by rw[aG];exact(List.cons.inj hN).1),(by rw[aG];exact(List.cons.inj (List.cons.inj hN).2).1),(by rw[aG];exact(List.cons.inj (List.cons.inj (List.cons.inj hN).2).2).1)⟩
  refine svA fun f b W X cx=>?_
  exact aX (cs:=#[.bool false,.bool false,vi 0,vi 0,.string ByteArray.empty,.slice none 0 0,.slice none 0 0,.slice none 0 0]) rfl (by kernel_rfl) rfl rfl (fun _ _ _ _ _=> .intro)
  refine svA fun f b W X cx=>?_
  exact aw (n:=8) rfl (dTn (cx.an 6)).1 (dTn (cx.an 5)).1 (by kernel_rfl) (by kernel_rfl) (by kernel_rfl) cx (dTn (cx.an 6)).2 rfl (nle rfl) (by kernel_rfl) rfl rfl rfl (fun d g X' hs hb hx=>by rw[hb 8,hb 31];exact hx)
  intro d b X su hD b6 fr ag
  simp only[exq 3 ((dTn (hD 5 lq)).2.1),exq 4 ((dTn (hD 5 lq)).2.2.1),exq 5 ((dTn (hD 5 lq)).2.2.2),exq 7 ((dTn (hD 7 lq)))] at b6
  simp only[ed 31 ((dTn (hD 5 lq)).1),ed 8 ((dTn (hD 6 lq)).1)] at ag
  generalize sA (tg (b 31) 5)=EA31_17,sC (tg (b 31) 5)=cEA31_17,sA (tg (b 31) 6)=SA31_17,sC (tg (b 31) 6)=cSA31_17,sA (tg (b 31) 7)=KA31_17,sC (tg (b 31) 7)=cKA31_17,pb (b 8)=jU at b6 ag
  clear hD;subst ag;clear d b X
  refine aa (wp_seq (wp_seq (sqr (sqp [.k 32 (.pointer (some ⟨jU,5,none⟩))] ?_))))
  refine am 6 b6 ?_
  refine sqp [.k 34 (vi ((nd.es.length:Int))),.k 35 (.bool (decide (0<(nd.es.length:Int)))),.m 36 35] ?_
  refine cv 36 [37,38,39,40,41,42] ?_ rfl (fun hq=>?_) ?_
  rotate_left
  have hq_:=of_decide_eq_false hq
  refine sqp [.m 37 5,.m 38 7] ?_
  refine sql (.pointer (some ((ad dD).add i))) b6 (fun cx=>ay (e:=3) (m:=i) rfl (by kernel_rfl) (by kernel_rfl) (cx.ou 37) (cx.ou 38) (by omega) (by omega) (At.of_own (cx.ri 1 rfl)) (by rw[List.length_map]<;>omega)) ?_
  refine sql (vi (((ao ps root 0)).getD i 0)) b6 (fun cx=>ae rfl (by kernel_rfl) (cx.ou 39) (At.cellAd (At.of_own (cx.ri 1 rfl)) (bX (by omega)))) ?_
  refine sqp [.m 41 1,.k 42 (.bool ((((ao ps root 0)).getD i 0)==root))] ?_
  exact sqe
  refine bQ ?_
  refine sqp [sPo 43 (decide (0<(nd.es.length:Int))) ((((ao ps root 0)).getD i 0)==root),.m 44 43] ?_
  refine cv 44 [45,46] ?_ rfl (fun hq=>?_) ?_
  rotate_left
  refine sqp [.k 45 (.pointer (some ⟨jU,1,none⟩))] ?_
  refine am 6 b6 ?_
  exact sqe
  refine bQ ?_
  refine sqp [sPo 47 ((decide (0<(nd.es.length:Int)))||((((ao ps root 0)).getD i 0)==root)) nd.dead] ?_
  refine aa (wbs (fun jF=>?_) fun jF=>?_)
  have jd:=jF
  simp only[zB] at jd
  refine wp_exit (aj (aO (aa (sqr (sqp [.m 24 7,sI 25 ((i:Int)+1) (by omega),.m 7 25] ?_)))))
  refine aa ?_
  refine⟨(ao ps root 0).length-((i+1)),by omega,?_⟩
  exact⟨(i+1),by omega,ut hall hni (vl jF),rfl,(by kernel_rfl),b6.pk [0,1,2]⟩
  have jd:=jF
  simp only[zB] at jd
  obtain⟨⟨xH,CI⟩,Py⟩:=jd
  refine wp_skip (aa (wp_seq (sqr (sqp [.k 9 (vi 0)] ?_))))
  refine aa (wp_block ?_)
  refine aL (fun t_ mz az W=>∃k:Nat,k<=(ao ps root 1).length/\(∀q<k,gM ((bo ps root 1).getD q (0,cg)).2 ((ao ps root 0).getD i 0) nd.right=none)/\mz=(ao ps root 1).length-k/\az=⟨(ovr (jv az) [(9,9,0,[vi ((k:Int))]),(0,10,4,[]),(34,48,126,[])] t_).toArray,[]⟩/\St w [] [eB bx 108 #[.slice none 0 0,vi 0,vi 0],eO 3 1 (.slice dD ((ao ps root 0).length) fY) ((ao ps root 0).length) ((ao ps root 0).map (Value.int .i64)),eO 3 1 (.slice gL ((ao ps root 1).length) jT) ((ao ps root 1).length) ((ao ps root 1).map (Value.int .i64)),eO 9 1 (.slice EA31_17 nd.es.length cEA31_17) nd.es.length (nd.es.map stv),eO 3 1 (.slice SA31_17 nd.es.length cSA31_17) nd.es.length (nd.es.map slv),eO 3 1 (.slice KA31_17 nd.es.length cKA31_17) nd.es.length (nd.es.map kdv),eB jU 95 #[.bool true,.bool nd.dead,vi nd.lv,vi nd.right,.string nd.high,.slice EA31_17 nd.es.length cEA31_17,.slice SA31_17 nd.es.length cSA31_17,.slice KA31_17 nd.es.length cKA31_17]] W) ((ao ps root 1).length-0) ?_ ?_
  exact⟨0,Nat.zero_le _,(fun k hk=>absurd hk (Nat.not_lt_zero k)),rfl,(by kernel_rfl),b6.pk [0,1,2,3,4,5,6]⟩
  rintro RB a39 qk ⟨k,hk,hno,rfl,hj_,c7⟩
  refine ovz hj_ fun Q3=>?_
  refine wp_seq (wp_seq (sqr (sqp [.m 48 9,.m 49 6,.k 50 (vi (((ao ps root 1).length:Int))),.k 51 (.bool (decide ((k:Int)<((ao ps root 1).length:Int))))] ?_)))
  refine aa (wds (fun xM Aq=>?_) fun xM Aq=>?_)
  ·refine wp_skip (aa (wp_seq (wp_block (wp_seq ?_))))
   obtain⟨md,hmd,hmdl,hmi⟩:=rT (ps:=ps) (root:=root) (lv:=1) (i:=k) (by omega)
   have hmd0:=cO hok hmd
   have hmd1:=hmd0.len
   have hmd2:=hmd0.rt
   have hmd3:=hmd0.hi
   have hmd4:=hmd0.lv
   have hmg_:=FG hmi
   have hmz:∀e∈md.es,e.1.size<=1000000:=fun e he=>Nat.le_trans (hmd0.es e he) (by decide)
   refine ak [0,0,0,6,14,31,0,127] [[],[],[],[2],[2],[],[],[10]] [[],[],[],[],[],[7,8,9],[10],[11]] [[],[],[],[],[],[],[],[10]] [.k 54 (vp bk),.k 55 (.slice gL ((ao ps root 1).length) jT),.k 56 (vi ((k:Int))),.c 57 (.pointer (some ((ad gL).add k))),.c 58 (vi (((ao ps root 1)).getD k 0)),.a 59,.a 10,.n] (fun ix d b X=>match ix with|0|1|2|3|4=>True|5=>d 59= .agg #[.bool true,.bool md.dead,vi md.lv,vi md.right,.string md.high,.slice (sA (tg (b 59) 5)) md.es.length (sC (tg (b 59) 5)),.slice (sA (tg (b 59) 6)) md.es.length (sC (tg (b 59) 6)),.slice (sA (tg (b 59) 7)) md.es.length (sC (tg (b 59) 7))]/\X 7=eO 9 1 (.slice (sA (tg (b 59) 5)) md.es.length (sC (tg (b 59) 5))) md.es.length (md.es.map stv)/\X 8=eO 3 1 (.slice (sA (tg (b 59) 6)) md.es.length (sC (tg (b 59) 6))) md.es.length (md.es.map slv)/\X 9=eO 3 1 (.slice (sA (tg (b 59) 7)) md.es.length (sC (tg (b 59) 7))) md.es.length (md.es.map kdv)|6=>d 10=vp (pb (b 10))/\X 10=eB (pb (b 10)) 95 #[.bool false,.bool false,vi 0,vi 0,.string ByteArray.empty,.slice none 0 0,.slice none 0 0,.slice none 0 0]|7=>X 11=eB (pb (b 10)) 95 #[.bool true,.bool md.dead,vi md.lv,vi md.right,.string md.high,.slice (sA (tg (b 59) 5)) md.es.length (sC (tg (b 59) 5)),.slice (sA (tg (b 59) 6)) md.es.length (sC (tg (b 59) 6)),.slice (sA (tg (b 59) 7)) md.es.length (sC (tg (b 59) 7))]|_=>True) [0,1,2,3,4,5,6,7,8,9,11] [3,4,5,6,7] [(10,6,1,11),(43,0,6,49)] c7 ?_ ?_ ?_
   exact fun ix _ _ _ _ _ _ hs hb hx h=>match ix,h with
   |5,h=>by dsimp only;rw[<-hs 59 rfl,<-hb 59 rfl,<-hx 7 rfl,<-hx 8 rfl,<-hx 9 rfl];exact h
   |6,h=>by dsimp only;rw[<-hs 10 rfl,<-hb 10 rfl,<-hx 10 rfl];exact h
   |7,h=>by dsimp only;rw[<-hb 10 rfl,<-hb 59 rfl,<-hx 11 rfl];exact h
   |0,_|1,_|2,_|3,_|4,_|_+8,_=>trivial
   refine⟨?_,?_,?_,?_,?_,trivial⟩
   exact xs4 rfl id fun cx=>ay (e:=3) (m:=k) rfl (by kernel_rfl) (by kernel_rfl) (cx.an 1) (cx.an 2) (by omega) (by omega) (At.of_own (cx.ri 2 rfl)) (by rw[List.length_map]<;>omega)
   exact xs4 rfl id fun cx=>ae rfl (by kernel_rfl) (cx.an 3) (At.cellAd (At.of_own (cx.ri 2 rfl)) (bX (by omega)))
   refine svA fun f b W X cx=>?_
   refine aC.call (aB (args:=#[vp bk,vi (((ao ps root 1)).getD k 0)]) rfl cx.sees rfl (by kernel_rfl) (aI (cx.an 0) (cx.an 4))) ?_
   refine(fF hmd (dF bk ps (((ao ps root 1)).getD k 0) _ (hB.ext cx.upd.to_ext) hok)).mono ?_
   rintro e W1 ⟨EA4,ec4,SA4,sc4,KA4,kc4,rfl,aM⟩
   refine⟨_,rfl,cl [eO 9 1 (.slice EA4 md.es.length ec4) md.es.length (md.es.map stv),eO 3 1 (.slice SA4 md.es.length sc4) md.es.length (md.es.map slv),eO 3 1 (.slice KA4 md.es.length kc4) md.es.length (md.es.map kdv)] rfl rfl aM (fun d g X' hs hb hv hN=>?_)⟩
   have aW:=(hv 59 rfl).1;have aG:=(hv 59 rfl).2
   exact⟨aW.trans (by rw[aG];rfl),(by rw[aG];exact(List.cons.inj hN).1),(by rw[aG];exact(List.cons.inj (List.cons.inj hN).2).1),(by rw[aG];exact(List.cons.inj (List.cons.inj (List.cons.inj hN).2).2).1)⟩
   refine svA fun f b W X cx=>?_
   exact aX (cs:=#[.bool false,.bool false,vi 0,vi 0,.string ByteArray.empty,.slice none 0 0,.slice none 0 0,.slice none 0 0]) rfl (by kernel_rfl) rfl rfl (fun _ _ _ _ _=> .intro)
   refine svA fun f b W X cx=>?_
   exact aw (n:=8) rfl (dTn (cx.an 6)).1 (dTn (cx.an 5)).1 (by kernel_rfl) (by kernel_rfl) (by kernel_rfl) cx (dTn (cx.an 6)).2 rfl (nle rfl) (by kernel_rfl) rfl rfl rfl (fun d g X' hs hb hx=>by rw[hb 10,hb 59];exact hx)
   intro d b X E6 hD fU fr ag
   simp only[exq 7 ((dTn (hD 5 lq)).2.1),exq 8 ((dTn (hD 5 lq)).2.2.1),exq 9 ((dTn (hD 5 lq)).2.2.2),exq 11 ((dTn (hD 7 lq)))] at fU
   simp only[ed 59 ((dTn (hD 5 lq)).1),ed 10 ((dTn (hD 6 lq)).1)] at ag
   generalize sA (tg (b 59) 5)=EA59_45,sC (tg (b 59) 5)=cEA59_45,sA (tg (b 59) 6)=SA59_45,sC (tg (b 59) 6)=cSA59_45,sA (tg (b 59) 7)=KA59_45,sC (tg (b 59) 7)=cKA59_45,pb (b 10)=kg at fU ag
   clear hD;subst ag;clear d b X
   refine aa (wp_seq (sqr (sqp [.k 11 (vi 0)] ?_)))
   refine aa (wp_block ?_)
   refine aL (fun t_ mz az W=>∃j:Nat,j<=md.es.length/\(∀q<j,gN md.es ((ao ps root 0).getD i 0) nd.right q=false)/\mz=md.es.length-j/\az=⟨(ovr (jv az) [(11,11,0,[vi ((j:Int))]),(0,12,2,[]),(46,60,114,[])] t_).toArray,[]⟩/\St w [] [eB bx 108 #[.slice none 0 0,vi 0,vi 0],eO 3 1 (.slice dD ((ao ps root 0).length) fY) ((ao ps root 0).length) ((ao ps root 0).map (Value.int .i64)),eO 3 1 (.slice gL ((ao ps root 1).length) jT) ((ao ps root 1).length) ((ao ps root 1).map (Value.int .i64)),eO 9 1 (.slice EA31_17 nd.es.length cEA31_17) nd.es.length (nd.es.map stv),eO 3 1 (.slice SA31_17 nd.es.length cSA31_17) nd.es.length (nd.es.map slv),eO 3 1 (.slice KA31_17 nd.es.length cKA31_17) nd.es.length (nd.es.map kdv),eB jU 95 #[.bool true,.bool nd.dead,vi nd.lv,vi nd.right,.string nd.high,.slice EA31_17 nd.es.length cEA31_17,.slice SA31_17 nd.es.length cSA31_17,.slice KA31_17 nd.es.length cKA31_17],eO 9 1 (.slice EA59_45 md.es.length cEA59_45) md.es.length (md.es.map stv),eO 3 1 (.slice SA59_45 md.es.length cSA59_45) md.es.length (md.es.map slv),eO 3 1 (.slice KA59_45 md.es.length cKA59_45) md.es.length (md.es.map kdv),eB kg 95 #[.bool true,.bool md.dead,vi md.lv,vi md.right,.string md.high,.slice EA59_45 md.es.length cEA59_45,.slice SA59_45 md.es.length cSA59_45,.slice KA59_45 md.es.length cKA59_45]] W) (md.es.length-0) ?_ ?_
   exact⟨0,Nat.zero_le _,(fun k hk=>absurd hk (Nat.not_lt_zero k)),rfl,(by kernel_rfl),fU.pk [0,1,2,3,4,5,6,7,8,9,10]⟩
   rintro RC a47 II ⟨j,hj,hnj,rfl,hj_,fB⟩
   refine ovz hj_ fun Q4=>?_
   refine wp_seq (wp_seq (sqr (sqp [.m 60 11,sI 61 ((j:Int)+1) (by omega),.k 62 (.pointer (some ⟨kg,5,none⟩))] ?_)))
   refine am 10 fB ?_
   refine sqp [.k 64 (vi ((md.es.length:Int))),.k 65 (.bool (decide ((j:Int)+1<(md.es.length:Int)))),.m 66 65] ?_
   refine cv 66 [67,68,69] ?_ rfl (fun hq=>?_) ?_
   rotate_left
   refine sqp [.k 67 (.pointer (some ⟨kg,1,none⟩))] ?_
   refine am 10 fB ?_
   refine sqp [.k 69 (.bool (!(md.dead)))] ?_
   exact sqe
   refine bQ ?_
   refine sqp [sPa 70 (decide ((j:Int)+1<(md.es.length:Int))) (!(md.dead))] ?_
   refine aa (wbs (fun gV=>?_) fun gV=>?_)
   have i9:=gV
   simp only[zB] at i9
   obtain⟨mL,xA⟩:=i9
   refine wp_skip (aa (wp_seq (wp_block (wp_seq (br [0,1,0,7,15,0,0,96,224,511,1023,2047,4095,2047,10239,32767,65535,2047,133119,524287,1048575] [[],[10],[],[9],[9],[],[],[1],[1],[],[],[],[10],[],[],[9],[9],[],[6]] [.k 73 (.pointer (some ⟨kg,7,none⟩)),.c 74 (.slice KA59_45 md.es.length cKA59_45),.k 75 (vi ((j:Int))),.c 76 (.pointer (some ((ad KA59_45).add j))),.c 77 (vi ((md.es.getD j en0).2.2)),.k 78 (.slice dD ((ao ps root 0).length) fY),.k 79 (vi ((i:Int))),.c 80 (.pointer (some ((ad dD).add i))),.c 81 (vi (((ao ps root 0)).getD i 0)),.k 82 (.bool (((md.es.getD j en0).2.2)==(((ao ps root 0)).getD i 0))),.k 83 (.bool (((md.es.getD j en0).2.2)==(((ao ps root 0)).getD i 0))),.z 84 (((md.es.getD j en0).2.2)==(((ao ps root 0)).getD i 0)) (.pointer (some ⟨kg,7,none⟩)),.y 85 (((md.es.getD j en0).2.2)==(((ao ps root 0)).getD i 0)) (.slice KA59_45 md.es.length cKA59_45),.z 86 (((md.es.getD j en0).2.2)==(((ao ps root 0)).getD i 0)) (vi ((j:Int))),.y 87 (((md.es.getD j en0).2.2)==(((ao ps root 0)).getD i 0)) (vi ((j:Int)+1)),.y 88 (((md.es.getD j en0).2.2)==(((ao ps root 0)).getD i 0)) (.pointer (some ((ad KA59_45).add (j+1)))),.y 89 (((md.es.getD j en0).2.2)==(((ao ps root 0)).getD i 0)) (vi ((md.es.getD (j+1) en0).2.2)),.z 90 (((md.es.getD j en0).2.2)==(((ao ps root 0)).getD i 0)) (.pointer (some ⟨jU,3,none⟩)),.y 91 (((md.es.getD j en0).2.2)==(((ao ps root 0)).getD i 0)) (vi nd.right),.z 92 (((md.es.getD j en0).2.2)==(((ao ps root 0)).getD i 0)) (.bool (((md.es.getD (j+1) en0).2.2)==nd.right)),tA 93 (((md.es.getD j en0).2.2)==(((ao ps root 0)).getD i 0)) (((md.es.getD (j+1) en0).2.2)==nd.right)] [0,1,2,3,4,5,6,7,8,9,10] [1,3,4,7,8,12,14,15,16,18] [(73,0,21,94)] fB ?_ fun RD Fq=>?_)))))
   refine⟨?_,?_,?_,?_,?_,?_,?_,?_,?_,?_,trivial⟩
   exact xs4 rfl id fun cx=>ae rfl (by kernel_rfl) (cx.an 0) ((cx.bi 10 rfl).cell 7)
   exact xs4 rfl id fun cx=>ay (e:=3) (m:=j) rfl (by kernel_rfl) (by kernel_rfl) (cx.an 1) (cx.an 2) (by omega) (by omega) (At.of_own (cx.ri 9 rfl)) (by rw[List.length_map]<;>omega)
   exact xs4 rfl id fun cx=>ae rfl (by kernel_rfl) (cx.an 3) (At.cellAd (At.of_own (cx.ri 9 rfl)) (j1 (by omega)))
   exact xs4 rfl id fun cx=>ay (e:=3) (m:=i) rfl (by kernel_rfl) (by kernel_rfl) (cx.an 5) (cx.an 6) (by omega) (by omega) (At.of_own (cx.ri 1 rfl)) (by rw[List.length_map]<;>omega)
   exact xs4 rfl id fun cx=>ae rfl (by kernel_rfl) (cx.an 7) (At.cellAd (At.of_own (cx.ri 1 rfl)) (bX (by omega)))
   exact m2 rfl (fun _ _ _ h=>h) (fun cx=>(cx.an 10)) fun cx hq=>ae rfl (by kernel_rfl) (mbv (cx.an 11) hq) ((cx.bi 10 rfl).cell 7)
   exact m2 rfl (fun _ _ _ h=>h) (fun cx=>(cx.an 10)) fun cx hq=>ji rfl (mbv (cx.an 13) hq) (cx.co _) (congrArg (fun z=>some (Value.int .i64 z)) ((IntWalk.i64_in _ (by have hq_:=hq;simp only[zB] at hq_;omega)).trans (by have hq_:=hq;simp only[zB] at hq_;omega)))
   exact m2 rfl (fun _ _ _ h=>h) (fun cx=>(cx.an 10)) fun cx hq=>ay (e:=3) (m:=j+1) rfl (by kernel_rfl) (by kernel_rfl) (mbv (cx.an 12) hq) (mbv (cx.an 14) hq) (by have hq_:=hq;simp only[zB] at hq_;omega) (by have hq_:=hq;simp only[zB] at hq_;omega) (At.of_own (cx.ri 9 rfl)) (by rw[List.length_map]<;>omega)
   exact m2 rfl (fun _ _ _ h=>h) (fun cx=>(cx.an 10)) fun cx hq=>ae rfl (by kernel_rfl) (mbv (cx.an 15) hq) (At.cellAd (At.of_own (cx.ri 9 rfl)) (j1 (by have hq_:=hq;simp only[zB] at hq_;omega)))
   exact m2 rfl (fun _ _ _ h=>h) (fun cx=>(cx.an 10)) fun cx hq=>ae rfl (by kernel_rfl) (mbv (cx.an 17) hq) ((cx.bi 6 rfl).cell 3)
   refine aa (wbs (fun mp=>?_) fun mp=>?_)
   have vc:=mp
   simp only[zB] at vc
   obtain⟨Pz,PA⟩:=vc
   refine wp_seq (ak [0,0,3,7,0,16,63,0,255] [[],[],[1],[1],[],[6],[],[],[11]] [[],[],[],[],[],[],[],[11],[12]] [[],[],[],[],[],[],[],[],[11]] [.k 94 (.slice dD ((ao ps root 0).length) fY),.k 95 (vi ((i:Int))),.c 96 (.pointer (some ((ad dD).add i))),.c 97 (vi (((ao ps root 0)).getD i 0)),.k 98 (.pointer (some ⟨jU,3,none⟩)),.c 99 (vi nd.right),.k 100 (.agg #[.slice none 0 0,vi (((ao ps root 0)).getD i 0),vi nd.right]),.a 12,.n] (fun ix d b X=>match ix with|0|1|2|3|4|5|6=>True|7=>d 12=vp (pb (b 12))/\X 11=eB (pb (b 12)) 108 #[.slice none 0 0,vi 0,vi 0]|8=>X 12=eB (pb (b 12)) 108 #[.slice none 0 0,vi (((ao ps root 0)).getD i 0),vi nd.right]|_=>True) [0,1,2,3,4,5,6,7,8,9,10,12] [2,3,5,7,8] [(12,7,1,13),(81,0,7,88)] Fq ?_ ?_ ?_)
   exact fun ix _ _ _ _ _ _ hs hb hx h=>match ix,h with
   |7,h=>by dsimp only;rw[<-hs 12 rfl,<-hb 12 rfl,<-hx 11 rfl];exact h
   |8,h=>by dsimp only;rw[<-hb 12 rfl,<-hx 12 rfl];exact h
   |0,_|1,_|2,_|3,_|4,_|5,_|6,_|_+9,_=>trivial
   refine⟨?_,?_,?_,?_,?_,trivial⟩
   exact xs4 rfl id fun cx=>ay (e:=3) (m:=i) rfl (by kernel_rfl) (by kernel_rfl) (cx.an 0) (cx.an 1) (by omega) (by omega) (At.of_own (cx.ri 1 rfl)) (by rw[List.length_map]<;>omega)
   exact xs4 rfl id fun cx=>ae rfl (by kernel_rfl) (cx.an 2) (At.cellAd (At.of_own (cx.ri 1 rfl)) (bX (by omega)))
   exact xs4 rfl id fun cx=>ae rfl (by kernel_rfl) (cx.an 4) ((cx.bi 6 rfl).cell 3)
   refine svA fun f b W X cx=>?_
   exact aX (cs:=#[.slice none 0 0,vi 0,vi 0]) rfl (by kernel_rfl) rfl rfl (fun _ _ _ _ _=> .intro)
   refine svA fun f b W X cx=>?_
   exact aw (n:=3) rfl (dTn (cx.an 7)).1 (cx.an 6) (by kernel_rfl) (by kernel_rfl) (by kernel_rfl) cx (dTn (cx.an 7)).2 rfl (nle rfl) (by kernel_rfl) rfl rfl rfl (fun d g X' hs hb hx=>by rw[hb 12];exact hx)
   intro d b X Oq hD lY fr ag
   simp only[exq 12 ((dTn (hD 8 lq)))] at lY
   simp only[ed 12 ((dTn (hD 7 lq)).1)] at ag
   generalize pb (b 12)=fJ at lY ag
   clear hD;subst ag;clear d b X
   refine aa (wp_seq ?_)
   have hn63:=bT lY 67 3
   simp only[List.cons_append,List.nil_append] at hn63
   refine ak [0,1,0,0,12,28,0,64,0,448,960,0,2048,0,14336,30720,0,65536,260096,524284,0,0,3145728,7340032,0,16777216,0,67108864,251658240,520093696,1072693248,2147483644,4294967295,8589934591,17179869183] [[],[11],[],[],[2],[2],[],[10],[],[8],[8],[],[10],[],[7],[7],[],[6],[],[],[],[],[2],[2],[],[10],[],[],[8],[8],[],[],[13,12],[],[11]] [[],[],[],[],[],[],[],[],[],[],[],[],[],[],[],[],[],[],[],[],[],[],[],[],[],[],[],[],[],[],[],[13],[14],[],[15]] [[],[],[],[],[],[],[],[],[],[],[],[],[],[],[],[],[],[],[],[],[],[],[],[],[],[],[],[],[],[],[],[],[12],[],[11]] [.k 101 (vp fJ),.c 102 (.slice none 0 0),.k 103 (.slice gL ((ao ps root 1).length) jT),.k 104 (vi ((k:Int))),.c 105 (.pointer (some ((ad gL).add k))),.c 106 (vi (((ao ps root 1)).getD k 0)),.k 107 (.pointer (some ⟨kg,6,none⟩)),.c 108 (.slice SA59_45 md.es.length cSA59_45),.k 109 (vi ((j:Int))),.c 110 (.pointer (some ((ad SA59_45).add j))),.c 111 (vi (((md.es.getD j en0).2.1:Int))),.k 112 (.pointer (some ⟨kg,5,none⟩)),.c 113 (.slice EA59_45 md.es.length cEA59_45),.k 114 (vi ((j:Int))),.c 115 (.pointer (some ((ad EA59_45).add j))),.c 116 (.string ((md.es.getD j en0).1)),.k 117 (.pointer (some ⟨jU,3,none⟩)),.c 118 (vi nd.right),.c 119 (.string (itB 1 nd.right ((md.es.getD j en0).1))),.k 120 (.agg #[vi (((ao ps root 1)).getD k 0),vi (((md.es.getD j en0).2.1:Int)),.string (itB 1 nd.right ((md.es.getD j en0).1))]),.k 121 (.slice gL ((ao ps root 1).length) jT),.k 122 (vi ((k:Int))),.c 123 (.pointer (some ((ad gL).add k))),.c 124 (vi (((ao ps root 1)).getD k 0)),.k 125 (.pointer (some ⟨kg,6,none⟩)),.c 126 (.slice SA59_45 md.es.length cSA59_45),.k 127 (vi ((j:Int))),tI 128 ((j:Int)+1) (by omega),.c 129 (.pointer (some ((ad SA59_45).add (j+1)))),.c 130 (vi (((md.es.getD (j+1) en0).2.1:Int))),.k 131 (.agg #[vi (((ao ps root 1)).getD k 0),vi (((md.es.getD (j+1) en0).2.1:Int)),.string ByteArray.empty]),.a 132,.a 133,.k 134 (vp fJ),.n] (fun ix d b X=>match ix with|0|1|2|3|4|5|6|7|8|9|10|11|12|13|14|15|16|17|18|19|20|21|22|23|24|25|26|27|28|29|30=>True|31=>d 132= .slice ((some ⟨(pb' (b 132)),0,none⟩)) 2 2/\X 13=eO 67 3 (.slice ((some ⟨(pb' (b 132)),0,none⟩)) 2 2) 2 (([(((ao ps root 1)).getD k 0,((md.es.getD j en0).2.1:Int),itB 1 nd.right ((md.es.getD j en0).1)),(((ao ps root 1)).getD k 0,((md.es.getD (j+1) en0).2.1:Int),ByteArray.empty)]:List EdT).flatMap edC)|32=>d 133= .slice (sA (b 133)) 2 (sC (b 133))/\X 14=eO 67 3 (.slice (sA (b 133)) 2 (sC (b 133))) 2 (([(((ao ps root 1)).getD k 0,((md.es.getD j en0).2.1:Int),itB 1 nd.right ((md.es.getD j en0).1)),(((ao ps root 1)).getD k 0,((md.es.getD (j+1) en0).2.1:Int),ByteArray.empty)]:List EdT).flatMap edC)|33=>True|34=>X 15=eB fJ 108 #[.slice (sA (b 133)) 2 (sC (b 133)),vi (((ao ps root 0)).getD i 0),vi nd.right]|_=>True) [0,1,2,3,4,5,6,7,8,9,10,13,14,15] [1,4,5,7,9,10,12,14,15,17,18,22,23,25,28,29,31,32,34] [(101,0,34,135)] hn63 ?_ ?_ ?_
   exact fun ix _ _ _ _ _ _ hs hb hx h=>match ix,h with
   |31,h=>by dsimp only;rw[<-hs 132 rfl,<-hb 132 rfl,<-hx 13 rfl];exact h
   |32,h=>by dsimp only;rw[<-hs 133 rfl,<-hb 133 rfl,<-hx 14 rfl];exact h
   |34,h=>by dsimp only;rw[<-hb 133 rfl,<-hx 15 rfl];exact h
   |0,_|1,_|2,_|3,_|4,_|5,_|6,_|7,_|8,_|9,_|10,_|11,_|12,_|13,_|14,_|15,_|16,_|17,_|18,_|19,_|20,_|21,_|22,_|23,_|24,_|25,_|26,_|27,_|28,_|29,_|30,_|33,_|_+35,_=>trivial
   refine⟨?_,?_,?_,?_,?_,?_,?_,?_,?_,?_,?_,?_,?_,?_,?_,?_,?_,?_,?_,trivial⟩
   exact xs4 rfl id fun cx=>ae rfl (by kernel_rfl) (cx.an 0) ((cx.bi 11 rfl).cell 0)
   exact xs4 rfl id fun cx=>ay (e:=3) (m:=k) rfl (by kernel_rfl) (by kernel_rfl) (cx.an 2) (cx.an 3) (by omega) (by omega) (At.of_own (cx.ri 2 rfl)) (by rw[List.length_map]<;>omega)
   exact xs4 rfl id fun cx=>ae rfl (by kernel_rfl) (cx.an 4) (At.cellAd (At.of_own (cx.ri 2 rfl)) (bX (by omega)))
   exact xs4 rfl id fun cx=>ae rfl (by kernel_rfl) (cx.an 6) ((cx.bi 10 rfl).cell 6)
   exact xs4 rfl id fun cx=>ay (e:=3) (m:=j) rfl (by kernel_rfl) (by kernel_rfl) (cx.an 7) (cx.an 8) (by omega) (by omega) (At.of_own (cx.ri 8 rfl)) (by rw[List.length_map]<;>omega)
   exact xs4 rfl id fun cx=>ae rfl (by kernel_rfl) (cx.an 9) (At.cellAd (At.of_own (cx.ri 8 rfl)) (oo (by omega)))
   exact xs4 rfl id fun cx=>ae rfl (by kernel_rfl) (cx.an 11) ((cx.bi 10 rfl).cell 5)
   exact xs4 rfl id fun cx=>ay (e:=9) (m:=j) rfl (by kernel_rfl) (by kernel_rfl) (cx.an 12) (cx.an 13) (by omega) (by omega) (At.of_own (cx.ri 7 rfl)) (by rw[List.length_map]<;>omega)
   exact xs4 rfl id fun cx=>ae rfl (by kernel_rfl) (cx.an 14) (At.cellAd (At.of_own (cx.ri 7 rfl)) (eD (by omega)))
   exact xs4 rfl id fun cx=>ae rfl (by kernel_rfl) (cx.an 16) ((cx.bi 6 rfl).cell 3)
   exact xsc rfl id rfl rfl fun cx=>⟨_,j5 ((md.es.getD j en0).1) 1 nd.right _ (b7 hmz _),(dH (cx.an 15) (cx.co _) (cx.an 17))⟩
   exact xs4 rfl id fun cx=>ay (e:=3) (m:=k) rfl (by kernel_rfl) (by kernel_rfl) (cx.an 20) (cx.an 21) (by omega) (by omega) (At.of_own (cx.ri 2 rfl)) (by rw[List.length_map]<;>omega)
   exact xs4 rfl id fun cx=>ae rfl (by kernel_rfl) (cx.an 22) (At.cellAd (At.of_own (cx.ri 2 rfl)) (bX (by omega)))
   exact xs4 rfl id fun cx=>ae rfl (by kernel_rfl) (cx.an 24) ((cx.bi 10 rfl).cell 6)
   exact xs4 rfl id fun cx=>ay (e:=3) (m:=j+1) rfl (by kernel_rfl) (by kernel_rfl) (cx.an 25) (cx.an 27) (by omega) (by omega) (At.of_own (cx.ri 8 rfl)) (by rw[List.length_map]<;>omega)
   exact xs4 rfl id fun cx=>ae rfl (by kernel_rfl) (cx.an 28) (At.cellAd (At.of_own (cx.ri 8 rfl)) (oo (by omega)))
   refine svA fun f b W X cx=>?_
   have LC:f (.tmp 120)= .agg #[vi (((ao ps root 1)).getD k 0),vi (((md.es.getD j en0).2.1:Int)),.string (itB 1 nd.right ((md.es.getD j en0).1))]:=(cx.an 19)
   have LD:f (.tmp 131)= .agg #[vi (((ao ps root 1)).getD k 0),vi (((md.es.getD (j+1) en0).2.1:Int)),.string ByteArray.empty]:=(cx.an 30)
   exact bS (e:=67) (sz:=3) (xs:=[vi (((ao ps root 1)).getD k 0),vi (((md.es.getD j en0).2.1:Int)),.string (itB 1 nd.right ((md.es.getD j en0).1)),vi (((ao ps root 1)).getD k 0),vi (((md.es.getD (j+1) en0).2.1:Int)),.string ByteArray.empty]) rfl (by simp[go_sem,LC,LD]) rfl (by decide) rfl rfl (fun _ _ _ _ _=> .intro)
   refine svA fun f b W X cx=>?_
   obtain⟨i0,hi0,hz0,hz1,hz2⟩:=info_parts Tryz.infoEdit
   refine bN (n:=0) (m:=2) (nm:=2) (sz:=3) (xs:=[]) (news:=([(((ao ps root 1)).getD k 0,((md.es.getD j en0).2.1:Int),itB 1 nd.right ((md.es.getD j en0).1)),(((ao ps root 1)).getD k 0,((md.es.getD (j+1) en0).2.1:Int),ByteArray.empty)]:List EdT).flatMap edC) (xs':=([(((ao ps root 1)).getD k 0,((md.es.getD j en0).2.1:Int),itB 1 nd.right ((md.es.getD j en0).1)),(((ao ps root 1)).getD k 0,((md.es.getD (j+1) en0).2.1:Int),ByteArray.empty)]:List EdT).flatMap edC) rfl (ty:=28) rfl (by kernel_rfl) hi0 hz0 hz1 hz2 rfl (by decide) (cx.an 1) cx (cx.init 12 _ rfl) rfl (dTn (cx.an 31)).1 (by rfl) (At.of_ownN (cx.row (dTn (cx.an 31)).2 rfl)) (by simp[edC,Value.oneCell']) (by simp only[maxLen];omega) (by omega) rfl rfl rfl (by omega) (rfl) (fun d g X' hs hb hv hx=>?_)
   exact⟨hv,hx⟩
   refine svA fun f b W X cx=>?_
   exact aw (n:=1) rfl (cx.an 33) (dTn (cx.an 32)).1 (by kernel_rfl) (by kernel_rfl) (by kernel_rfl) cx (cx.init 11 _ rfl) rfl (nle rfl) (by kernel_rfl) rfl rfl rfl (fun d g X' hs hb hx=>by rw[hb 133];exact hx)
   intro d b X IY hD c8 fr ag
   simp only[exq 13 ((dTn (hD 31 lq)).2),exq 14 ((dTn (hD 32 lq)).2),exq 15 ((dTn (hD 34 lq)))] at c8
   simp only[ed 132 ((dTn (hD 31 lq)).1),ed 133 ((dTn (hD 32 lq)).1)] at ag
   generalize pb' (b 132)=NS,sA (b 133)=y9,sC (b 133)=za at c8 ag
   clear hD;subst ag;clear d b X
   refine aa (wp_seq (wp_seq (sqr (sqp [.m 135 7,.k 136 (.bool (decide (0<(i:Int))))] ?_))))
   refine aa (wds (fun Ns LF=>?_) fun Ns LF=>?_)
   refine wp_seq ?_
   obtain⟨ld,hld,hldl,hli⟩:=rT (ps:=ps) (root:=root) (lv:=0) (i:=((i:Int)-1).toNat) (by omega)
   have hld0:=cO hok hld
   have hld1:=hld0.len
   have hld2:=hld0.rt
   have hld3:=hld0.hi
   have hld4:=hld0.lv
   refine ak [0,0,0,4,14,30,63,0,255] [[],[],[],[],[1],[1],[],[],[17]] [[],[],[],[],[],[],[14,15,16],[17],[18]] [[],[],[],[],[],[],[],[],[17]] [.k 137 (vp bk),.k 138 (.slice dD ((ao ps root 0).length) fY),.k 139 (vi ((i:Int))),tI 140 ((i:Int)-1) (by omega),.c 141 (.pointer (some ((ad dD).add (((i:Int)-1).toNat)))),.c 142 (vi (((ao ps root 0)).getD (((i:Int)-1).toNat) 0)),.a 143,.a 13,.n] (fun ix d b X=>match ix with|0|1|2|3|4|5=>True|6=>d 143= .agg #[.bool true,.bool ld.dead,vi ld.lv,vi ld.right,.string ld.high,.slice (sA (tg (b 143) 5)) ld.es.length (sC (tg (b 143) 5)),.slice (sA (tg (b 143) 6)) ld.es.length (sC (tg (b 143) 6)),.slice (sA (tg (b 143) 7)) ld.es.length (sC (tg (b 143) 7))]/\X 14=eO 9 1 (.slice (sA (tg (b 143) 5)) ld.es.length (sC (tg (b 143) 5))) ld.es.length (ld.es.map stv)/\X 15=eO 3 1 (.slice (sA (tg (b 143) 6)) ld.es.length (sC (tg (b 143) 6))) ld.es.length (ld.es.map slv)/\X 16=eO 3 1 (.slice (sA (tg (b 143) 7)) ld.es.length (sC (tg (b 143) 7))) ld.es.length (ld.es.map kdv)|7=>d 13=vp (pb (b 13))/\X 17=eB (pb (b 13)) 95 #[.bool false,.bool false,vi 0,vi 0,.string ByteArray.empty,.slice none 0 0,.slice none 0 0,.slice none 0 0]|8=>X 18=eB (pb (b 13)) 95 #[.bool true,.bool ld.dead,vi ld.lv,vi ld.right,.string ld.high,.slice (sA (tg (b 143) 5)) ld.es.length (sC (tg (b 143) 5)),.slice (sA (tg (b 143) 6)) ld.es.length (sC (tg (b 143) 6)),.slice (sA (tg (b 143) 7)) ld.es.length (sC (tg (b 143) 7))]|_=>True) [0,1,2,3,4,5,6,7,8,9,10,11,12,13,14,15,16,18] [4,5,6,7,8] [(13,7,1,14),(123,0,7,130)] c8 ?_ ?_ ?_
   exact fun ix _ _ _ _ _ _ hs hb hx h=>match ix,h with
   |6,h=>by dsimp only;rw[<-hs 143 rfl,<-hb 143 rfl,<-hx 14 rfl,<-hx 15 rfl,<-hx 16 rfl];exact h
   |7,h=>by dsimp only;rw[<-hs 13 rfl,<-hb 13 rfl,<-hx 17 rfl];exact h
   |8,h=>by dsimp only;rw[<-hb 13 rfl,<-hb 143 rfl,<-hx 18 rfl];exact h
   |0,_|1,_|2,_|3,_|4,_|5,_|_+9,_=>trivial
   refine⟨?_,?_,?_,?_,?_,trivial⟩
   exact xs4 rfl id fun cx=>ay (e:=3) (m:=((i:Int)-1).toNat) rfl (by kernel_rfl) (by kernel_rfl) (cx.an 1) (cx.an 3) (by omega) (by omega) (At.of_own (cx.ri 1 rfl)) (by rw[List.length_map]<;>omega)
   exact xs4 rfl id fun cx=>ae rfl (by kernel_rfl) (cx.an 4) (At.cellAd (At.of_own (cx.ri 1 rfl)) (bX (by omega)))
   refine svA fun f b W X cx=>?_
   refine aC.call (aB (args:=#[vp bk,vi (((ao ps root 0)).getD (((i:Int)-1).toNat) 0)]) rfl cx.sees rfl (by kernel_rfl) (aI (cx.an 0) (cx.an 5))) ?_
   refine(fF hld (dF bk ps (((ao ps root 0)).getD (((i:Int)-1).toNat) 0) _ (hB.ext cx.upd.to_ext) hok)).mono ?_
   rintro e W1 ⟨EA4,ec4,SA4,sc4,KA4,kc4,rfl,aM⟩
   refine⟨_,rfl,cl [eO 9 1 (.slice EA4 ld.es.length ec4) ld.es.length (ld.es.map stv),eO 3 1 (.slice SA4 ld.es.length sc4) ld.es.length (ld.es.map slv),eO 3 1 (.slice KA4 ld.es.length kc4) ld.es.length (ld.es.map kdv)] rfl rfl aM (fun d g X' hs hb hv hN=>?_)⟩
   have aW:=(hv 143 rfl).1;have aG:=(hv 143 rfl).2
   exact⟨aW.trans (by rw[aG];rfl),(by rw[aG];exact(List.cons.inj hN).1),(by rw[aG];exact(List.cons.inj (List.cons.inj hN).2).1),(by rw[aG];exact(List.cons.inj (List.cons.inj (List.cons.inj hN).2).2).1)⟩
   refine svA fun f b W X cx=>?_
   exact aX (cs:=#[.bool false,.bool false,vi 0,vi 0,.string ByteArray.empty,.slice none 0 0,.slice none 0 0,.slice none 0 0]) rfl (by kernel_rfl) rfl rfl (fun _ _ _ _ _=> .intro)
   refine svA fun f b W X cx=>?_
   exact aw (n:=8) rfl (dTn (cx.an 7)).1 (dTn (cx.an 6)).1 (by kernel_rfl) (by kernel_rfl) (by kernel_rfl) cx (dTn (cx.an 7)).2 rfl (nle rfl) (by kernel_rfl) rfl rfl rfl (fun d g X' hs hb hx=>by rw[hb 13,hb 143];exact hx)
   intro d b X LU hD jb fr ag
   simp only[exq 14 ((dTn (hD 6 lq)).2.1),exq 15 ((dTn (hD 6 lq)).2.2.1),exq 16 ((dTn (hD 6 lq)).2.2.2),exq 18 ((dTn (hD 8 lq)))] at jb
   simp only[ed 143 ((dTn (hD 6 lq)).1),ed 13 ((dTn (hD 7 lq)).1)] at ag
   generalize sA (tg (b 143) 5)=EA143_68,sC (tg (b 143) 5)=cEA143_68,sA (tg (b 143) 6)=SA143_68,sC (tg (b 143) 6)=cSA143_68,sA (tg (b 143) 7)=KA143_68,sC (tg (b 143) 7)=cKA143_68,pb (b 13)=Kn at jb ag
   clear hD;subst ag;clear d b X
   refine aa (wp_seq (sqr (sqp [.k 144 (.pointer (some ⟨jU,3,none⟩))] ?_)))
   refine am 6 jb ?_
   refine sqp [.k 146 (.pointer (some ⟨Kn,3,none⟩))] ?_
   refine aD (n:=1) 17 #[.bool true,.bool ld.dead,vi ld.lv,vi nd.right,.string ld.high,.slice EA143_68 ld.es.length cEA143_68,.slice SA143_68 ld.es.length cSA143_68,.slice KA143_68 ld.es.length cKA143_68] jb fun LW lZ=>?_
   refine aa (ak [0,1,0,0,8,28,60,0,128,508,1020,2047,4095,8191] [[],[13],[],[],[],[1],[1],[17],[],[],[],[18,12],[],[13]] [[],[],[],[],[],[],[],[],[],[],[18],[19],[],[20]] [[],[],[],[],[],[],[],[],[],[],[],[12],[],[13]] [.k 147 (vp fJ),.c 148 (.slice y9 2 za),.k 149 (.slice dD ((ao ps root 0).length) fY),.k 150 (vi ((i:Int))),tI 151 ((i:Int)-1) (by omega),.c 152 (.pointer (some ((ad dD).add (((i:Int)-1).toNat)))),.c 153 (vi (((ao ps root 0)).getD (((i:Int)-1).toNat) 0)),.c 154 (.agg #[.bool true,.bool ld.dead,vi ld.lv,vi nd.right,.string ld.high,.slice EA143_68 ld.es.length cEA143_68,.slice SA143_68 ld.es.length cSA143_68,.slice KA143_68 ld.es.length cKA143_68]),.c 155 (.string (hdB ld.lv nd.right ld.dead ld.high)),.k 156 (.agg #[vi (((ao ps root 0)).getD (((i:Int)-1).toNat) 0),vi 0,.string (hdB ld.lv nd.right ld.dead ld.high)]),.a 157,.a 158,.k 159 (vp fJ),.n] (fun ix d b X=>match ix with|0|1|2|3|4|5|6|7|8|9=>True|10=>d 157= .slice ((some ⟨(pb' (b 157)),0,none⟩)) 1 1/\X 18=eO 67 3 (.slice ((some ⟨(pb' (b 157)),0,none⟩)) 1 1) 1 (edC (((ao ps root 0)).getD (((i:Int)-1).toNat) 0,0,hdB ld.lv nd.right ld.dead ld.high))|11=>d 158= .slice (sA (b 158)) 3 (sC (b 158))/\X 19=eO 67 3 (.slice (sA (b 158)) 3 (sC (b 158))) 3 ((([(((ao ps root 1)).getD k 0,((md.es.getD j en0).2.1:Int),itB 1 nd.right ((md.es.getD j en0).1)),(((ao ps root 1)).getD k 0,((md.es.getD (j+1) en0).2.1:Int),ByteArray.empty)]:List EdT)++[(((ao ps root 0)).getD (((i:Int)-1).toNat) 0,0,hdB ld.lv nd.right ld.dead ld.high)]).flatMap edC)|12=>True|13=>X 20=eB fJ 108 #[.slice (sA (b 158)) 3 (sC (b 158)),vi (((ao ps root 0)).getD i 0),vi nd.right]|_=>True) [0,1,2,3,4,5,6,7,8,9,10,11,14,15,16,17,18,19,20] [1,5,6,7,8,10,11,13] [(147,0,13,160)] lZ ?_ ?_ ?_)
   exact fun ix _ _ _ _ _ _ hs hb hx h=>match ix,h with
   |10,h=>by dsimp only;rw[<-hs 157 rfl,<-hb 157 rfl,<-hx 18 rfl];exact h
   |11,h=>by dsimp only;rw[<-hs 158 rfl,<-hb 158 rfl,<-hx 19 rfl];exact h
   |13,h=>by dsimp only;rw[<-hb 158 rfl,<-hx 20 rfl];exact h
   |0,_|1,_|2,_|3,_|4,_|5,_|6,_|7,_|8,_|9,_|12,_|_+14,_=>trivial
   refine⟨?_,?_,?_,?_,?_,?_,?_,?_,trivial⟩
   exact xs4 rfl id fun cx=>ae rfl (by kernel_rfl) (cx.an 0) ((cx.bi 13 rfl).cell 0)
   exact xs4 rfl id fun cx=>ay (e:=3) (m:=((i:Int)-1).toNat) rfl (by kernel_rfl) (by kernel_rfl) (cx.an 2) (cx.an 4) (by omega) (by omega) (At.of_own (cx.ri 1 rfl)) (by rw[List.length_map]<;>omega)
   exact xs4 rfl id fun cx=>ae rfl (by kernel_rfl) (cx.an 5) (At.cellAd (At.of_own (cx.ri 1 rfl)) (bX (by omega)))
   exact xs4 rfl id fun cx=>aV (n:=8) rfl (by kernel_rfl) (by kernel_rfl) (cx.ou 13) (cx.bi 17 rfl) (nle rfl) rfl
   exact xsc rfl id rfl rfl fun cx=>⟨_,ij ld.lv nd.right ld.high true ld.dead _ _ _ _ _ _ _ _ _ _ (by omega) (by omega) (by first|omega|decide),(bp (cx.an 7))⟩
   refine svA fun f b W X cx=>?_
   have LG:f (.tmp 156)= .agg #[vi (((ao ps root 0)).getD (((i:Int)-1).toNat) 0),vi 0,.string (hdB ld.lv nd.right ld.dead ld.high)]:=(cx.an 9)
   exact bS (e:=67) (sz:=3) (xs:=[vi (((ao ps root 0)).getD (((i:Int)-1).toNat) 0),vi 0,.string (hdB ld.lv nd.right ld.dead ld.high)]) rfl (by simp[go_sem,LG]) rfl (by decide) rfl rfl (fun _ _ _ _ _=> .intro)
   refine svA fun f b W X cx=>?_
   obtain⟨i0,hi0,hz0,hz1,hz2⟩:=info_parts Tryz.infoEdit
   refine bN (n:=2) (m:=1) (nm:=3) (sz:=3) (xs:=([(((ao ps root 1)).getD k 0,((md.es.getD j en0).2.1:Int),itB 1 nd.right ((md.es.getD j en0).1)),(((ao ps root 1)).getD k 0,((md.es.getD (j+1) en0).2.1:Int),ByteArray.empty)]:List EdT).flatMap edC) (news:=edC (((ao ps root 0)).getD (((i:Int)-1).toNat) 0,0,hdB ld.lv nd.right ld.dead ld.high)) (xs':=(([(((ao ps root 1)).getD k 0,((md.es.getD j en0).2.1:Int),itB 1 nd.right ((md.es.getD j en0).1)),(((ao ps root 1)).getD k 0,((md.es.getD (j+1) en0).2.1:Int),ByteArray.empty)]:List EdT)++[(((ao ps root 0)).getD (((i:Int)-1).toNat) 0,0,hdB ld.lv nd.right ld.dead ld.high)]).flatMap edC) rfl (ty:=28) rfl (by kernel_rfl) hi0 hz0 hz1 hz2 rfl (by decide) (cx.an 1) cx (cx.init 12 _ rfl) rfl (dTn (cx.an 10)).1 (by rfl) (At.of_ownN (cx.row (dTn (cx.an 10)).2 rfl)) (by simp[edC,Value.oneCell']) (by simp only[maxLen];omega) (by omega) rfl rfl rfl (by omega) (dw _ _) (fun d g X' hs hb hv hx=>?_)
   exact⟨hv,hx⟩
   refine svA fun f b W X cx=>?_
   exact aw (n:=1) rfl (cx.an 12) (dTn (cx.an 11)).1 (by kernel_rfl) (by kernel_rfl) (by kernel_rfl) cx (cx.init 13 _ rfl) rfl (nle rfl) (by kernel_rfl) rfl rfl rfl (fun d g X' hs hb hx=>by rw[hb 158];exact hx)
   intro d b X L2 hD jR fr ag
   simp only[exq 18 ((dTn (hD 10 lq)).2),exq 19 ((dTn (hD 11 lq)).2),exq 20 ((dTn (hD 13 lq)))] at jR
   simp only[ed 157 ((dTn (hD 10 lq)).1),ed 158 ((dTn (hD 11 lq)).1)] at ag
   generalize pb' (b 157)=NT,sA (b 158)=Hh,sC (b 158)=Hi at jR ag
   clear hD;subst ag;clear d b X
   refine aa (wp_seq (sqr (sqp [.k 160 (.pointer (some ⟨jU,1,none⟩))] ?_)))
   refine aD (n:=1) 6 #[.bool true,.bool true,vi nd.lv,vi nd.right,.string nd.high,.slice EA31_17 nd.es.length cEA31_17,.slice SA31_17 nd.es.length cSA31_17,.slice KA31_17 nd.es.length cKA31_17] jR fun LY pW=>?_
   refine aa (wp_seq (ak [0,1,0,0,12,28,0,64,252,508,1023,2047,4095] [[],[18],[],[],[1],[1],[6],[],[],[],[19,17],[],[18]] [[],[],[],[],[],[],[],[],[],[19],[20],[],[21]] [[],[],[],[],[],[],[],[],[],[],[17],[],[18]] [.k 161 (vp fJ),.c 162 (.slice Hh 3 Hi),.k 163 (.slice dD ((ao ps root 0).length) fY),.k 164 (vi ((i:Int))),.c 165 (.pointer (some ((ad dD).add i))),.c 166 (vi (((ao ps root 0)).getD i 0)),.c 167 (.agg #[.bool true,.bool true,vi nd.lv,vi nd.right,.string nd.high,.slice EA31_17 nd.es.length cEA31_17,.slice SA31_17 nd.es.length cSA31_17,.slice KA31_17 nd.es.length cKA31_17]),.c 168 (.string (hdB nd.lv nd.right true nd.high)),.k 169 (.agg #[vi (((ao ps root 0)).getD i 0),vi 0,.string (hdB nd.lv nd.right true nd.high)]),.a 170,.a 171,.k 172 (vp fJ),.n] (fun ix d b X=>match ix with|0|1|2|3|4|5|6|7|8=>True|9=>d 170= .slice ((some ⟨(pb' (b 170)),0,none⟩)) 1 1/\X 19=eO 67 3 (.slice ((some ⟨(pb' (b 170)),0,none⟩)) 1 1) 1 (edC (((ao ps root 0)).getD i 0,0,hdB nd.lv nd.right true nd.high))|10=>d 171= .slice (sA (b 171)) 4 (sC (b 171))/\X 20=eO 67 3 (.slice (sA (b 171)) 4 (sC (b 171))) 4 (((([(((ao ps root 1)).getD k 0,((md.es.getD j en0).2.1:Int),itB 1 nd.right ((md.es.getD j en0).1)),(((ao ps root 1)).getD k 0,((md.es.getD (j+1) en0).2.1:Int),ByteArray.empty)]:List EdT)++[(((ao ps root 0)).getD (((i:Int)-1).toNat) 0,0,hdB ld.lv nd.right ld.dead ld.high)])++[(((ao ps root 0)).getD i 0,0,hdB nd.lv nd.right true nd.high)]).flatMap edC)|11=>True|12=>X 21=eB fJ 108 #[.slice (sA (b 171)) 4 (sC (b 171)),vi (((ao ps root 0)).getD i 0),vi nd.right]|_=>True) [0,1,2,3,4,5,6,7,8,9,10,11,12,13,14,15,16,19,20,21] [1,4,5,6,7,9,10,12] [(161,0,12,173)] pW ?_ ?_ ?_))
   exact fun ix _ _ _ _ _ _ hs hb hx h=>match ix,h with
   |9,h=>by dsimp only;rw[<-hs 170 rfl,<-hb 170 rfl,<-hx 19 rfl];exact h
   |10,h=>by dsimp only;rw[<-hs 171 rfl,<-hb 171 rfl,<-hx 20 rfl];exact h
   |12,h=>by dsimp only;rw[<-hb 171 rfl,<-hx 21 rfl];exact h
   |0,_|1,_|2,_|3,_|4,_|5,_|6,_|7,_|8,_|11,_|_+13,_=>trivial
   refine⟨?_,?_,?_,?_,?_,?_,?_,?_,trivial⟩
   exact xs4 rfl id fun cx=>ae rfl (by kernel_rfl) (cx.an 0) ((cx.bi 18 rfl).cell 0)
   exact xs4 rfl id fun cx=>ay (e:=3) (m:=i) rfl (by kernel_rfl) (by kernel_rfl) (cx.an 2) (cx.an 3) (by omega) (by omega) (At.of_own (cx.ri 1 rfl)) (by rw[List.length_map]<;>omega)
   exact xs4 rfl id fun cx=>ae rfl (by kernel_rfl) (cx.an 4) (At.cellAd (At.of_own (cx.ri 1 rfl)) (bX (by omega)))
   exact xs4 rfl id fun cx=>aV (n:=8) rfl (by kernel_rfl) (by kernel_rfl) (cx.ou 8) (cx.bi 6 rfl) (nle rfl) rfl
   exact xsc rfl id rfl rfl fun cx=>⟨_,ij nd.lv nd.right nd.high true true _ _ _ _ _ _ _ _ _ _ (by omega) (by omega) (by first|omega|decide),(bp (cx.an 6))⟩
   refine svA fun f b W X cx=>?_
   have Az:f (.tmp 169)= .agg #[vi (((ao ps root 0)).getD i 0),vi 0,.string (hdB nd.lv nd.right true nd.high)]:=(cx.an 8)
   exact bS (e:=67) (sz:=3) (xs:=[vi (((ao ps root 0)).getD i 0),vi 0,.string (hdB nd.lv nd.right true nd.high)]) rfl (by simp[go_sem,Az]) rfl (by decide) rfl rfl (fun _ _ _ _ _=> .intro)
   refine svA fun f b W X cx=>?_
   obtain⟨i0,hi0,hz0,hz1,hz2⟩:=info_parts Tryz.infoEdit
   refine bN (n:=3) (m:=1) (nm:=4) (sz:=3) (xs:=(([(((ao ps root 1)).getD k 0,((md.es.getD j en0).2.1:Int),itB 1 nd.right ((md.es.getD j en0).1)),(((ao ps root 1)).getD k 0,((md.es.getD (j+1) en0).2.1:Int),ByteArray.empty)]:List EdT)++[(((ao ps root 0)).getD (((i:Int)-1).toNat) 0,0,hdB ld.lv nd.right ld.dead ld.high)]).flatMap edC) (news:=edC (((ao ps root 0)).getD i 0,0,hdB nd.lv nd.right true nd.high)) (xs':=((([(((ao ps root 1)).getD k 0,((md.es.getD j en0).2.1:Int),itB 1 nd.right ((md.es.getD j en0).1)),(((ao ps root 1)).getD k 0,((md.es.getD (j+1) en0).2.1:Int),ByteArray.empty)]:List EdT)++[(((ao ps root 0)).getD (((i:Int)-1).toNat) 0,0,hdB ld.lv nd.right ld.dead ld.high)])++[(((ao ps root 0)).getD i 0,0,hdB nd.lv nd.right true nd.high)]).flatMap edC) rfl (ty:=28) rfl (by kernel_rfl) hi0 hz0 hz1 hz2 rfl (by decide) (cx.an 1) cx (cx.init 17 _ rfl) rfl (dTn (cx.an 9)).1 (by rfl) (At.of_ownN (cx.row (dTn (cx.an 9)).2 rfl)) (by simp[edC,Value.oneCell']) (by simp only[maxLen];omega) (by omega) rfl rfl rfl (by omega) (dw _ _) (fun d g X' hs hb hv hx=>?_)
   exact⟨hv,hx⟩
   refine svA fun f b W X cx=>?_
   exact aw (n:=1) rfl (cx.an 11) (dTn (cx.an 10)).1 (by kernel_rfl) (by kernel_rfl) (by kernel_rfl) cx (cx.init 18 _ rfl) rfl (nle rfl) (by kernel_rfl) rfl rfl rfl (fun d g X' hs hb hx=>by rw[hb 171];exact hx)
   intro d b X y3 hD dN fr ag
   simp only[exq 19 ((dTn (hD 9 lq)).2),exq 20 ((dTn (hD 10 lq)).2),exq 21 ((dTn (hD 12 lq)))] at dN
   simp only[ed 170 ((dTn (hD 9 lq)).1),ed 171 ((dTn (hD 10 lq)).1)] at ag
   generalize pb' (b 170)=NU,sA (b 171)=zb,sC (b 171)=zd at dN ag
   clear hD;subst ag;clear d b X
   refine aa (wp_seq (sqr ?_))
   refine dz 19 3 dN ?_
   refine aD (n:=3) 0 #[.slice zb 4 zd,vi (((ao ps root 0)).getD i 0),vi nd.right] dN fun E9 gF=>?_
   refine aa (wp_ret (aq (af (af (aq (aq (af (af (aq (aq (af (af (aq (af ?_))))))))))))))
   refine bpr (.agg #[.slice zb 4 zd,vi (((ao ps root 0)).getD i 0),vi nd.right]) (aJ (n:=3) Tryz.results42 rfl (by kernel_rfl) (by kernel_rfl) (gF.blk 0 rfl) rfl) ?_
   have hled_:iN (bo ps root 1) ((ao ps root 0).getD i 0) nd.right=some (k,j):=ye (by omega) hno (by rw[hmg_];have h_:=xA;simpa using h_) (by rw[hmg_];show j+1<md.es.length;omega) (by rw[hmg_];exact hnj) (by rw[hmg_,gN];exact mp)
   have hun_:=BL hall hni (pC jF hled_)
   rw[hmg_,DW (by omega) hli] at hun_
   exact vV (by rw[oI,hun_];unfold unE;dsimp only;rw[hmdl]<;>rfl) rfl (gF.pick [18] (by decide) rfl)
   refine wp_skip (aa (wp_seq (sqr (sqp [.k 160 (.pointer (some ⟨jU,1,none⟩))] ?_))))
   refine aD (n:=1) 6 #[.bool true,.bool true,vi nd.lv,vi nd.right,.string nd.high,.slice EA31_17 nd.es.length cEA31_17,.slice SA31_17 nd.es.length cSA31_17,.slice KA31_17 nd.es.length cKA31_17] c8 fun y5 dv=>?_
   refine aa (wp_seq (ak [0,1,0,0,12,28,0,64,252,508,1023,2047,4095] [[],[13],[],[],[1],[1],[6],[],[],[],[14,12],[],[13]] [[],[],[],[],[],[],[],[],[],[14],[15],[],[16]] [[],[],[],[],[],[],[],[],[],[],[12],[],[13]] [.k 161 (vp fJ),.c 162 (.slice y9 2 za),.k 163 (.slice dD ((ao ps root 0).length) fY),.k 164 (vi ((i:Int))),.c 165 (.pointer (some ((ad dD).add i))),.c 166 (vi (((ao ps root 0)).getD i 0)),.c 167 (.agg #[.bool true,.bool true,vi nd.lv,vi nd.right,.string nd.high,.slice EA31_17 nd.es.length cEA31_17,.slice SA31_17 nd.es.length cSA31_17,.slice KA31_17 nd.es.length cKA31_17]),.c 168 (.string (hdB nd.lv nd.right true nd.high)),.k 169 (.agg #[vi (((ao ps root 0)).getD i 0),vi 0,.string (hdB nd.lv nd.right true nd.high)]),.a 170,.a 171,.k 172 (vp fJ),.n] (fun ix d b X=>match ix with|0|1|2|3|4|5|6|7|8=>True|9=>d 170= .slice ((some ⟨(pb' (b 170)),0,none⟩)) 1 1/\X 14=eO 67 3 (.slice ((some ⟨(pb' (b 170)),0,none⟩)) 1 1) 1 (edC (((ao ps root 0)).getD i 0,0,hdB nd.lv nd.right true nd.high))|10=>d 171= .slice (sA (b 171)) 3 (sC (b 171))/\X 15=eO 67 3 (.slice (sA (b 171)) 3 (sC (b 171))) 3 ((([(((ao ps root 1)).getD k 0,((md.es.getD j en0).2.1:Int),itB 1 nd.right ((md.es.getD j en0).1)),(((ao ps root 1)).getD k 0,((md.es.getD (j+1) en0).2.1:Int),ByteArray.empty)]:List EdT)++[(((ao ps root 0)).getD i 0,0,hdB nd.lv nd.right true nd.high)]).flatMap edC)|11=>True|12=>X 16=eB fJ 108 #[.slice (sA (b 171)) 3 (sC (b 171)),vi (((ao ps root 0)).getD i 0),vi nd.right]|_=>True) [0,1,2,3,4,5,6,7,8,9,10,11,14,15,16] [1,4,5,6,7,9,10,12] [(161,0,12,173)] dv ?_ ?_ ?_))
   exact fun ix _ _ _ _ _ _ hs hb hx h=>match ix,h with
   |9,h=>by dsimp only;rw[<-hs 170 rfl,<-hb 170 rfl,<-hx 14 rfl];exact h
   |10,h=>by dsimp only;rw[<-hs 171 rfl,<-hb 171 rfl,<-hx 15 rfl];exact h
   |12,h=>by dsimp only;rw[<-hb 171 rfl,<-hx 16 rfl];exact h
   |0,_|1,_|2,_|3,_|4,_|5,_|6,_|7,_|8,_|11,_|_+13,_=>trivial
   refine⟨?_,?_,?_,?_,?_,?_,?_,?_,trivial⟩
   exact xs4 rfl id fun cx=>ae rfl (by kernel_rfl) (cx.an 0) ((cx.bi 13 rfl).cell 0)
   exact xs4 rfl id fun cx=>ay (e:=3) (m:=i) rfl (by kernel_rfl) (by kernel_rfl) (cx.an 2) (cx.an 3) (by omega) (by omega) (At.of_own (cx.ri 1 rfl)) (by rw[List.length_map]<;>omega)
   exact xs4 rfl id fun cx=>ae rfl (by kernel_rfl) (cx.an 4) (At.cellAd (At.of_own (cx.ri 1 rfl)) (bX (by omega)))
   exact xs4 rfl id fun cx=>aV (n:=8) rfl (by kernel_rfl) (by kernel_rfl) (cx.ou 8) (cx.bi 6 rfl) (nle rfl) rfl
   exact xsc rfl id rfl rfl fun cx=>⟨_,ij nd.lv nd.right nd.high true true _ _ _ _ _ _ _ _ _ _ (by omega) (by omega) (by first|omega|decide),(bp (cx.an 6))⟩
   refine svA fun f b W X cx=>?_
   have Az:f (.tmp 169)= .agg #[vi (((ao ps root 0)).getD i 0),vi 0,.string (hdB nd.lv nd.right true nd.high)]:=(cx.an 8)
   exact bS (e:=67) (sz:=3) (xs:=[vi (((ao ps root 0)).getD i 0),vi 0,.string (hdB nd.lv nd.right true nd.high)]) rfl (by simp[go_sem,Az]) rfl (by decide) rfl rfl (fun _ _ _ _ _=> .intro)
   refine svA fun f b W X cx=>?_
   obtain⟨i0,hi0,hz0,hz1,hz2⟩:=info_parts Tryz.infoEdit
   refine bN (n:=2) (m:=1) (nm:=3) (sz:=3) (xs:=([(((ao ps root 1)).getD k 0,((md.es.getD j en0).2.1:Int),itB 1 nd.right ((md.es.getD j en0).1)),(((ao ps root 1)).getD k 0,((md.es.getD (j+1) en0).2.1:Int),ByteArray.empty)]:List EdT).flatMap edC) (news:=edC (((ao ps root 0)).getD i 0,0,hdB nd.lv nd.right true nd.high)) (xs':=(([(((ao ps root 1)).getD k 0,((md.es.getD j en0).2.1:Int),itB 1 nd.right ((md.es.getD j en0).1)),(((ao ps root 1)).getD k 0,((md.es.getD (j+1) en0).2.1:Int),ByteArray.empty)]:List EdT)++[(((ao ps root 0)).getD i 0,0,hdB nd.lv nd.right true nd.high)]).flatMap edC) rfl (ty:=28) rfl (by kernel_rfl) hi0 hz0 hz1 hz2 rfl (by decide) (cx.an 1) cx (cx.init 12 _ rfl) rfl (dTn (cx.an 9)).1 (by rfl) (At.of_ownN (cx.row (dTn (cx.an 9)).2 rfl)) (by simp[edC,Value.oneCell']) (by simp only[maxLen];omega) (by omega) rfl rfl rfl (by omega) (dw _ _) (fun d g X' hs hb hv hx=>?_)
   exact⟨hv,hx⟩
   refine svA fun f b W X cx=>?_
   exact aw (n:=1) rfl (cx.an 11) (dTn (cx.an 10)).1 (by kernel_rfl) (by kernel_rfl) (by kernel_rfl) cx (cx.init 13 _ rfl) rfl (nle rfl) (by kernel_rfl) rfl rfl rfl (fun d g X' hs hb hx=>by rw[hb 171];exact hx)
   intro d b X PB hD jV fr ag
   simp only[exq 14 ((dTn (hD 9 lq)).2),exq 15 ((dTn (hD 10 lq)).2),exq 16 ((dTn (hD 12 lq)))] at jV
   simp only[ed 170 ((dTn (hD 9 lq)).1),ed 171 ((dTn (hD 10 lq)).1)] at ag
   generalize pb' (b 170)=NV,sA (b 171)=ze,sC (b 171)=zf at jV ag
   clear hD;subst ag;clear d b X
   refine aa (wp_seq (sqr ?_))
   refine dz 14 3 jV ?_
   refine aD (n:=3) 0 #[.slice ze 3 zf,vi (((ao ps root 0)).getD i 0),vi nd.right] jV fun Jh gI=>?_
   refine aa (wp_ret (aq (af (af (aq (aq (af (af (aq (aq (af (af (aq (af ?_))))))))))))))
   refine bpr (.agg #[.slice ze 3 zf,vi (((ao ps root 0)).getD i 0),vi nd.right]) (aJ (n:=3) Tryz.results42 rfl (by kernel_rfl) (by kernel_rfl) (gI.blk 0 rfl) rfl) ?_
   have hled_:iN (bo ps root 1) ((ao ps root 0).getD i 0) nd.right=some (k,j):=ye (by omega) hno (by rw[hmg_];have h_:=xA;simpa using h_) (by rw[hmg_];show j+1<md.es.length;omega) (by rw[hmg_];exact hnj) (by rw[hmg_,gN];exact mp)
   have hun_:=BL hall hni (pC jF hled_)
   rw[hmg_,show ahd none ((bo ps root 0).take i)=none by rw[show i=0 by omega];rfl] at hun_
   exact vV (by rw[oI,hun_];unfold unE;dsimp only;rw[hmdl]<;>rfl) rfl (gI.pick [13] (by decide) rfl)
   have vc:=mp
   simp only[zB] at vc
   refine wp_skip (ax (aa (sqr (sqp [.m 71 11,sI 72 ((j:Int)+1) (by omega),.m 11 72] ?_))))
   refine aa ?_
   refine⟨md.es.length-((j+1)),by omega,?_⟩
   exact⟨(j+1),by omega,pI hnj (show gN md.es ((ao ps root 0).getD i 0) nd.right j=false from by rw[gN];exact mp),rfl,(by kernel_rfl),Fq.pk [0,1,2,3,4,5,6,7,8,9,10]⟩
   have i9:=gV
   simp only[zB] at i9
   refine wp_exit (aj (aj (aO (ax (aa (sqr (sqp [.m 52 9,sI 53 ((k:Int)+1) (by omega),.m 9 53] ?_)))))))
   refine aa ?_
   have hend_:¬((j:Int)+1<(md.es.length:Int))\/md.dead=true:=by have h_:=gV;simp only[zB] at h_;simpa using h_
   refine⟨(ao ps root 1).length-((k+1)),by omega,?_⟩
   exact⟨(k+1),by omega,pI hno (by rw[hmg_];exact yP hnj hend_),rfl,(by kernel_rfl),fB.pk [0,1,2,3,4,5,6]⟩
  refine wp_exit (aj (aj (aO (ax (aa (sqr (sqp [.m 24 7,sI 25 ((i:Int)+1) (by omega),.m 7 25] ?_)))))))
  refine aa ?_
  refine⟨(ao ps root 0).length-((i+1)),by omega,?_⟩
  exact⟨(i+1),by omega,ut hall hni (yN (Gf fun q hq=>hno q (by omega))),rfl,(by kernel_rfl),c7.pk [0,1,2]⟩
 refine wp_exit (aj (aj (aO (aa (wp_seq (sqr (sqp [.k 174 (.agg #[.slice none 0 0,vi (-1),vi (-1)])] ?_)))))))
 refine aD (n:=3) 0 #[.slice none 0 0,vi (-1),vi (-1)] bY fun E4 eN=>?_
 refine aa (wp_ret ?_)
 refine bpr (.agg #[.slice none 0 0,vi (-1),vi (-1)]) (aJ (n:=3) Tryz.results42 rfl (by kernel_rfl) (by kernel_rfl) (eN.blk 0 rfl) rfl) ?_
 have hn95:=bT eN 67 3
 simp only[List.cons_append,List.nil_append] at hn95
 exact vV (O:=[]) (by rw[oI,F0 hall (by omega)]) rfl (hn95.pick [3] (by decide) rfl)
end
section
open Go.RowKit
theorem gz{b:Nat}{ps:List PgS}{w:World}(h:fZ w b ps)(hl:ps.length<=1000):PgsOk w 24 (.pointer (some ⟨b,0,none⟩)) ps:=
 ⟨⟨71,_,fun W=>by kernel_rfl,by kernel_rfl,fun x=>uH b ps x w h hl⟩⟩
theorem Dx{b bk:Nat}{ps:List PgS}{p:PuT}{fresh:Int}{fp:List Nat}{w:World}(h:(ePk b p fp).holds w)(hB:BkU fp w bk ps)(hne:p.left≠[])(hok:OkS ps)(hoc:OkC ps)(h10:p.left.length<=10000)(hte:∀t∈p.left,t.1.size<=900000/\0<=t.2.1/\t.2.1<=90000)(h8:∀nd,av ps p.pos=some nd->nd.es.length<8):
  Calls Tryz.prog 21 #[.pointer (some ⟨b,0,none⟩),.iface 24 (.pointer (some ⟨bk,0,none⟩)),.int .i64 fresh] w (rW b (bg ps p fresh) fp w):=by
 obtain⟨A,c,g,hfp,hbg,hc,hAg,hlt,hb,hA⟩:=h
 obtain⟨root,pos,leaf,left,fro,to,spl⟩:=p
 cases left with
 |nil=>exact absurd rfl hne
 |cons t lf=>
  obtain⟨te,tl,tk⟩:=t
  obtain⟨la,rfl,_,_⟩:=hA 0 (.string te) rfl
  have hg:=hAg la rfl (by simp)
  have ht:=hte (te,tl,tk) (by simp)
  obtain⟨LA,lcc,Ps,h1,h2⟩:=hB
  refine FU b _ _ root pos leaf fro to spl la _ c te tl tk lf ps fresh fp g w hb (fun W hW=>?_) rfl hc h10 (fun W hW=>gz ⟨LA,lcc,Ps,h1,h2 W (hW.mono fun k _ hk=>by rw[hfp,List.mem_singleton.1 hk];simp)⟩ hok.len) hok hoc hfp hbg hlt hg ht.1 ht.2 h8
  refine eC hA fun ad e _=>?_
  rw[<-Option.some.inj e]
  exact hW.block _ (hlt _ hg) (fun hm=>hbg (by rw[List.mem_singleton] at hm;exact hm ▸ hg))
theorem GJ{b:Nat}{p:PuT}{fp:List Nat}{w:World}(h:(ePk b p fp).holds w)(h0:p.left=[]):Calls Tryz.prog 20 #[.pointer (some ⟨b,0,none⟩)] w (Ret (.bool true) w):=by
 have h1:=Da h
 rw[h0] at h1
 exact h1
def oJ:List PgS:=doB (dE 4) (dW 3)
def vP:ByteArray:=⟨#[97,98]⟩
def zT:ByteArray:=⟨#[97,98,0,1,0,2]⟩
theorem tU:oJ=[(2,0,[⟨#[0,0,0,0]⟩]),(0,0,[]),(0,0,[]),(2,0,[⟨#[0,0,0,0]⟩])]:=by kernel_rfl
theorem tD:OkS oJ:=by
 rw[tU]
 refine⟨by decide,fun p hp=>?_,fun p hp s hs=>?_⟩
 simp only[List.mem_cons,List.not_mem_nil,or_false] at hp
 rcases hp with rfl|rfl|rfl|rfl<;>decide
 simp only[List.mem_cons,List.not_mem_nil,or_false] at hp
 rcases hp with rfl|rfl|rfl|rfl<;>simp at hs<;>subst hs<;>decide
theorem AX:OkC oJ:=by
 rw[tU]
 intro p hp
 simp only[List.mem_cons,List.not_mem_nil,or_false] at hp
 rcases hp with rfl|rfl|rfl|rfl<;>decide
def Mb:NoD:=⟨0,-1,⟨#[]⟩,false,[],1⟩
theorem sanB_nd:av oJ 3=some Mb:=by kernel_rfl
def Dp:PuT:=⟨3,3,3,[],0,0,false⟩
theorem Dc:bg oJ (gR 3 vP 1 2) (-1)=(Dp,⟨[(3,1,zT)],false,0⟩):=by kernel_rfl
theorem HS:d7 oJ 3=0:=by rw[tU];kernel_rfl
theorem FP{v v':Value}{f:FuncId}{args:Array Value}{w:World}(h:v=v')(hc:Calls Tryz.prog f args w (Ret v w)):Calls Tryz.prog f args w (Ret v' w):=h ▸ hc
theorem Kr{P:Program}{f:FuncId}{args:Array Value}{w:World}{b:Nat}{fp:List Nat}{R R':PuT×GoT}(hR:R=R')(hc:Calls P f args w (rW b R fp w)):Calls P f args w (rW b R' fp w):=hR ▸ hc
theorem uX{w:World}{A:Option Addr}{xs ys:List Value}(h:At w A xs)(e:xs=ys):At w A ys:=e ▸ h
theorem wC(w:World):
  Calls Tryz.prog 5 #[] w (Ret (.bool true) w):=by
 go_enter Tryz.func5,Tryz.ntmps5
 have ar:=St.start w
 refine wp_seq (sqr (sqp [.k 0 (.bool false)] ?_))
 refine aa (wp_seq (sqr ?_))
 refine sh (fun cN=>vp cN) (fun cN qT=>eBk cN (dE 4) qT) ar (fun cx=>⟨_,(se 4 _ (by decide)).mono (by rintro e W1 ⟨B4,fp4,rfl,aM⟩;exact⟨_,_,rfl,aM⟩),(bp (cx.co _))⟩) fun cN qT W2 aN=>?_
 refine sqp [.m 1 9] ?_
 refine aa (wp_seq (ak [0,0,2,6,0,16,48,126,255,511] [[],[],[2],[],[],[3],[],[],[1,4]] [[1],[2],[],[],[3],[],[],[4]] [] [.a 10,.a 11,.c 12 (.string (strOfNums ([2]))),.k 13 (.agg #[vi 3,vi (-1),.string (strOfNums ([2]))]),.a 14,.c 15 (.string (strOfNums ([0,0,0,0]))),.k 16 (.agg #[vi 3,vi 0,.string (strOfNums ([0,0,0,0]))]),.a 17,.c 18 (.bool true),.k 2 (.bool true)] (fun ix f b X=>match ix with|0=>f 10= .slice (sA (b 10)) 2 (sC (b 10))/\X 1=eO 67 3 (.slice (sA (b 10)) 2 (sC (b 10))) 2 ((dW 3).flatMap edC)|1=>f 11= .slice (sA (b 11)) 1 1/\X 2=eO 5 1 (.slice (sA (b 11)) 1 1) 1 ([.int .u8 2])|2|3=>True|4=>f 14= .slice (sA (b 14)) 4 4/\X 3=eO 5 1 (.slice (sA (b 14)) 4 4) 4 ([.int .u8 0,.int .u8 0,.int .u8 0,.int .u8 0])|5|6=>True|7=>f 17= .slice ((some ⟨(pb' (b 17)),0,none⟩)) 2 2/\X 4=eO 67 3 (.slice ((some ⟨(pb' (b 17)),0,none⟩)) 2 2) 2 ([vi 3,vi (-1),.string (strOfNums ([2])),vi 3,vi 0,.string (strOfNums ([0,0,0,0]))])|_=>True) [0,1,2,3,4] [0,1,2,4,5,7,8] [(2,9,1,3),(7,0,9,16)] aN ?_ ?_ ?_))
 exact fun ix _ _ _ _ _ _ hs hb hx h=>match ix,h with
 |0,h=>by dsimp only;rw[<-hs 10 rfl,<-hb 10 rfl,<-hx 1 rfl];exact h
 |1,h=>by dsimp only;rw[<-hs 11 rfl,<-hb 11 rfl,<-hx 2 rfl];exact h
 |4,h=>by dsimp only;rw[<-hs 14 rfl,<-hb 14 rfl,<-hx 3 rfl];exact h
 |7,h=>by dsimp only;rw[<-hs 17 rfl,<-hb 17 rfl,<-hx 4 rfl];exact h
 |2,_|3,_|5,_|6,_|_+8,_=>trivial
 refine⟨?_,?_,?_,?_,?_,?_,?_,trivial⟩
 refine svA fun d b W X cx=>?_
 refine aC.call (aB (args:=#[vi 3]) rfl cx.sees rfl (by kernel_rfl) (bp (cx.co _))) ?_
 refine(rX 3 _).mono ?_
 rintro e W1 ⟨A4,c4,rfl,ho_,hx⟩
 refine⟨_,rfl,d3 [eO 67 3 (.slice A4 2 c4) 2 ((dW 3).flatMap edC)] rfl rfl hx (yY (j9 (n:=2) (xs:=(dW 3).flatMap edC) ho_)) (List.pairwise_singleton _ _) (fun f g X' hs hb hv hN=>?_)⟩
 have aW:=(hv 10 rfl).1;have aG:=(hv 10 rfl).2
 exact⟨aW.trans (by rw[aG];rfl),(by rw[aG];exact(List.cons.inj hN).1)⟩
 refine svA fun d b W X cx=>?_
 exact bV (e:=5) (xs:=[.int .u8 2]) rfl (by simp[go_sem,cx.sees.const]) rfl (by decide) rfl rfl (fun _ _ _ _ _=> .intro)
 exact xs4 rfl id fun cx=>ca (e:=5) rfl (by kernel_rfl) (by kernel_rfl) (by kernel_rfl) (dTn (cx.an 1)).1 (cx.row (dTn (cx.an 1)).2 rfl)
 refine svA fun d b W X cx=>?_
 exact bV (e:=5) (xs:=[.int .u8 0,.int .u8 0,.int .u8 0,.int .u8 0]) rfl (by simp[go_sem,cx.sees.const]) rfl (by decide) rfl rfl (fun _ _ _ _ _=> .intro)
 exact xs4 rfl id fun cx=>ca (e:=5) rfl (by kernel_rfl) (by kernel_rfl) (by kernel_rfl) (dTn (cx.an 4)).1 (cx.row (dTn (cx.an 4)).2 rfl)
 refine svA fun d b W X cx=>?_
 have qS:d (.tmp 13)= .agg #[vi 3,vi (-1),.string (strOfNums ([2]))]:=(cx.an 3)
 have Nt:d (.tmp 16)= .agg #[vi 3,vi 0,.string (strOfNums ([0,0,0,0]))]:=(cx.an 6)
 exact bS (e:=67) (sz:=3) (xs:=[vi 3,vi (-1),.string (strOfNums ([2])),vi 3,vi 0,.string (strOfNums ([0,0,0,0]))]) rfl (by simp[go_sem,qS,Nt]) rfl (by decide) rfl rfl (fun _ _ _ _ _=> .intro)
 exact xsc rfl id rfl rfl fun cx=>⟨_,lx _ _ _ _ (dW 3) _ (uX (At.of_ownN (cx.row (dTn (cx.an 0)).2 rfl)) (by kernel_rfl)) (uX (At.of_ownN (cx.row (dTn (cx.an 7)).2 rfl)) (by kernel_rfl)) (by decide),(aI (dTn (cx.an 0)).1 (dTn (cx.an 7)).1)⟩
 intro f b X W4 hD bR fr ag
 simp only[exq 1 ((dTn (hD 0 lq)).2),exq 2 ((dTn (hD 1 lq)).2),exq 3 ((dTn (hD 4 lq)).2),exq 4 ((dTn (hD 7 lq)).2)] at bR
 simp only[ed 10 ((dTn (hD 0 lq)).1),ed 11 ((dTn (hD 1 lq)).1),ed 14 ((dTn (hD 4 lq)).1),ed 17 ((dTn (hD 7 lq)).1)] at ag
 generalize sA (b 10)=PS,sC (b 10)=PT,sA (b 11)=PU,sA (b 14)=PV,pb' (b 17)=PW at bR ag
 clear hD;subst ag;clear f b X
 refine aa (wp_seq (sqr (sqp [.m 19 1] ?_)))
 refine ff (fun s6 s7=> .slice s6 2 s7) (fun s6 s7=>eO 67 3 (.slice s6 2 s7) 2 ((dW 3).flatMap edC)) bR (fun cx=>⟨_,(rX 3 _).mono (by rintro e W1 ⟨A4,c4,rfl,ho_,hx⟩;exact⟨_,_,rfl,St.one hx (j9 (n:=2) (xs:=(dW 3).flatMap edC) ho_)⟩),(bp (cx.co _))⟩) fun s6 s7 W6 cM=>?_
 refine ry (fun X_=>X_.fp) (.tuple #[]) (fun Ko=>eBk cN (doB (dE 4) (dW 3)) Ko) 0 cM (by
   refine svA fun d b W X cx=>?_
   refine aC.call (aB (args:=#[vp cN,.slice s6 2 s7]) rfl cx.sees rfl (by kernel_rfl) (aI (cx.ou 19) (cx.ou 20))) ?_
   refine(mx cN (dE 4) _ 4 _ _ (dW 3) _ (CtxV.holdF cx (cx.init 0 _ rfl) rfl) (CtxV.ltF cx (cx.init 0 _ rfl) rfl) (CtxV.keepAt cx (cx.init 5 _ rfl) (cx.init 0 _ rfl) rfl rfl (by decide)) (by decide) (iq 4).2 (by decide) (iq 4).1.its).mono ?_
   rintro e W1 ⟨rfl,fp4,aM⟩
   refine⟨_,rfl,bJ (E:=eBk cN (dE 4) qT) [eBk cN (doB (dE 4) (dW 3)) fp4] (cx.init 0 _ rfl) rfl rfl aM (fun f g X' hs hb hv hN=>?_)⟩
   have aW:=(hv 21 rfl).1;have aG:=(hv 21 rfl).2
   exact⟨aW.trans rfl,kO ((List.cons.inj hN).1)⟩) fun Ko W7 bD=>?_
 refine aa (wp_seq ?_)
 have hsb_:doB (dE 4) (dW 3)=oJ:=rfl
 rw[hsb_] at bD
 refine sqr (sqp [.k 22 (.agg #[vi 1,vi 2])] ?_)
 refine sh (fun jW=>vp jW) (fun jW EH=>ePk jW (gR 3 (⟨#[97,98]⟩:ByteArray) 1 2) EH) bD (fun cx=>⟨_,(zk 3 (⟨#[97,98]⟩:ByteArray) 1 2 _ (by decide)).mono (by rintro e W1 ⟨B4,fp4,rfl,aM⟩;exact⟨_,_,rfl,aM⟩),(dH (cx.co _) (cx.co _) (cx.ou 22))⟩) fun jW EH W9 be=>?_
 refine sqp [.m 3 23] ?_
 refine aa (wp_seq (wp_seq (sqr (sqp [.m 24 3] ?_))))
 refine sqv (.bool false) be (by
   exact sv0 rfl rfl rfl rfl rfl (fun _ _ _ h=>h) fun d b W X cx=>by
    have Ei:d (.tmp 24)=vp jW:=(cx.ou 24)
    simp[go_sem,cx.sees.const,Ei]) fun mH bU=>?_
 refine aa (wcf rfl (wp_skip (aa (wp_seq (ak [0,0,2,7,15,31,31,31,63,383,1023] [[],[],[],[6,0]] [[],[],[],[7,8]] [[],[],[],[6]] [.k 27 (vp jW),.k 28 (vp cN),.c 29 (.iface 24 (vp cN)),.a 30,.a 26,.a 31,.c 32 (.bool false),.c 33 (vi 0),.a 4,.k 5 (.bool false),.k 6 (vi 0)] (fun ix f b X=>match ix with|0|1|2=>True|3=>f 30= .tuple #[.slice (sA (tg (b 30) 0)) 1 (sC (tg (b 30) 0)),.bool false,vi 0]/\X 7=ePk jW Dp ((X 7).fp)/\X 8=eO 67 3 (.slice (sA (tg (b 30) 0)) 1 (sC (tg (b 30) 0))) 1 ([(3,1,zT)].flatMap edC)|4=>f 26= .tuple #[.slice (sA (tg (b 30) 0)) 1 (sC (tg (b 30) 0)),.bool false,vi 0]|5=>f 31= .slice (sA (tg (b 30) 0)) 1 (sC (tg (b 30) 0))|6|7=>True|8=>f 4= .slice (sA (tg (b 30) 0)) 1 (sC (tg (b 30) 0))|_=>True) [0,1,2,3,4,5,7,8] [2,3,4,5,6,7,8] [(4,8,3,7),(19,4,1,20),(0,0,4,4),(0,5,3,3)] bU ?_ ?_ ?_)))))
 exact fun ix _ _ _ _ _ _ hs hb hx h=>match ix,h with
 |3,h=>by dsimp only;rw[<-hs 30 rfl,<-hb 30 rfl,<-hx 7 rfl,<-hx 8 rfl];exact h
 |4,h=>by dsimp only;rw[<-hs 26 rfl,<-hb 30 rfl];exact h
 |5,h=>by dsimp only;rw[<-hs 31 rfl,<-hb 30 rfl];exact h
 |8,h=>by dsimp only;rw[<-hs 4 rfl,<-hb 30 rfl];exact h
 |0,_|1,_|2,_|6,_|7,_|_+9,_=>trivial
 refine⟨?_,?_,?_,?_,?_,?_,?_,trivial⟩
 exact sv0 rfl rfl rfl rfl rfl (fun _ _ _ h=>h) fun d b W X cx=>by
  have qV:d (.tmp 28)=vp cN:=(cx.an 1)
  simp[go_sem,qV]
 refine svA fun d b W X cx=>?_
 refine aC.call (aB (args:=#[vp jW,.iface 24 (vp cN),vi (-1)]) rfl cx.sees rfl (by kernel_rfl) (dH (cx.an 0) (cx.an 2) (cx.co _))) ?_
 refine(Kr Dc (Dx (fresh:= -1) (CtxV.holdF cx (cx.init 6 _ rfl) rfl) (CtxV.bkU cx (cx.init 0 _ rfl) (cx.init 6 _ rfl) rfl rfl (by decide)) (by decide) tD AX (by decide) (fun t ht=>by rw[gR,List.mem_singleton] at ht;subst ht;decide) (fun nd h=>by have h_:=sanB_nd.symm.trans h;rw[<-Option.some.inj h_];decide))).mono ?_
 rintro e W1 ⟨A4,c4,rfl,fp4,aM⟩
 refine⟨_,rfl,bJ (E:=ePk jW (gR 3 (⟨#[97,98]⟩:ByteArray) 1 2) EH) [ePk jW Dp fp4,eO 67 3 (.slice A4 1 c4) 1 ([(3,1,zT)].flatMap edC)] (cx.init 6 _ rfl) rfl rfl aM (fun f g X' hs hb hv hN=>?_)⟩
 have aW:=(hv 30 rfl).1;have aG:=(hv 30 rfl).2
 exact⟨aW.trans (by rw[aG];rfl),Dj ((List.cons.inj hN).1),(by rw[aG];exact(List.cons.inj (List.cons.inj hN).2).1)⟩
 exact sv rfl rfl rfl rfl rfl _ (fun _ _ _ h=>h) (fun b g h=>by rw[h 30 (by decide)]) fun d b W X cx=>cL rfl (dTn (cx.an 3)).1
 exact sv rfl rfl rfl rfl rfl _ (fun _ _ _ h=>h) (fun b g h=>by rw[h 30 (by decide)]) fun d b W X cx=>aU rfl (dTn (cx.an 4)) rfl
 exact xs4 rfl id fun cx=>aU rfl (dTn (cx.an 4)) rfl
 exact xs4 rfl id fun cx=>aU rfl (dTn (cx.an 4)) rfl
 exact sv rfl rfl rfl rfl rfl _ (fun _ _ _ h=>h) (fun b g h=>by rw[h 30 (by decide)]) fun d b W X cx=>bt rfl (dTn (cx.an 5))
 intro f b X lk hD bH fr ag
 obtain⟨PC,pr⟩:∃z,sA (tg (b 30) 0)=z:=⟨_,rfl⟩
 obtain⟨PD,pt⟩:∃z,sC (tg (b 30) 0)=z:=⟨_,rfl⟩
 have oX:X 7= _:=(dTn (hD 3 lq)).2.1
 obtain⟨PX,xS⟩:∃z,(X 7).fp=z:=⟨_,rfl⟩
 rw[xS] at oX
 clear xS
 simp only[oX,exq 8 ((dTn (hD 3 lq)).2.2),pr,pt] at bH
 simp only[ed 30 ((dTn (hD 3 lq)).1),ed 26 ((dTn (hD 4 lq))),ed 31 ((dTn (hD 5 lq))),ed 4 ((dTn (hD 8 lq))),pr,pt] at ag
 clear hD oX pr pt;subst ag;clear f b X
 refine aa (wp_seq (sqr ?_))
 refine kW (fun x_=>sA x_) (fun s8=> .slice s8 4 4) (fun s8=>eO 5 1 (.slice s8 4 4) 4 ([.int .u8 0,.int .u8 1,.int .u8 0,.int .u8 2])) bH (by
   refine svA fun d b W X cx=>?_
   exact bV (e:=5) (xs:=[.int .u8 0,.int .u8 1,.int .u8 0,.int .u8 2]) rfl (by simp[go_sem,cx.sees.const]) rfl (by decide) rfl rfl (fun _ _ _ _ _=> .intro)) fun s8 kb bm=>?_
 refine sql (.string (strOfNums ([0,1,0,2]))) bm (fun cx=>ca (e:=5) rfl (by kernel_rfl) (by kernel_rfl) (by kernel_rfl) (cx.ou 34) (cx.ri 8 rfl)) ?_
 refine sqp [sS 36 ((⟨#[97,98]⟩:ByteArray)) (strOfNums ([0,1,0,2])) (by rw[strOfNums_size];decide),.m 7 36] ?_
 refine aa (wp_seq (sqr (sqp [.m 37 4,.m 38 7,.k 39 (.agg #[vi 3,vi 1,.string (((⟨#[97,98]⟩:ByteArray))++(strOfNums ([0,1,0,2])))])] ?_)))
 refine ql 67 3 1 [vi 3,vi 1,.string (((⟨#[97,98]⟩:ByteArray))++(strOfNums ([0,1,0,2])))] bm (@fun d b W X cx=>by have EI:d (.tmp 39)= .agg #[vi 3,vi 1,.string (((⟨#[97,98]⟩:ByteArray))++(strOfNums ([0,1,0,2])))]:=(cx.ou 39);simp[go_sem,EI]) fun PE y2 eI=>?_
 refine sqk (.bool true) eI (fun cx=>⟨_,lx _ _ _ _ [(3,1,zT)] _ (uX (At.of_ownN (cx.ri 7 rfl)) (by kernel_rfl)) (uX (At.of_ownN (cx.ri 9 rfl)) (by kernel_rfl)) (by decide),(aI (cx.ou 37) (cx.ou 40))⟩) fun Fl fX=>?_
 refine sqp [.k 8 (.bool true)] ?_
 refine aa (wp_seq (sqr (sqp [.k 42 (.bool true),.k 43 (.bool true)] ?_)))
 refine il 43 [44] rfl rfl ?_
 refine sqp [.k 44 (.bool true)] ?_
 refine sqp [.k 45 (.bool true),.k 46 (.bool true)] ?_
 refine il 46 [47,48] rfl rfl ?_
 refine sqp [.k 47 (.bool false),.k 48 (.bool true)] ?_
 refine sqp [.k 49 (.bool true),.k 50 (.bool true)] ?_
 refine il 50 [51,52] rfl rfl ?_
 refine sqp [.m 51 6,.k 52 (.bool true)] ?_
 refine sqp [.k 53 (.bool true),.k 54 (.bool true)] ?_
 refine il 54 [55,56] rfl rfl ?_
 refine sqp [.m 55 3] ?_
 refine sqk (.bool true) fX (fun cx=>⟨_,GJ (CtxV.holdF cx (cx.init 6 _ rfl) rfl) rfl,(bp (cx.ou 55))⟩) fun Jd ia=>?_
 refine sqp [.k 57 (.bool true),.k 58 (.bool true)] ?_
 refine il 58 [59,60,61] rfl rfl ?_
 refine sqp [.m 59 3] ?_
 refine sqk (vi 3) ia (fun cx=>⟨_,C3 (CtxV.holdF cx (cx.init 6 _ rfl) rfl),(bp (cx.ou 59))⟩) fun y4 dl=>?_
 refine sqp [.k 61 (.bool true)] ?_
 refine sqp [.k 62 (.bool true),.k 63 (.bool true)] ?_
 refine il 63 [64,65,66,67] rfl rfl ?_
 refine sqp [.k 64 (.agg #[vi 1,vi 2])] ?_
 refine sqk (.string ((bz vP 1 2))) dl (fun cx=>⟨_,gD vP 1 2 _ (by decide),(aI (cx.co _) (cx.ou 64))⟩) fun II fB=>?_
 have hd50:(((bz vP 1 2)).toList==(((⟨#[97,98]⟩:ByteArray))++(strOfNums ([0,1,0,2]))).toList)=true:=(by kernel_rfl)
 refine sqp [.m 66 7,.e 67 (.bool (((bz vP 1 2)).toList==(((⟨#[97,98]⟩:ByteArray))++(strOfNums ([0,1,0,2]))).toList)) (.bool true) (congrArg Value.bool hd50)] ?_
 refine sqp [.k 68 (.bool true),.k 69 (.bool true)] ?_
 refine il 69 [70,71,72,73] rfl rfl ?_
 refine sqp [.m 70 1] ?_
 refine sqv (.iface 24 (vp cN)) fB (by
   exact sv0 rfl rfl rfl rfl rfl (fun _ _ _ h=>h) fun d b W X cx=>by
    have Nu:d (.tmp 70)=vp cN:=(cx.ou 70)
    simp[go_sem,Nu]) fun JF fE=>?_
 refine sqk (vi 0) fE (fun cx=>⟨_,FP (by rw[HS]) (vH _ _ 3 oJ _ (gz (mC (CtxV.holdF cx (cx.init 0 _ rfl) rfl)) tD.len) tD AX),(aI (cx.ou 71) (cx.co _))⟩) fun Jf gH=>?_
 refine sqp [.k 73 (.bool true)] ?_
 refine sqp [.k 74 (.bool true),.k 0 (.bool true)] ?_
 refine aa (wp_ret ?_)
 refine bpr (.bool true) (ai Tryz.results5 rpt) ?_
 exact Ret.of rfl gH.ext
end
section
open Go.RowKit
theorem HF{r r':List EnD}{f:FuncId}{args:Array Value}{w:World}(h:r=r')(hc:Calls Tryz.prog f args w (wn r w)):Calls Tryz.prog f args w (wn r' w):=h ▸ hc
theorem H3{r r':List EnD}{f:FuncId}{args:Array Value}{w:World}(h:r=r')(hc:Calls Tryz.prog f args w (rS r w)):Calls Tryz.prog f args w (rS r' w):=h ▸ hc
theorem Ig{r r':List EdT×Int×Int}{f:FuncId}{args:Array Value}{w:World}(h:r=r')(hc:Calls Tryz.prog f args w (ru r w)):Calls Tryz.prog f args w (ru r' w):=h ▸ hc
theorem Hn{r r':List EdT×Int×Int}{f:FuncId}{args:Array Value}{w:World}(h:r=r')(hc:Calls Tryz.prog f args w (rJ r w)):Calls Tryz.prog f args w (rJ r' w):=h ▸ hc
theorem Kx{L:List (Int×NoD)}{f:FuncId}{args:Array Value}{w:World}(hc:Calls Tryz.prog f args w (wY L w)):Calls Tryz.prog f args w (AD (L.map Prod.fst) w):=hc.mono fun e w' ⟨A,c,h1,h2⟩=>⟨A,c,by rw[List.length_map];exact h1,by rw[List.length_map,List.map_map];exact h2⟩
theorem yA{ab:List (Int×NoD)}{root:Int}:∀{ah:Option (Int×NoD)}{l:List (Int×NoD)},(fu ab root ah l).1.length<=4
 |_,[]=>by rw[fu];exact Nat.zero_le _
 |ah,n::l=>by
  rw[fu]
  rcases ev ab root n with _|⟨i,j⟩
  exact yA
  dsimp only
  unfold unE
  cases ah<;>simp
theorem DL{E:List EnD}{k:Nat}(h:k<E.length):(E.map tqS)[k]? =some (.string (qkF (E.getD k en0).1)):=by simp[tqS,h]
theorem Bh(bk:Nat)(root:Int)(ps:List PgS)(w:World)(hB:fZ w bk ps)(hps:ps.length<=1000)(hok:OkS ps)(hoc:OkC ps)(hck:d7 ps root=0)(hEl:(cu ps root).length<=100000)(hent:∀i,i<(cu ps root).length->bz (qkF ((cu ps root).getD i en0).1) (opF ((cu ps root).getD i en0).1) (osF ((cu ps root).getD i en0).1)=((cu ps root).getD i en0).1/\(qkF ((cu ps root).getD i en0).1).size<=1000):
  Calls Tryz.prog 15 #[.pointer (some ⟨bk,0,none⟩),.int .i64 root] w (Ret (.bool true) w):=by
 go_enter Tryz.func15,Tryz.ntmps15
 have ar:=St.start w
 refine wp_seq (sqr (sqp [.k 4 (.bool false)] ?_))
 refine aa (wp_seq ?_)
 obtain⟨E,hE⟩:∃z,cu ps root=z:=⟨_,rfl⟩
 obtain⟨U,hU⟩:∃z,oI ps root=z:=⟨_,rfl⟩
 have hul_:U.1.length<=4:=by rw[<-hU];exact yA
 have hrl_:=wK ps root 0
 rw[hE] at hent hEl
 refine ak [0,1,0,7,15,31,31,63,255] [] [[],[],[],[0,1]] [] [.k 17 (vp bk),.c 18 (.iface 24 (vp bk)),.k 19 (vi root),.a 20,.a 16,.a 21,.a 22,.a 5,.a 6] (fun ix g b X=>match ix with|0|1|2=>True|3=>g 20= .tuple #[.slice (sA (tg (b 20) 0)) E.length (sC (tg (b 20) 0)),.slice (sA (tg (b 20) 1)) E.length (sC (tg (b 20) 1))]/\X 0=eO 9 1 (.slice (sA (tg (b 20) 0)) E.length (sC (tg (b 20) 0))) E.length (E.map tqS)/\X 1=eO 33 2 (.slice (sA (tg (b 20) 1)) E.length (sC (tg (b 20) 1))) E.length (E.flatMap tqR)|4=>g 16= .tuple #[.slice (sA (tg (b 20) 0)) E.length (sC (tg (b 20) 0)),.slice (sA (tg (b 20) 1)) E.length (sC (tg (b 20) 1))]|5=>g 21= .slice (sA (tg (b 20) 0)) E.length (sC (tg (b 20) 0))|6=>g 22= .slice (sA (tg (b 20) 1)) E.length (sC (tg (b 20) 1))|7=>g 5= .slice (sA (tg (b 20) 0)) E.length (sC (tg (b 20) 0))|8=>g 6= .slice (sA (tg (b 20) 1)) E.length (sC (tg (b 20) 1))|_=>True) [0,1] [1,3,4,5,6,7,8] [(5,7,2,7),(9,4,1,10),(0,0,4,4),(0,5,2,2)] ar ?_ ?_ ?_
 exact fun ix _ _ _ _ _ _ hs hb hx h=>match ix,h with
 |3,h=>by dsimp only;rw[<-hs 20 rfl,<-hb 20 rfl,<-hx 0 rfl,<-hx 1 rfl];exact h
 |4,h=>by dsimp only;rw[<-hs 16 rfl,<-hb 20 rfl];exact h
 |5,h=>by dsimp only;rw[<-hs 21 rfl,<-hb 20 rfl];exact h
 |6,h=>by dsimp only;rw[<-hs 22 rfl,<-hb 20 rfl];exact h
 |7,h=>by dsimp only;rw[<-hs 5 rfl,<-hb 20 rfl];exact h
 |8,h=>by dsimp only;rw[<-hs 6 rfl,<-hb 20 rfl];exact h
 |0,_|1,_|2,_|_+9,_=>trivial
 refine⟨?_,?_,?_,?_,?_,?_,?_,trivial⟩
 exact sv0 rfl rfl rfl rfl rfl (fun _ _ _ h=>h) fun d b W X cx=>by
  have Nv:d (.tmp 17)=vp bk:=(cx.an 0)
  simp[go_sem,Nv]
 refine svA fun d b W X cx=>?_
 refine aC.call (aB (args:=#[.iface 24 (vp bk),vi root]) rfl cx.sees rfl (by kernel_rfl) (aI (cx.an 1) (cx.an 2))) ?_
 refine(H3 hE (Ij _ _ root ps _ (gz (hB.ext cx.upd.to_ext) hps) hok hoc)).mono ?_
 rintro e W1 ⟨KA4,kc4,RA4,rc4,rfl,aM⟩
 refine⟨_,rfl,cl [eO 9 1 (.slice KA4 E.length kc4) E.length (E.map tqS),eO 33 2 (.slice RA4 E.length rc4) E.length (E.flatMap tqR)] rfl rfl aM (fun g l X' hs hb hv hN=>?_)⟩
 have aW:=(hv 20 rfl).1;have aG:=(hv 20 rfl).2
 exact⟨aW.trans (by rw[aG];rfl),(by rw[aG];exact(List.cons.inj hN).1),(by rw[aG];exact(List.cons.inj (List.cons.inj hN).2).1)⟩
 exact sv rfl rfl rfl rfl rfl _ (fun _ _ _ h=>h) (fun b l h=>by rw[h 20 (by decide)]) fun d b W X cx=>cL rfl (dTn (cx.an 3)).1
 exact sv rfl rfl rfl rfl rfl _ (fun _ _ _ h=>h) (fun b l h=>by rw[h 20 (by decide)]) fun d b W X cx=>aU rfl (dTn (cx.an 4)) rfl
 exact sv rfl rfl rfl rfl rfl _ (fun _ _ _ h=>h) (fun b l h=>by rw[h 20 (by decide)]) fun d b W X cx=>aU rfl (dTn (cx.an 4)) rfl
 exact sv rfl rfl rfl rfl rfl _ (fun _ _ _ h=>h) (fun b l h=>by rw[h 20 (by decide)]) fun d b W X cx=>bt rfl (dTn (cx.an 5))
 exact sv rfl rfl rfl rfl rfl _ (fun _ _ _ h=>h) (fun b l h=>by rw[h 20 (by decide)]) fun d b W X cx=>bt rfl (dTn (cx.an 6))
 intro g b X W2 hD aN fr ag
 simp only[exq 0 ((dTn (hD 3 lq)).2.1),exq 1 ((dTn (hD 3 lq)).2.2)] at aN
 simp only[ed 20 ((dTn (hD 3 lq)).1),ed 16 ((dTn (hD 4 lq))),ed 21 ((dTn (hD 5 lq))),ed 22 ((dTn (hD 6 lq))),ed 5 ((dTn (hD 7 lq))),ed 6 ((dTn (hD 8 lq)))] at ag
 generalize sA (tg (b 20) 0)=KA20_2,sC (tg (b 20) 0)=cKA20_2,sA (tg (b 20) 1)=RA20_2,sC (tg (b 20) 1)=cRA20_2 at aN ag
 clear hD;subst ag;clear g b X
 refine aa (wp_seq (sqr (sqp [.m 23 0,.m 24 1] ?_)))
 refine ff (fun mc nN=> .slice mc E.length nN) (fun mc nN=>eO 9 1 (.slice mc E.length nN) E.length (E.map stv)) aN (fun cx=>⟨_,(HF hE (Dn bk root ps _ (hB.ext cx.upd.to_ext) hok)).mono (by rintro e W1 ⟨A4,c4,rfl,aM⟩;exact⟨_,_,rfl,aM⟩),(aI (cx.ou 23) (cx.ou 24))⟩) fun mc nN W5 bw=>?_
 refine sqp [.m 7 25] ?_
 refine aa (wp_seq (wp_seq (sqr (sqp [.m 26 5,.k 27 (vi ((E.length:Int))),.m 28 7,.k 29 (vi ((E.length:Int))),.k 30 (.bool ((E.length:Int) != (E.length:Int))),.m 31 30] ?_))))
 refine sqw 31 [32,33,34,35,36] rfl (fun _=>sqp [.m 32 6,.k 33 (vi ((E.length:Int))),.m 34 7,.k 35 (vi ((E.length:Int))),.k 36 (.bool ((E.length:Int) != (E.length:Int)))] sqe) ?_
 refine sqp [sPo 37 ((E.length:Int) != (E.length:Int)) ((E.length:Int) != (E.length:Int)),.m 38 37] ?_
 refine ii 38 [39,40,41,42,43,44,45,46] ?_ bw rfl (fun hq=>?_) fun Fa gG=>?_
 rotate_left
 refine sqp [.m 39 0] ?_
 refine sqv (.iface 24 (vp bk)) bw (by
   exact sv0 rfl rfl rfl rfl rfl (fun _ _ _ h=>h) fun d b W X cx=>by
    have EI:d (.tmp 39)=vp bk:=(cx.ou 39)
    simp[go_sem,EI]) fun y2 eI=>?_
 refine sqp [.m 41 1] ?_
 refine sqk (vi 0) eI (fun cx=>⟨_,vg (by rw[hck]) (vH _ _ root ps _ (gz (hB.ext cx.upd.to_ext) hps) hok hoc),(aI (cx.ou 40) (cx.ou 41))⟩) fun uL cE=>?_
 refine sqp [.m 43 0,.m 44 1] ?_
 refine sqk (vi 0) cE (fun cx=>⟨_,B0 bk root ps _ (hB.ext cx.upd.to_ext) hok hck,(aI (cx.ou 43) (cx.ou 44))⟩) fun Fd fW=>?_
 refine sqp [.k 46 (.bool false)] ?_
 exact sqE fW
 refine bQ ?_
 refine sqp [sPo 47 (((E.length:Int) != (E.length:Int))||((E.length:Int) != (E.length:Int))) false] ?_
 refine aa (wbs (fun gW=>?_) fun gW=>?_)
 have kI:=gW
 simp only[zB] at kI
 refine wp_seq (sqr (sqp [.k 4 (.bool false)] ?_))
 refine aa (wp_ret (af ?_))
 refine bpr (.bool false) (ai Tryz.results15 rpt) ?_
 exfalso
 simp at gW
 have kI:=gW
 simp only[zB] at kI
 obtain⟨⟨Kf,Kg⟩,PF⟩:=kI
 refine wp_skip (aa (wp_seq (wp_seq (sqr (sqp [.k 8 (vi 0)] ?_)))))
 refine aa (wp_block ?_)
 refine aL (fun t_ mz az W=>∃i:Nat,i<=E.length/\mz=E.length-i/\az=⟨(ovr (jv az) [(4,4,1,[]),(3,8,0,[vi ((i:Int))]),(39,48,20,[])] t_).toArray,[]⟩/\St w [] [eO 9 1 (.slice KA20_2 E.length cKA20_2) E.length (E.map tqS),eO 33 2 (.slice RA20_2 E.length cRA20_2) E.length (E.flatMap tqR),eO 9 1 (.slice mc E.length nN) E.length (E.map stv)] W) (E.length-0) ?_ ?_
 exact⟨0,Nat.zero_le _,rfl,(by kernel_rfl),gG.pk [0,1,2]⟩
 rintro RE a33 Fb ⟨i,hi,rfl,hj_,fV⟩
 refine ovz hj_ fun Q5=>?_
 refine wp_seq (wp_seq (sqr (sqp [.m 48 8,.m 49 7,.k 50 (vi ((E.length:Int))),.k 51 (.bool (decide ((i:Int)<(E.length:Int))))] ?_)))
 refine aa (wds (fun nv lQ=>?_) fun nv lQ=>?_)
 refine wp_skip (aa (wp_seq (wp_block (wp_seq ?_))))
 obtain⟨he1_,he2_⟩:=hent i (by omega)
 have hd40:(!((bz (qkF (E.getD i en0).1) (opF (E.getD i en0).1) (osF (E.getD i en0).1)).toList==((E.getD i en0).1).toList))=false:=(by rw[he1_];simp)
 refine br [0,0,3,7,0,0,48,112,255,0,0,1536,3584,8191] [[],[],[0],[0],[],[],[1],[1],[],[],[],[2],[2]] [.k 54 (.slice KA20_2 E.length cKA20_2),.k 55 (vi ((i:Int))),.c 56 (.pointer (some ((ad KA20_2).add i))),.c 57 (.string (qkF (E.getD i en0).1)),.k 58 (.slice RA20_2 E.length cRA20_2),.k 59 (vi ((i:Int))),.c 60 (.pointer (some ((ad RA20_2).add (i*2)))),.c 61 (.agg #[vi (opF (E.getD i en0).1),vi (osF (E.getD i en0).1)]),.c 62 (.string (bz (qkF (E.getD i en0).1) (opF (E.getD i en0).1) (osF (E.getD i en0).1))),.k 63 (.slice mc E.length nN),.k 64 (vi ((i:Int))),.c 65 (.pointer (some ((ad mc).add i))),.c 66 (.string ((E.getD i en0).1)),.e 67 (.bool (!((bz (qkF (E.getD i en0).1) (opF (E.getD i en0).1) (osF (E.getD i en0).1)).toList==((E.getD i en0).1).toList))) (.bool false) (congrArg Value.bool hd40)] [0,1,2] [2,3,6,7,8,11,12] [(54,0,14,68)] fV ?_ fun qk c7=>?_
 refine⟨?_,?_,?_,?_,?_,?_,?_,trivial⟩
 exact xs4 rfl id fun cx=>ay (e:=9) (m:=i) rfl (by kernel_rfl) (by kernel_rfl) (cx.an 0) (cx.an 1) (by omega) (by omega) (At.of_own (cx.ri 0 rfl)) (by rw[List.length_map]<;>omega)
 exact xs4 rfl id fun cx=>ae rfl (by kernel_rfl) (cx.an 2) (At.cellAd (At.of_own (cx.ri 0 rfl)) (DL (by omega)))
 exact xs4 rfl id fun cx=>aH (e:=33) (m:=i) (sz:=2) rfl (by kernel_rfl) (by kernel_rfl) (cx.an 4) (cx.an 5) (by omega) (by omega) (At.of_ownN (cx.ri 1 rfl)) (bq (sz:=2) kL (by decide) (by omega))
 exact xs4 rfl id fun cx=>aZ (f:=tqR) (m:=i) (sz:=2) (off:=0) (n:=2) rfl (by kernel_rfl) (by kernel_rfl) (cx.an 6) rfl kL (At.of_ownN (cx.ri 1 rfl)) (cR (by omega)) (fun k hk=>match k,hk with|0,_=>rfl|1,_=>rfl|k+2,hk=>absurd hk (by omega))
 exact xsc rfl id rfl rfl fun cx=>⟨_,gD (qkF (E.getD i en0).1) (opF (E.getD i en0).1) (osF (E.getD i en0).1) _ (by omega),(aI (cx.an 3) (cx.an 7))⟩
 exact xs4 rfl id fun cx=>ay (e:=9) (m:=i) rfl (by kernel_rfl) (by kernel_rfl) (cx.an 9) (cx.an 10) (by omega) (by omega) (At.of_own (cx.ri 2 rfl)) (by rw[List.length_map]<;>omega)
 exact xs4 rfl id fun cx=>ae rfl (by kernel_rfl) (cx.an 11) (At.cellAd (At.of_own (cx.ri 2 rfl)) (eD (by omega)))
 refine aa (wcf rfl (wp_skip (ax (aa (sqr (sqp [.m 52 8,sI 53 ((i:Int)+1) (by omega),.m 8 53] ?_))))))
 refine aa ?_
 refine⟨E.length-((i+1)),by omega,?_⟩
 exact⟨(i+1),by omega,rfl,(by kernel_rfl),c7.pk [0,1,2]⟩
 refine wp_exit (aj (aj (aO (aa (wp_seq (sqr (sqp [.m 68 0] ?_)))))))
 refine sqv (.iface 24 (vp bk)) fV (by
   exact sv0 rfl rfl rfl rfl rfl (fun _ _ _ h=>h) fun d b W X cx=>by
    have Nw:d (.tmp 68)=vp bk:=(cx.ou 68)
    simp[go_sem,Nw]) fun E6 fU=>?_
 refine sqp [.m 70 1] ?_
 refine ff (fun lp mN=> .slice lp ((ao ps root 0).length) mN) (fun lp mN=>eO 3 1 (.slice lp ((ao ps root 0).length) mN) ((ao ps root 0).length) ((ao ps root 0).map (Value.int .i64))) fU (fun cx=>⟨_,(Kx (Ba _ _ root ps _ (gz (hB.ext cx.upd.to_ext) hps) hok hoc)).mono (by rintro e W1 ⟨A4,c4,rfl,aM⟩;exact⟨_,_,rfl,aM⟩),(aI (cx.ou 69) (cx.ou 70))⟩) fun lp mN II fB=>?_
 refine sqp [.m 9 71] ?_
 refine aa (wp_seq (sqr (sqp [.m 72 0,.m 73 1] ?_)))
 refine ff (fun lr mO=> .slice lr ((ao ps root 0).length) mO) (fun lr mO=>eO 3 1 (.slice lr ((ao ps root 0).length) mO) ((ao ps root 0).length) ((ao ps root 0).map (Value.int .i64))) fB (fun cx=>⟨_,(jj bk root 0 ps _ (hB.ext cx.upd.to_ext) hok).mono (by rintro e W1 ⟨A4,c4,rfl,aM⟩;exact⟨_,_,rfl,aM⟩),(dH (cx.ou 72) (cx.ou 73) (cx.co _))⟩) fun lr mO L1 p6=>?_
 refine sqp [.m 10 74] ?_
 refine aa (wp_seq (wp_seq (sqr (sqp [.m 75 9,.k 76 (vi (((ao ps root 0).length:Int))),.m 77 10,.k 78 (vi (((ao ps root 0).length:Int))),.k 79 (.bool (((ao ps root 0).length:Int) != ((ao ps root 0).length:Int)))] ?_))))
 refine aa (wbs (fun AB=>?_) fun AB=>?_)
 have LH:=bne_iff_ne.1 AB
 refine wp_seq (sqr (sqp [.k 4 (.bool false)] ?_))
 refine aa (wp_ret (af ?_))
 refine bpr (.bool false) (ai Tryz.results15 rpt) ?_
 exfalso
 simp at AB
 have LH:=bne_eq_false_iff_eq.1 AB
 refine wp_skip (aa (wp_seq (wp_seq (sqr (sqp [.k 11 (vi 0)] ?_)))))
 refine aa (wp_block ?_)
 refine aL (fun t_ mz az W=>∃j:Nat,j<=(ao ps root 0).length/\mz=(ao ps root 0).length-j/\az=⟨(ovr (jv az) [(4,4,1,[]),(6,11,0,[vi ((j:Int))]),(68,80,15,[])] t_).toArray,[]⟩/\St w [] [eO 9 1 (.slice KA20_2 E.length cKA20_2) E.length (E.map tqS),eO 33 2 (.slice RA20_2 E.length cRA20_2) E.length (E.flatMap tqR),eO 9 1 (.slice mc E.length nN) E.length (E.map stv),eO 3 1 (.slice lp ((ao ps root 0).length) mN) ((ao ps root 0).length) ((ao ps root 0).map (Value.int .i64)),eO 3 1 (.slice lr ((ao ps root 0).length) mO) ((ao ps root 0).length) ((ao ps root 0).map (Value.int .i64))] W) ((ao ps root 0).length-0) ?_ ?_
 exact⟨0,Nat.zero_le _,rfl,(by kernel_rfl),p6.pk [0,1,2,3,4]⟩
 rintro RF a61 LQ ⟨j,hj,rfl,hj_,lX⟩
 refine ovz hj_ fun Q6=>?_
 refine wp_seq (wp_seq (sqr (sqp [.m 80 11,.m 81 9,.k 82 (vi (((ao ps root 0).length:Int))),.k 83 (.bool (decide ((j:Int)<((ao ps root 0).length:Int))))] ?_)))
 refine aa (wds (fun nD LI=>?_) fun nD LI=>?_)
 refine wp_skip (aa (wp_seq (wp_block (wp_seq (br [0,0,3,7,0,0,48,112,255] [[],[],[3],[3],[],[],[4],[4]] [.k 86 (.slice lp ((ao ps root 0).length) mN),.k 87 (vi ((j:Int))),.c 88 (.pointer (some ((ad lp).add j))),.c 89 (vi (((ao ps root 0)).getD j 0)),.k 90 (.slice lr ((ao ps root 0).length) mO),.k 91 (vi ((j:Int))),.c 92 (.pointer (some ((ad lr).add j))),.c 93 (vi (((ao ps root 0)).getD j 0)),.k 94 (.bool ((((ao ps root 0)).getD j 0) != (((ao ps root 0)).getD j 0)))] [0,1,2,3,4] [2,3,6,7] [(86,0,9,95)] lX ?_ fun OT Am=>?_)))))
 refine⟨?_,?_,?_,?_,trivial⟩
 exact xs4 rfl id fun cx=>ay (e:=3) (m:=j) rfl (by kernel_rfl) (by kernel_rfl) (cx.an 0) (cx.an 1) (by omega) (by omega) (At.of_own (cx.ri 3 rfl)) (by rw[List.length_map]<;>omega)
 exact xs4 rfl id fun cx=>ae rfl (by kernel_rfl) (cx.an 2) (At.cellAd (At.of_own (cx.ri 3 rfl)) (bX (by omega)))
 exact xs4 rfl id fun cx=>ay (e:=3) (m:=j) rfl (by kernel_rfl) (by kernel_rfl) (cx.an 4) (cx.an 5) (by omega) (by omega) (At.of_own (cx.ri 4 rfl)) (by rw[List.length_map]<;>omega)
 exact xs4 rfl id fun cx=>ae rfl (by kernel_rfl) (cx.an 6) (At.cellAd (At.of_own (cx.ri 4 rfl)) (bX (by omega)))
 refine aa (wbs (fun iy=>?_) fun iy=>?_)
 have LJ:=bne_iff_ne.1 iy
 refine wp_seq (sqr (sqp [.k 4 (.bool false)] ?_))
 refine aa (wp_ret (aq (af (af (aq (af ?_))))))
 refine bpr (.bool false) (ai Tryz.results15 rpt) ?_
 exfalso
 simp at iy
 have LJ:=bne_eq_false_iff_eq.1 iy
 refine wp_skip (ax (aa (sqr (sqp [.m 84 11,sI 85 ((j:Int)+1) (by omega),.m 11 85] ?_))))
 refine aa ?_
 refine⟨(ao ps root 0).length-((j+1)),by omega,?_⟩
 exact⟨(j+1),by omega,rfl,(by kernel_rfl),Am.pk [0,1,2,3,4]⟩
 refine wp_exit (aj (aj (aO (aa (wp_seq (sqr (sqp [.m 96 0] ?_)))))))
 refine sqv (.iface 24 (vp bk)) lX (by
   exact sv0 rfl rfl rfl rfl rfl (fun _ _ _ h=>h) fun d b W X cx=>by
    have xR:d (.tmp 96)=vp bk:=(cx.ou 96)
    simp[go_sem,xR]) fun Pj Ar=>?_
 refine sqp [.m 98 1] ?_
 refine ff (fun pu pv=> .tuple #[.slice pu U.1.length pv,vi U.2.1,vi U.2.2]) (fun pu pv=>eO 67 3 (.slice pu U.1.length pv) U.1.length (U.1.flatMap edC)) Ar (fun cx=>⟨_,(Ig hU (AP _ _ root ps _ (gz (hB.ext cx.upd.to_ext) hps) hok hoc)).mono (by rintro e W1 ⟨A4,c4,rfl,aM⟩;exact⟨_,_,rfl,aM⟩),(aI (cx.ou 97) (cx.ou 98))⟩) fun pu pv y3 dN=>?_
 refine sqp [.m 95 99,.k 100 (.slice pu U.1.length pv),.k 101 (vi U.2.1),.k 102 (vi U.2.2),.m 12 100,.m 13 101,.m 14 102] ?_
 refine aa (wp_seq (sqr (sqp [.m 103 0,.m 104 1] ?_)))
 refine ff (fun mP mQ=> .agg #[.slice mP U.1.length mQ,vi U.2.1,vi U.2.2]) (fun mP mQ=>eO 67 3 (.slice mP U.1.length mQ) U.1.length (U.1.flatMap edC)) dN (fun cx=>⟨_,(Hn hU (yb bk root ps _ (hB.ext cx.upd.to_ext) hok)).mono (by rintro e W1 ⟨A4,c4,rfl,aM⟩;exact⟨_,_,rfl,aM⟩),(aI (cx.ou 103) (cx.ou 104))⟩) fun mP mQ OJ u3=>?_
 refine bF #[.slice none 0 0,vi 0,vi 0] u3 fun xT RG LK=>?_
 refine aD (n:=3) 7 #[.slice mP U.1.length mQ,vi U.2.1,vi U.2.2] LK fun RH s9=>?_
 refine aa (wp_seq (sqr (sqp [.m 106 13,.k 107 (.pointer (some ⟨xT,1,none⟩))] ?_)))
 refine am 7 s9 ?_
 refine sqp [.k 109 (.bool (U.2.1==U.2.1)),.m 110 109] ?_
 refine cv 110 [111,112,113,114] ?_ rfl (fun hq=>?_) ?_
 rotate_left
 refine sqp [.m 111 14,.k 112 (.pointer (some ⟨xT,2,none⟩))] ?_
 refine am 7 s9 ?_
 refine sqp [.k 114 (.bool (U.2.2==U.2.2))] ?_
 exact sqe
 refine bQ ?_
 refine sqp [sPa 115 (U.2.1==U.2.1) (U.2.2==U.2.2),.m 116 115] ?_
 refine ii 116 [117,118,119,120] ?_ s9 rfl (fun hq=>?_) fun Q7 Kp=>?_
 rotate_left
 have hq_:=hq
 try simp only[zB] at hq_
 refine sqp [.m 117 12,.k 118 (vp xT)] ?_
 refine am 7 s9 ?_
 refine sqk (.bool true) s9 (fun cx=>⟨_,lx _ _ _ _ U.1 _ (At.of_ownN (cx.ri 5 rfl)) (At.of_ownN (cx.ri 6 rfl)) (by omega),(aI (cx.ou 117) (cx.ou 119))⟩) fun MG sB=>?_
 exact sqE sB
 refine bQ ?_
 refine sqp [sPa 121 ((U.2.1==U.2.1)&&(U.2.2==U.2.2)) true,.m 4 121] ?_
 refine aa (wp_ret ?_)
 refine bpr (.bool (((U.2.1==U.2.1)&&(U.2.2==U.2.2))&&true)) (ai Tryz.results15 rpt) ?_
 exact Ret.bool (by simp) Kp.ext
end
section
open Go.RowKit
section
variable{o:Oper}{ρ:Operand->Value}{W:World}
theorem Fw{x y:Operand}{a b c d:Int}{r:Bool}(h:o.op= .binOp .neq 33 x y 33)(hx:ρ x= .agg #[.int .i64 a,.int .i64 b])(hy:ρ y= .agg #[.int .i64 c,.int .i64 d])(hr:(!(a==c&&b==d))=r):
  (execOp ρ o).run Tryz.prog W= .ok (.value (.bool r)) W:=by
 subst hr
 unfold execOp;rw[h]
 simp[go_sem,hx,hy]
 by_cases h1:a=c<;>by_cases h2:b=d<;>simp[h1,h2]
end
end
section
open Go.RowKit
theorem Gu{ps:List PgS}{wk:WkT}{pp:Int}(h:wk.fin=false->pp=wk.pos):∃q,rwN ps ⟨pp,wk.st,wk.fm,wk.fin⟩=(⟨q,(wkN ps wk).1.st,(wkN ps wk).1.fm,(wkN ps wk).1.fin⟩,(wkN ps wk).2)/\((wkN ps wk).1.fin=false->q=(wkN ps wk).1.pos)/\∀n,(wkN ps wk).2= .at n->pp=wk.pos:=by
 obtain⟨h1,⟨h2,h3,h4,h5⟩,h6⟩:=BJ (ps:=ps) (w:=wk) (w':=⟨pp,wk.st,wk.fm,wk.fin⟩) ⟨rfl,rfl,rfl,h⟩
 refine⟨(rwN ps ⟨pp,wk.st,wk.fm,wk.fin⟩).1.pos,?_,h5,h6⟩
 rw[<-h1,<-h2,<-h3,<-h4]
theorem EO{b:Nat}{pos:Int}{R R':WkT×WkR}{f:FuncId}{args:Array Value}{w:World}(hR:R=R')(hc:Calls Tryz.prog f args w (rR b pos R w)):Calls Tryz.prog f args w (rR b pos R' w):=hR ▸ hc
theorem EX{ps:List PgS}{w w1:WkT}{r:WkR}(h:wkN ps w=(w1,r)):w1.st=w.st+1:=by
 obtain⟨pos,st,fm,fin⟩:=w
 by_cases h0:fin=true\/1000<=st+1
 rw[jX h0] at h;cases h;rfl
 rcases hn:av ps pos with _|n
 rw[jx hn] at h;cases h;rfl
 rw[fO h0 hn] at h
 split at h
 cases h;rfl
 split at h<;>cases h<;>rfl
theorem ET{ps:List PgS}{w w1:WkT}{r:WkR}(h:wkN ps w=(w1,r)):w1.fm=w.fm:=by
 obtain⟨pos,st,fm,fin⟩:=w
 by_cases h0:fin=true\/1000<=st+1
 rw[jX h0] at h;cases h;rfl
 rcases hn:av ps pos with _|n
 rw[jx hn] at h;cases h;rfl
 rw[fO h0 hn] at h
 split at h
 cases h;rfl
 split at h<;>cases h<;>rfl
theorem Kt{ps:List PgS}{w w1:WkT}{nd:NoD}(h:wkN ps w=(w1,.at nd)):av ps w.pos=some nd:=by
 obtain⟨pos,st,fm,fin⟩:=w;exact(EN h).1
def HC(b:Nat)(w1:WkT)(mo:Bool)(w:World)(e:Ending)(w':World):Prop:=e= .returned (.tuple #[.int .i64 (-1),.slice none 0 0,.slice none 0 0,.bool mo])/\St w [b] [eB b 81 (wkC w1)] w'
def Hm(b:Nat)(w1:WkT)(mo:Bool)(w:World)(e:Ending)(w':World):Prop:=e= .returned (.agg #[.int .i64 (-1),.slice none 0 0,.slice none 0 0,.bool mo,.bool false,.bool false,.int .i64 0,.int .i64 0,.string ByteArray.empty,.slice none 0 0,.slice none 0 0,.slice none 0 0,.bool false])/\St w [b] [eB b 157 (wkC w1)] w'
theorem Ks{b:Nat}{pos:Int}{w1:WkT}{mo:Bool}{f:FuncId}{args:Array Value}{w:World}(hc:Calls Tryz.prog f args w (rR b pos (w1,bif mo then .on else .off) w)):Calls Tryz.prog f args w (HC b w1 mo w):=by cases mo<;>exact hc
theorem KG{b:Nat}{pos:Int}{w1:WkT}{mo:Bool}{f:FuncId}{args:Array Value}{w:World}(hc:Calls Tryz.prog f args w (r8 b pos (w1,bif mo then .on else .off) w)):Calls Tryz.prog f args w (Hm b w1 mo w):=by cases mo<;>exact hc
theorem zA(root:Int)(key:ByteArray)(w:World)(hk:key.size<=800000):
  Calls Tryz.prog 43 #[.int .i64 root,.string key] w (wR 81 (wkC ⟨root,0,bz key 0 0,false⟩) w):=by
 go_enter Tryz.func43,Tryz.ntmps43
 have ar:=St.start w
 refine wp_seq (sqr (sqp [.k 4 (.pointer none)] ?_))
 refine aa (wp_seq (sqr (sqp [.m 5 0,.m 6 1,.k 7 (.agg #[vi 0,vi 0])] ?_)))
 refine sqk (.string (bz key 0 0)) ar (fun cx=>⟨_,gD key 0 0 _ (by omega),(aI (cx.ou 6) (cx.ou 7))⟩) fun W5 bw=>?_
 refine sqp [.k 9 (.agg #[vi root,vi 0,.string (bz key 0 0),.bool false])] ?_
 refine bZ #[vi root,vi 0,.string (bz key 0 0),.bool false] bw fun l8 W7 bD=>?_
 refine sqp [.m 4 10] ?_
 refine aa (wp_ret ?_)
 refine bpr (vp l8) (ai Tryz.results43 rpt) ?_
 exact⟨_,rfl,bD.pick [0] (by decide) rfl⟩
theorem zI(root:Int)(key:ByteArray)(w:World)(hk:key.size<=800000):
  Calls Tryz.prog 44 #[.int .i64 root,.string key] w (wR 157 (wkC ⟨root,0,bz key 0 0,false⟩) w):=by
 go_enter Tryz.func44,Tryz.ntmps44
 have ar:=St.start w
 refine wp_seq (sqr (sqp [.k 4 (.pointer none)] ?_))
 refine aa (wp_seq (sqr (sqp [.m 5 0,.m 6 1,.k 7 (.agg #[vi 0,vi 0])] ?_)))
 refine sqk (.string (bz key 0 0)) ar (fun cx=>⟨_,nk key 0 0 _ (by omega),(aI (cx.ou 6) (cx.ou 7))⟩) fun W5 bw=>?_
 refine sqp [.k 9 (.agg #[vi root,vi 0,.string (bz key 0 0),.bool false])] ?_
 refine bZ #[vi root,vi 0,.string (bz key 0 0),.bool false] bw fun l8 W7 bD=>?_
 refine sqp [.m 4 10] ?_
 refine aa (wp_ret ?_)
 refine bpr (vp l8) (ai Tryz.results44 rpt) ?_
 exact⟨_,rfl,bD.pick [0] (by decide) rfl⟩
theorem yF{E:List EnD}{k:Nat}(h:k<E.length):(E.map tqS)[k]? =some (.string (qkF (E.getD k en0).1)):=by simp[tqS,h]
theorem rF(bk:Nat)(root:Int)(key:ByteArray)(ps:List PgS)(w:World)(hB:fZ w bk ps)(hps:ps.length<=1000)(hok:OkS ps)(hoc:OkC ps)(hk:key.size<=800000):
  Calls Tryz.prog 16 #[.pointer (some ⟨bk,0,none⟩),.int .i64 root,.string key] w (Ret (.bool true) w):=by
 go_enter Tryz.func16,Tryz.ntmps16
 have ar:=St.start w
 refine wp_seq (sqr (sqp [.k 6 (.bool false)] ?_))
 refine aa (wp_seq (sqr (sqp [.m 16 1,.m 17 2] ?_)))
 refine vF (fun e9=>vp e9) (fun e9=>eB e9 81 #[vi root,vi 0,.string ((bz key 0 0)),.bool false]) ar (fun cx=>⟨_,(zA root key _ hk).mono (by rintro e W1 ⟨B4,rfl,aM⟩;exact⟨_,rfl,aM⟩),(aI (cx.ou 16) (cx.ou 17))⟩) fun e9 W4 bR=>?_
 refine sqp [.m 7 18] ?_
 refine aa (wp_seq (sqr (sqp [.m 19 1,.m 20 2] ?_)))
 refine vF (fun fa=>vp fa) (fun fa=>eB fa 157 #[vi root,vi 0,.string ((bz key 0 0)),.bool false]) bR (fun cx=>⟨_,(zI root key _ hk).mono (by rintro e W1 ⟨B4,rfl,aM⟩;exact⟨_,rfl,aM⟩),(aI (cx.ou 19) (cx.ou 20))⟩) fun fa W8 bj=>?_
 refine sqp [.m 8 21] ?_
 refine aa (wp_seq (wp_seq (sqr (sqp [.k 9 (vi 0)] ?_))))
 refine aa (wp_block ?_)
 refine aL (fun t_ mz az W=>∃i:Nat,∃wk:WkT,∃pp:Int,i<=1003/\(0<=wk.st/\wk.st<=(i:Int))/\wk.fm.size<=900000/\(wk.fin=false->pp=wk.pos)/\mz=1003-i/\az=⟨(ovr (jv az) [(6,6,1,[]),(2,9,0,[vi ((i:Int))]),(0,10,6,[]),(6,22,76,[])] t_).toArray,[]⟩/\St w [] [eB e9 81 #[vi wk.pos,vi wk.st,.string wk.fm,.bool wk.fin],eB fa 157 #[vi pp,vi wk.st,.string wk.fm,.bool wk.fin]] W) (1003-0) ?_ ?_
 exact⟨0,⟨root,0,bz key 0 0,false⟩,root,by omega,⟨Int.le_refl _,Int.le_refl _⟩,by show (bz key 0 0).size<=900000;rw[dx];omega,fun _=>rfl,rfl,(by kernel_rfl),bj.pk [0,1]⟩
 rintro IF a11 oK ⟨i,wk,pp,hi,aP,hfz,hpp,rfl,hj_,bY⟩
 refine ovz hj_ fun Em=>?_
 refine wp_seq (wp_seq (sqr (sqp [.m 22 9,.k 23 (.bool (decide ((i:Int)<1003)))] ?_)))
 refine aa (wds (fun dQ fC=>?_) fun dQ fC=>?_)
 refine wp_skip (aa (wp_seq (wp_block (wp_seq ?_))))
 obtain⟨q,hR2,hq1,hq2⟩:=Gu (ps:=ps) hpp
 rcases hR:wkN ps wk with ⟨w1,r1⟩
 rcases BP r1 with ⟨mo,rfl⟩|⟨nd,rfl⟩
 ·rw[hR] at hR2 hq1 hq2
  have aE:=EX hR
  have hfm1:=ET hR
  refine sqr (sqp [.m 27 7,.m 28 0] ?_)
  refine sqv (.iface 24 (vp bk)) bY (by
    exact sv0 rfl rfl rfl rfl rfl (fun _ _ _ h=>h) fun d b W X cx=>by
     have qV:d (.tmp 28)=vp bk:=(cx.ou 28)
     simp[go_sem,qV]) fun su b6=>?_
  refine jh (.tuple #[vi ((-1)),.slice none 0 0,.slice none 0 0,.bool mo]) (eB e9 81 #[vi w1.pos,vi w1.st,.string w1.fm,.bool w1.fin]) 0 b6 (by
    refine svA fun d b W X cx=>?_
    refine aC.call (aB (args:=#[vp e9,.iface 24 (vp bk)]) rfl cx.sees rfl (by kernel_rfl) (aI (cx.ou 27) (cx.ou 29))) ?_
    refine(Ks (EO hR (rq _ _ _ wk.pos wk.st wk.fm wk.fin ps _ (cx.bi 0 rfl) (fun W hW=>(gz hB hps).ext (CtxV.joinB cx (cx.init 0 _ rfl) rfl hW).to_ext) hok hoc (by omega) hfz))).mono ?_
    rintro e W1 ⟨rfl,aM⟩
    refine⟨_,rfl,bJ (E:=eB e9 81 #[vi wk.pos,vi wk.st,.string wk.fm,.bool wk.fin]) [eB e9 81 #[vi w1.pos,vi w1.st,.string w1.fm,.bool w1.fin]] (cx.init 0 _ rfl) rfl rfl aM (fun g l X' hs hb hv hN=>?_)⟩
    have aW:=(hv 30 rfl).1;have aG:=(hv 30 rfl).2
    exact⟨aW.trans rfl,(List.cons.inj hN).1⟩) fun qi b5=>?_
  refine sqp [.m 26 30,.k 31 (vi ((-1))),.k 32 (.slice none 0 0),.k 33 (.slice none 0 0),.k 34 (.bool mo),.m 10 31,.m 11 32,.m 12 33,.m 13 34] ?_
  refine aa (wp_seq (sqr (sqp [.m 35 8,.m 36 0] ?_)))
  refine jh (.agg #[vi ((-1)),.slice none 0 0,.slice none 0 0,.bool mo,.bool false,.bool false,vi 0,vi 0,.string ByteArray.empty,.slice none 0 0,.slice none 0 0,.slice none 0 0,.bool false]) (eB fa 157 #[vi q,vi w1.st,.string w1.fm,.bool w1.fin]) 1 b5 (by
    refine svA fun d b W X cx=>?_
    refine aC.call (aB (args:=#[vp fa,vp bk]) rfl cx.sees rfl (by kernel_rfl) (aI (cx.ou 35) (cx.ou 36))) ?_
    refine(KG (sb hR2 (iM _ bk pp wk.st wk.fm wk.fin ps _ (cx.bi 1 rfl) (fun W hW=>hB.ext (CtxV.joinB cx (cx.init 1 _ rfl) rfl hW).to_ext) hok (by omega) hfz))).mono ?_
    rintro e W1 ⟨rfl,aM⟩
    refine⟨_,rfl,bJ (E:=eB fa 157 #[vi pp,vi wk.st,.string wk.fm,.bool wk.fin]) [eB fa 157 #[vi q,vi w1.st,.string w1.fm,.bool w1.fin]] (cx.init 1 _ rfl) rfl rfl aM (fun g l X' hs hb hv hN=>?_)⟩
    have aW:=(hv 37 rfl).1;have aG:=(hv 37 rfl).2
    exact⟨aW.trans rfl,(List.cons.inj hN).1⟩) fun LZ l7=>?_
  refine bF #[vi 0,.slice none 0 0,.slice none 0 0,.bool false,.bool false,.bool false,vi 0,vi 0,.string ByteArray.empty,.slice none 0 0,.slice none 0 0,.slice none 0 0,.bool false] l7 fun py Fi gJ=>?_
  refine aD (n:=13) 2 #[vi ((-1)),.slice none 0 0,.slice none 0 0,.bool mo,.bool false,.bool false,vi 0,vi 0,.string ByteArray.empty,.slice none 0 0,.slice none 0 0,.slice none 0 0,.bool false] gJ fun JB eo=>?_
  refine aa (wp_seq (wp_seq (sqr (sqp [.m 38 10,.k 39 (vp py)] ?_))))
  refine am 2 eo ?_
  refine sqp [.k 41 (.bool ((-1) != (-1))),.m 42 41] ?_
  refine ii 42 [43,44,45,46] ?_ eo rfl (fun hq=>?_) fun y4 dl=>?_
  rotate_left
  refine sqp [.m 43 13,.k 44 (.pointer (some ⟨py,3,none⟩))] ?_
  refine am 2 eo ?_
  refine sqv (.bool (!(mo==mo))) eo (by
    exact sv0 rfl rfl rfl rfl rfl (fun _ _ _ h=>h) fun d b W X cx=>by
     have EJ:d (.tmp 43)= .bool mo:=(cx.ou 43)
     have xj:d (.tmp 45)= .bool mo:=(cx.ou 45)
     simp[go_sem,EJ,xj]) fun Ce cZ=>?_
  exact sqE cZ
  refine bQ ?_
  refine sqp [sPo 47 ((-1) != (-1)) (!(mo==mo)),.m 48 47] ?_
  refine cv 48 [49,50,51,52,53,54] ?_ rfl (fun hq=>?_) ?_
  rotate_left
  refine sqp [.m 49 11,.k 50 (vi 0),.k 51 (.pointer (some ⟨py,1,none⟩))] ?_
  refine am 2 dl ?_
  refine sqp [.k 53 (vi 0),.k 54 (.bool false)] ?_
  exact sqe
  refine bQ ?_
  refine sqp [sPo 55 (((-1) != (-1))||(!(mo==mo))) false,.m 56 55] ?_
  refine cv 56 [57,58,59,60,61,62] ?_ rfl (fun hq=>?_) ?_
  rotate_left
  refine sqp [.m 57 12,.k 58 (vi 0),.k 59 (.pointer (some ⟨py,2,none⟩))] ?_
  refine am 2 dl ?_
  refine sqp [.k 61 (vi 0),.k 62 (.bool false)] ?_
  exact sqe
  refine bQ ?_
  refine sqp [sPo 63 ((((-1) != (-1))||(!(mo==mo)))||false) false] ?_
  refine aa (wbs (fun fk=>?_) fun fk=>?_)
  have jc:=fk
  simp only[zB] at jc
  refine wp_seq (sqr (sqp [.k 6 (.bool false)] ?_))
  refine aa (wp_ret (af (aq (af (af (aq (af ?_)))))))
  refine bpr (.bool false) (ai Tryz.results16 rpt) ?_
  exfalso
  simp at fk
  have jc:=fk
  simp only[zB] at jc
  obtain⟨⟨⟨sT,JD⟩,JE⟩,PG⟩:=jc
  refine wp_skip (aa (wp_seq (wp_seq (sqr (sqp [.k 15 (vi 0)] ?_)))))
  refine aa (wp_block ?_)
  refine aL (fun t_ mz az W=>∃j:Nat,j<=0/\mz=0-j/\az=⟨(ovr (jv az) [(6,6,1,[]),(8,15,0,[vi ((j:Int))]),(48,64,28,[])] t_).toArray,[]⟩/\St w [] [eB e9 81 #[vi w1.pos,vi w1.st,.string w1.fm,.bool w1.fin],eB fa 157 #[vi q,vi w1.st,.string w1.fm,.bool w1.fin],eB py 97 #[vi ((-1)),.slice none 0 0,.slice none 0 0,.bool mo,.bool false,.bool false,vi 0,vi 0,.string ByteArray.empty,.slice none 0 0,.slice none 0 0,.slice none 0 0,.bool false]] W) (0-0) ?_ ?_
  exact⟨0,Nat.zero_le _,rfl,(by kernel_rfl),dl.pk [0,1,2]⟩
  rintro Ph a63 JK ⟨j,hj,rfl,hj_,je⟩
  refine ovz hj_ fun Nl=>?_
  refine wp_seq (wp_seq (sqr ?_))
  have hd68:(decide ((j:Int)<0))=false:=(decide_eq_false (by omega))
  refine sqp [.m 64 15,.m 65 11,.k 66 (vi 0),.e 67 (.bool (decide ((j:Int)<0))) (.bool false) (congrArg Value.bool hd68)] ?_
  refine aa (wcf rfl (wp_exit (aj (aj (aO (aa (wp_seq (sqr (sqp [.m 92 13,.k 93 (.bool (!(mo))),.m 94 93] ?_)))))))))
  refine sqw 94 [95,96] rfl (fun _=>sqp [.m 95 9,.k 96 (.bool (decide (2<(i:Int))))] sqe) ?_
  refine sqp [sPa 97 (!(mo)) (decide (2<(i:Int)))] ?_
  refine aa (wbs (fun xn=>?_) fun xn=>?_)
  have pU:=xn
  simp only[zB] at pU
  obtain⟨PH,PI⟩:=pU
  refine wp_seq (sqr (sqp [.k 6 (.bool true)] ?_))
  refine aa (wp_ret (aq (af (af (aq (af ?_))))))
  refine bpr (.bool true) (ai Tryz.results16 rpt) ?_
  exact Ret.bool rfl je.ext
  have pU:=xn
  simp only[zB] at pU
  refine wp_skip (ax (aa (sqr (sqp [.m 24 9,sI 25 ((i:Int)+1) (by omega),.m 9 25] ?_))))
  refine aa ?_
  refine⟨1003-((i+1)),by omega,?_⟩
  exact⟨(i+1),w1,q,by omega,by omega,by rw[hfm1];exact hfz,hq1,rfl,(by kernel_rfl),je.pk [0,1]⟩
 ·rw[hR] at hR2 hq1 hq2
  have aE:=EX hR
  have hfm1:=ET hR
  have hN0:=cO hok (Kt hR)
  have hN1:=hN0.len
  have hN3:=hN0.hi
  have hpe_:pp=wk.pos:=hq2 nd rfl
  have hfz2:(wkL w1 nd).fm.size<=900000:=by show (if nd.high.size=0 then w1.fm else nd.high).size<=900000;split;(rw[hfm1];exact hfz);omega
  have hkl_:(au w1.fm nd.es).length<=nd.es.length:=List.length_filter_le _ _
  refine ak [0,0,2,7,15,31,31,31,31,63,639,1791,4095] [[],[],[],[0]] [[],[],[],[2,3,4]] [[],[],[],[0]] [.k 27 (vp e9),.k 28 (vp bk),.c 29 (.iface 24 (vp bk)),.a 30,.a 26,.c 31 (vi wk.pos),.a 32,.a 33,.c 34 (.bool true),.k 10 (vi wk.pos),.a 11,.a 12,.k 13 (.bool true)] (fun ix g b X=>match ix with|0|1|2=>True|3=>g 30= .tuple #[vi wk.pos,.slice (sA (tg (b 30) 1)) ((au w1.fm nd.es).length) (sC (tg (b 30) 1)),.slice (sA (tg (b 30) 2)) ((au w1.fm nd.es).length) (sC (tg (b 30) 2)),.bool true]/\X 2=eB e9 81 #[vi ((wkL w1 nd).pos),vi ((wkL w1 nd).st),.string ((wkL w1 nd).fm),.bool ((wkL w1 nd).fin)]/\X 3=eO 9 1 (.slice (sA (tg (b 30) 1)) ((au w1.fm nd.es).length) (sC (tg (b 30) 1))) ((au w1.fm nd.es).length) ((au w1.fm nd.es).map tqS)/\X 4=eO 33 2 (.slice (sA (tg (b 30) 2)) ((au w1.fm nd.es).length) (sC (tg (b 30) 2))) ((au w1.fm nd.es).length) ((au w1.fm nd.es).flatMap tqR)|4=>g 26= .tuple #[vi wk.pos,.slice (sA (tg (b 30) 1)) ((au w1.fm nd.es).length) (sC (tg (b 30) 1)),.slice (sA (tg (b 30) 2)) ((au w1.fm nd.es).length) (sC (tg (b 30) 2)),.bool true]|5=>True|6=>g 32= .slice (sA (tg (b 30) 1)) ((au w1.fm nd.es).length) (sC (tg (b 30) 1))|7=>g 33= .slice (sA (tg (b 30) 2)) ((au w1.fm nd.es).length) (sC (tg (b 30) 2))|8|9=>True|10=>g 11= .slice (sA (tg (b 30) 1)) ((au w1.fm nd.es).length) (sC (tg (b 30) 1))|11=>g 12= .slice (sA (tg (b 30) 2)) ((au w1.fm nd.es).length) (sC (tg (b 30) 2))|_=>True) [1,2,3,4] [2,3,4,5,6,7,8,10,11] [(10,9,4,14),(12,4,1,13),(0,0,4,4),(0,5,4,4)] bY ?_ ?_ ?_
  exact fun ix _ _ _ _ _ _ hs hb hx h=>match ix,h with
  |3,h=>by dsimp only;rw[<-hs 30 rfl,<-hb 30 rfl,<-hx 2 rfl,<-hx 3 rfl,<-hx 4 rfl];exact h
  |4,h=>by dsimp only;rw[<-hs 26 rfl,<-hb 30 rfl];exact h
  |6,h=>by dsimp only;rw[<-hs 32 rfl,<-hb 30 rfl];exact h
  |7,h=>by dsimp only;rw[<-hs 33 rfl,<-hb 30 rfl];exact h
  |10,h=>by dsimp only;rw[<-hs 11 rfl,<-hb 30 rfl];exact h
  |11,h=>by dsimp only;rw[<-hs 12 rfl,<-hb 30 rfl];exact h
  |0,_|1,_|2,_|5,_|8,_|9,_|_+12,_=>trivial
  refine⟨?_,?_,?_,?_,?_,?_,?_,?_,?_,trivial⟩
  exact sv0 rfl rfl rfl rfl rfl (fun _ _ _ h=>h) fun d b W X cx=>by
   have qV:d (.tmp 28)=vp bk:=(cx.an 1)
   simp[go_sem,qV]
  refine svA fun d b W X cx=>?_
  refine aC.call (aB (args:=#[vp e9,.iface 24 (vp bk)]) rfl cx.sees rfl (by kernel_rfl) (aI (cx.an 0) (cx.an 2))) ?_
  refine(EO hR (rq _ _ _ wk.pos wk.st wk.fm wk.fin ps _ (cx.bi 0 rfl) (fun W hW=>(gz hB hps).ext (CtxV.joinB cx (cx.init 0 _ rfl) rfl hW).to_ext) hok hoc (by omega) hfz)).mono ?_
  rintro e W1 ⟨KA4,kc4,RA4,rc4,rfl,aM⟩
  refine⟨_,rfl,bJ (E:=eB e9 81 #[vi wk.pos,vi wk.st,.string wk.fm,.bool wk.fin]) [eB e9 81 #[vi ((wkL w1 nd).pos),vi ((wkL w1 nd).st),.string ((wkL w1 nd).fm),.bool ((wkL w1 nd).fin)],eO 9 1 (.slice KA4 (au w1.fm nd.es).length kc4) (au w1.fm nd.es).length ((au w1.fm nd.es).map tqS),eO 33 2 (.slice RA4 (au w1.fm nd.es).length rc4) (au w1.fm nd.es).length ((au w1.fm nd.es).flatMap tqR)] (cx.init 0 _ rfl) rfl rfl aM (fun g l X' hs hb hv hN=>?_)⟩
  have aW:=(hv 30 rfl).1;have aG:=(hv 30 rfl).2
  exact⟨aW.trans (by rw[aG];rfl),(List.cons.inj hN).1,(by rw[aG];exact(List.cons.inj (List.cons.inj hN).2).1),(by rw[aG];exact(List.cons.inj (List.cons.inj (List.cons.inj hN).2).2).1)⟩
  exact sv rfl rfl rfl rfl rfl _ (fun _ _ _ h=>h) (fun b l h=>by rw[h 30 (by decide)]) fun d b W X cx=>cL rfl (dTn (cx.an 3)).1
  exact xs4 rfl id fun cx=>aU rfl (dTn (cx.an 4)) rfl
  exact sv rfl rfl rfl rfl rfl _ (fun _ _ _ h=>h) (fun b l h=>by rw[h 30 (by decide)]) fun d b W X cx=>aU rfl (dTn (cx.an 4)) rfl
  exact sv rfl rfl rfl rfl rfl _ (fun _ _ _ h=>h) (fun b l h=>by rw[h 30 (by decide)]) fun d b W X cx=>aU rfl (dTn (cx.an 4)) rfl
  exact xs4 rfl id fun cx=>aU rfl (dTn (cx.an 4)) rfl
  exact sv rfl rfl rfl rfl rfl _ (fun _ _ _ h=>h) (fun b l h=>by rw[h 30 (by decide)]) fun d b W X cx=>bt rfl (dTn (cx.an 6))
  exact sv rfl rfl rfl rfl rfl _ (fun _ _ _ h=>h) (fun b l h=>by rw[h 30 (by decide)]) fun d b W X cx=>bt rfl (dTn (cx.an 7))
  intro g b X y5 hD dv fr ag
  simp only[exq 2 ((dTn (hD 3 lq)).2.1),exq 3 ((dTn (hD 3 lq)).2.2.1),exq 4 ((dTn (hD 3 lq)).2.2.2)] at dv
  simp only[ed 30 ((dTn (hD 3 lq)).1),ed 26 ((dTn (hD 4 lq))),ed 32 ((dTn (hD 6 lq))),ed 33 ((dTn (hD 7 lq))),ed 11 ((dTn (hD 10 lq))),ed 12 ((dTn (hD 11 lq)))] at ag
  generalize sA (tg (b 30) 1)=KA30_80,sC (tg (b 30) 1)=cKA30_80,sA (tg (b 30) 2)=RA30_80,sC (tg (b 30) 2)=cRA30_80 at dv ag
  clear hD;subst ag;clear g b X
  refine aa (wp_seq (ak [0,0,3,0,15] [[],[],[0],[],[10]] [[],[],[4,5,6,7,8,9],[10],[11]] [[],[],[0],[],[10]] [.k 35 (vp fa),.k 36 (vp bk),.a 37,.a 14,.n] (fun ix g b X=>match ix with|0|1=>True|2=>g 37= .agg #[vi pp,.slice (sA (tg (b 37) 1)) ((au w1.fm nd.es).length) (sC (tg (b 37) 1)),.slice (sA (tg (b 37) 2)) ((au w1.fm nd.es).length) (sC (tg (b 37) 2)),.bool true,.bool true,.bool nd.dead,vi nd.lv,vi nd.right,.string nd.high,.slice (sA (tg (b 37) 9)) nd.es.length (sC (tg (b 37) 9)),.slice (sA (tg (b 37) 10)) nd.es.length (sC (tg (b 37) 10)),.slice (sA (tg (b 37) 11)) nd.es.length (sC (tg (b 37) 11)),.bool true]/\X 4=eB fa 157 #[vi ((rwL ⟨q,w1.st,w1.fm,w1.fin⟩ nd).pos),vi ((rwL ⟨q,w1.st,w1.fm,w1.fin⟩ nd).st),.string ((rwL ⟨q,w1.st,w1.fm,w1.fin⟩ nd).fm),.bool ((rwL ⟨q,w1.st,w1.fm,w1.fin⟩ nd).fin)]/\X 5=eO 9 1 (.slice (sA (tg (b 37) 1)) ((au w1.fm nd.es).length) (sC (tg (b 37) 1))) ((au w1.fm nd.es).length) ((au w1.fm nd.es).map tqS)/\X 6=eO 33 2 (.slice (sA (tg (b 37) 2)) ((au w1.fm nd.es).length) (sC (tg (b 37) 2))) ((au w1.fm nd.es).length) ((au w1.fm nd.es).flatMap tqR)/\X 7=eO 9 1 (.slice (sA (tg (b 37) 9)) nd.es.length (sC (tg (b 37) 9))) nd.es.length (nd.es.map stv)/\X 8=eO 3 1 (.slice (sA (tg (b 37) 10)) nd.es.length (sC (tg (b 37) 10))) nd.es.length (nd.es.map slv)/\X 9=eO 3 1 (.slice (sA (tg (b 37) 11)) nd.es.length (sC (tg (b 37) 11))) nd.es.length (nd.es.map kdv)|3=>g 14=vp (pb (b 14))/\X 10=eB (pb (b 14)) 97 #[vi 0,.slice none 0 0,.slice none 0 0,.bool false,.bool false,.bool false,vi 0,vi 0,.string ByteArray.empty,.slice none 0 0,.slice none 0 0,.slice none 0 0,.bool false]|4=>X 11=eB (pb (b 14)) 97 #[vi pp,.slice (sA (tg (b 37) 1)) ((au w1.fm nd.es).length) (sC (tg (b 37) 1)),.slice (sA (tg (b 37) 2)) ((au w1.fm nd.es).length) (sC (tg (b 37) 2)),.bool true,.bool true,.bool nd.dead,vi nd.lv,vi nd.right,.string nd.high,.slice (sA (tg (b 37) 9)) nd.es.length (sC (tg (b 37) 9)),.slice (sA (tg (b 37) 10)) nd.es.length (sC (tg (b 37) 10)),.slice (sA (tg (b 37) 11)) nd.es.length (sC (tg (b 37) 11)),.bool true]|_=>True) [1,2,3,4,5,6,7,8,9,11] [2,3,4] [(14,3,1,15),(20,0,3,23)] dv ?_ ?_ ?_))
  exact fun ix _ _ _ _ _ _ hs hb hx h=>match ix,h with
  |2,h=>by dsimp only;rw[<-hs 37 rfl,<-hb 37 rfl,<-hx 4 rfl,<-hx 5 rfl,<-hx 6 rfl,<-hx 7 rfl,<-hx 8 rfl,<-hx 9 rfl];exact h
  |3,h=>by dsimp only;rw[<-hs 14 rfl,<-hb 14 rfl,<-hx 10 rfl];exact h
  |4,h=>by dsimp only;rw[<-hb 14 rfl,<-hb 37 rfl,<-hx 11 rfl];exact h
  |0,_|1,_|_+5,_=>trivial
  refine⟨?_,?_,?_,trivial⟩
  refine svA fun d b W X cx=>?_
  refine aC.call (aB (args:=#[vp fa,vp bk]) rfl cx.sees rfl (by kernel_rfl) (aI (cx.an 0) (cx.an 1))) ?_
  refine(sb hR2 (iM _ bk pp wk.st wk.fm wk.fin ps _ (cx.bi 0 rfl) (fun W hW=>hB.ext (CtxV.joinB cx (cx.init 0 _ rfl) rfl hW).to_ext) hok (by omega) hfz)).mono ?_
  rintro e W1 ⟨KA4,kc4,RA4,rc4,EA4,ec4,SA4,sc4,DA4,dc4,rfl,aM⟩
  refine⟨_,rfl,bJ (E:=eB fa 157 #[vi pp,vi wk.st,.string wk.fm,.bool wk.fin]) [eB fa 157 #[vi ((rwL ⟨q,w1.st,w1.fm,w1.fin⟩ nd).pos),vi ((rwL ⟨q,w1.st,w1.fm,w1.fin⟩ nd).st),.string ((rwL ⟨q,w1.st,w1.fm,w1.fin⟩ nd).fm),.bool ((rwL ⟨q,w1.st,w1.fm,w1.fin⟩ nd).fin)],eO 9 1 (.slice KA4 (au w1.fm nd.es).length kc4) (au w1.fm nd.es).length ((au w1.fm nd.es).map tqS),eO 33 2 (.slice RA4 (au w1.fm nd.es).length rc4) (au w1.fm nd.es).length ((au w1.fm nd.es).flatMap tqR),eO 9 1 (.slice EA4 nd.es.length ec4) nd.es.length (nd.es.map stv),eO 3 1 (.slice SA4 nd.es.length sc4) nd.es.length (nd.es.map slv),eO 3 1 (.slice DA4 nd.es.length dc4) nd.es.length (nd.es.map kdv)] (cx.init 0 _ rfl) rfl rfl aM (fun g l X' hs hb hv hN=>?_)⟩
  have aW:=(hv 37 rfl).1;have aG:=(hv 37 rfl).2
  exact⟨aW.trans (by rw[aG];rfl),(List.cons.inj hN).1,(by rw[aG];exact(List.cons.inj (List.cons.inj hN).2).1),(by rw[aG];exact(List.cons.inj (List.cons.inj (List.cons.inj hN).2).2).1),(by rw[aG];exact(List.cons.inj (List.cons.inj (List.cons.inj (List.cons.inj hN).2).2).2).1),(by rw[aG];exact(List.cons.inj (List.cons.inj (List.cons.inj (List.cons.inj (List.cons.inj hN).2).2).2).2).1),(by rw[aG];exact(List.cons.inj (List.cons.inj (List.cons.inj (List.cons.inj (List.cons.inj (List.cons.inj hN).2).2).2).2).2).1)⟩
  refine svA fun d b W X cx=>?_
  exact aX (cs:=#[vi 0,.slice none 0 0,.slice none 0 0,.bool false,.bool false,.bool false,vi 0,vi 0,.string ByteArray.empty,.slice none 0 0,.slice none 0 0,.slice none 0 0,.bool false]) rfl (by kernel_rfl) rfl rfl (fun _ _ _ _ _=> .intro)
  refine svA fun d b W X cx=>?_
  exact aw (n:=13) rfl (dTn (cx.an 3)).1 (dTn (cx.an 2)).1 (by kernel_rfl) (by kernel_rfl) (by kernel_rfl) cx (dTn (cx.an 3)).2 rfl (nle rfl) (by kernel_rfl) rfl rfl rfl (fun g l X' hs hb hx=>by rw[hb 14,hb 37];exact hx)
  intro g b X PB hD jV fr ag
  simp only[exq 4 ((dTn (hD 2 lq)).2.1),exq 5 ((dTn (hD 2 lq)).2.2.1),exq 6 ((dTn (hD 2 lq)).2.2.2.1),exq 7 ((dTn (hD 2 lq)).2.2.2.2.1),exq 8 ((dTn (hD 2 lq)).2.2.2.2.2.1),exq 9 ((dTn (hD 2 lq)).2.2.2.2.2.2),exq 11 ((dTn (hD 4 lq)))] at jV
  simp only[ed 37 ((dTn (hD 2 lq)).1),ed 14 ((dTn (hD 3 lq)).1)] at ag
  generalize sA (tg (b 37) 1)=GA37_81,sC (tg (b 37) 1)=cGA37_81,sA (tg (b 37) 2)=HA37_81,sC (tg (b 37) 2)=cHA37_81,sA (tg (b 37) 9)=EA37_81,sC (tg (b 37) 9)=cEA37_81,sA (tg (b 37) 10)=SA37_81,sC (tg (b 37) 10)=cSA37_81,sA (tg (b 37) 11)=DA37_81,sC (tg (b 37) 11)=cDA37_81,pb (b 14)=lu at jV ag
  clear hD;subst ag;clear g b X
  refine aa (wp_seq (wp_seq (sqr (sqp [.m 38 10,.k 39 (vp lu)] ?_))))
  refine am 9 jV ?_
  have hd86:(wk.pos != pp)=false:=(by rw[hpe_];exact bne_self_eq_false _)
  refine sqp [.e 41 (.bool (wk.pos != pp)) (.bool false) (congrArg Value.bool hd86),.k 42 (.bool false)] ?_
  refine il 42 [43,44,45,46] rfl rfl ?_
  refine sqp [.k 43 (.bool true),.k 44 (.pointer (some ⟨lu,3,none⟩))] ?_
  refine am 9 jV ?_
  refine sqv (.bool (!(true==true))) jV (by
    exact sv0 rfl rfl rfl rfl rfl (fun _ _ _ h=>h) fun d b W X cx=>by
     have EJ:d (.tmp 43)= .bool true:=(cx.ou 43)
     have xj:d (.tmp 45)= .bool true:=(cx.ou 45)
     simp[go_sem,EJ,xj]) fun OK pX=>?_
  refine sqp [.k 47 (.bool (!(true==true))),.m 48 47] ?_
  refine cv 48 [49,50,51,52,53,54] ?_ rfl (fun hq=>?_) ?_
  rotate_left
  refine sqp [.m 49 11,.k 50 (vi (((au w1.fm nd.es).length:Int))),.k 51 (.pointer (some ⟨lu,1,none⟩))] ?_
  refine am 9 pX ?_
  refine sqp [.k 53 (vi (((au w1.fm nd.es).length:Int))),.k 54 (.bool (((au w1.fm nd.es).length:Int) != ((au w1.fm nd.es).length:Int)))] ?_
  exact sqe
  refine bQ ?_
  refine sqp [sPo 55 (!(true==true)) (((au w1.fm nd.es).length:Int) != ((au w1.fm nd.es).length:Int)),.m 56 55] ?_
  refine cv 56 [57,58,59,60,61,62] ?_ rfl (fun hq=>?_) ?_
  rotate_left
  refine sqp [.m 57 12,.k 58 (vi (((au w1.fm nd.es).length:Int))),.k 59 (.pointer (some ⟨lu,2,none⟩))] ?_
  refine am 9 pX ?_
  refine sqp [.k 61 (vi (((au w1.fm nd.es).length:Int))),.k 62 (.bool (((au w1.fm nd.es).length:Int) != ((au w1.fm nd.es).length:Int)))] ?_
  exact sqe
  refine bQ ?_
  refine sqp [sPo 63 ((!(true==true))||(((au w1.fm nd.es).length:Int) != ((au w1.fm nd.es).length:Int))) (((au w1.fm nd.es).length:Int) != ((au w1.fm nd.es).length:Int))] ?_
  refine aa (wbs (fun vd=>?_) fun vd=>?_)
  have ta:=vd
  simp only[zB] at ta
  refine wp_seq (sqr (sqp [.k 6 (.bool false)] ?_))
  refine aa (wp_ret (af (aq (af (af (aq (af ?_)))))))
  refine bpr (.bool false) (ai Tryz.results16 rpt) ?_
  exfalso
  simp at vd
  have ta:=vd
  simp only[zB] at ta
  obtain⟨⟨NW,NX⟩,NY⟩:=ta
  refine wp_skip (aa (wp_seq (wp_seq (sqr (sqp [.k 15 (vi 0)] ?_)))))
  refine aa (wp_block ?_)
  refine aL (fun t_ mz az W=>∃j:Nat,j<=(au w1.fm nd.es).length/\mz=(au w1.fm nd.es).length-j/\az=⟨(ovr (jv az) [(6,6,1,[]),(8,15,0,[vi ((j:Int))]),(48,64,28,[])] t_).toArray,[]⟩/\St w [] [eB e9 81 #[vi ((wkL w1 nd).pos),vi ((wkL w1 nd).st),.string ((wkL w1 nd).fm),.bool ((wkL w1 nd).fin)],eO 9 1 (.slice KA30_80 ((au w1.fm nd.es).length) cKA30_80) ((au w1.fm nd.es).length) ((au w1.fm nd.es).map tqS),eO 33 2 (.slice RA30_80 ((au w1.fm nd.es).length) cRA30_80) ((au w1.fm nd.es).length) ((au w1.fm nd.es).flatMap tqR),eB fa 157 #[vi ((rwL ⟨q,w1.st,w1.fm,w1.fin⟩ nd).pos),vi ((rwL ⟨q,w1.st,w1.fm,w1.fin⟩ nd).st),.string ((rwL ⟨q,w1.st,w1.fm,w1.fin⟩ nd).fm),.bool ((rwL ⟨q,w1.st,w1.fm,w1.fin⟩ nd).fin)],eO 9 1 (.slice GA37_81 ((au w1.fm nd.es).length) cGA37_81) ((au w1.fm nd.es).length) ((au w1.fm nd.es).map tqS),eO 33 2 (.slice HA37_81 ((au w1.fm nd.es).length) cHA37_81) ((au w1.fm nd.es).length) ((au w1.fm nd.es).flatMap tqR),eO 9 1 (.slice EA37_81 nd.es.length cEA37_81) nd.es.length (nd.es.map stv),eO 3 1 (.slice SA37_81 nd.es.length cSA37_81) nd.es.length (nd.es.map slv),eO 3 1 (.slice DA37_81 nd.es.length cDA37_81) nd.es.length (nd.es.map kdv),eB lu 97 #[vi pp,.slice GA37_81 ((au w1.fm nd.es).length) cGA37_81,.slice HA37_81 ((au w1.fm nd.es).length) cHA37_81,.bool true,.bool true,.bool nd.dead,vi nd.lv,vi nd.right,.string nd.high,.slice EA37_81 nd.es.length cEA37_81,.slice SA37_81 nd.es.length cSA37_81,.slice DA37_81 nd.es.length cDA37_81,.bool true]] W) ((au w1.fm nd.es).length-0) ?_ ?_
  exact⟨0,Nat.zero_le _,rfl,(by kernel_rfl),pX.pk [0,1,2,3,4,5,6,7,8,9]⟩
  rintro Q8 a112 Mj ⟨j,hj,rfl,hj_,mF⟩
  refine ovz hj_ fun PY=>?_
  refine wp_seq (wp_seq (sqr (sqp [.m 64 15,.m 65 11,.k 66 (vi (((au w1.fm nd.es).length:Int))),.k 67 (.bool (decide ((j:Int)<((au w1.fm nd.es).length:Int))))] ?_)))
  refine aa (wds (fun LL Kq=>?_) fun LL Kq=>?_)
  refine wp_skip (aa (wp_seq (wp_block (wp_seq (br [0,0,3,7,0,16,0,112,240,511,1023,2047,2047,8191,16383,2047,34815,2047,231423,493567,1048575,2097151] [[],[],[1],[1],[],[9],[],[4],[4],[],[],[],[],[2],[2],[],[9],[],[5],[5]] [.k 70 (.slice KA30_80 ((au w1.fm nd.es).length) cKA30_80),.k 71 (vi ((j:Int))),.c 72 (.pointer (some ((ad KA30_80).add j))),.c 73 (.string (qkF ((au w1.fm nd.es).getD j en0).1)),.k 74 (.pointer (some ⟨lu,1,none⟩)),.c 75 (.slice GA37_81 ((au w1.fm nd.es).length) cGA37_81),.k 76 (vi ((j:Int))),.c 77 (.pointer (some ((ad GA37_81).add j))),.c 78 (.string (qkF ((au w1.fm nd.es).getD j en0).1)),.k 79 (.bool (!((qkF ((au w1.fm nd.es).getD j en0).1).toList==(qkF ((au w1.fm nd.es).getD j en0).1).toList))),.k 80 (.bool (!((qkF ((au w1.fm nd.es).getD j en0).1).toList==(qkF ((au w1.fm nd.es).getD j en0).1).toList))),.z 81 (!(!((qkF ((au w1.fm nd.es).getD j en0).1).toList==(qkF ((au w1.fm nd.es).getD j en0).1).toList))) (.slice RA30_80 ((au w1.fm nd.es).length) cRA30_80),.z 82 (!(!((qkF ((au w1.fm nd.es).getD j en0).1).toList==(qkF ((au w1.fm nd.es).getD j en0).1).toList))) (vi ((j:Int))),.y 83 (!(!((qkF ((au w1.fm nd.es).getD j en0).1).toList==(qkF ((au w1.fm nd.es).getD j en0).1).toList))) (.pointer (some ((ad RA30_80).add (j*2)))),.y 84 (!(!((qkF ((au w1.fm nd.es).getD j en0).1).toList==(qkF ((au w1.fm nd.es).getD j en0).1).toList))) (.agg #[vi (opF ((au w1.fm nd.es).getD j en0).1),vi (osF ((au w1.fm nd.es).getD j en0).1)]),.z 85 (!(!((qkF ((au w1.fm nd.es).getD j en0).1).toList==(qkF ((au w1.fm nd.es).getD j en0).1).toList))) (.pointer (some ⟨lu,2,none⟩)),.y 86 (!(!((qkF ((au w1.fm nd.es).getD j en0).1).toList==(qkF ((au w1.fm nd.es).getD j en0).1).toList))) (.slice HA37_81 ((au w1.fm nd.es).length) cHA37_81),.z 87 (!(!((qkF ((au w1.fm nd.es).getD j en0).1).toList==(qkF ((au w1.fm nd.es).getD j en0).1).toList))) (vi ((j:Int))),.y 88 (!(!((qkF ((au w1.fm nd.es).getD j en0).1).toList==(qkF ((au w1.fm nd.es).getD j en0).1).toList))) (.pointer (some ((ad HA37_81).add (j*2)))),.y 89 (!(!((qkF ((au w1.fm nd.es).getD j en0).1).toList==(qkF ((au w1.fm nd.es).getD j en0).1).toList))) (.agg #[vi (opF ((au w1.fm nd.es).getD j en0).1),vi (osF ((au w1.fm nd.es).getD j en0).1)]),.y 90 (!(!((qkF ((au w1.fm nd.es).getD j en0).1).toList==(qkF ((au w1.fm nd.es).getD j en0).1).toList))) (.bool (!((opF ((au w1.fm nd.es).getD j en0).1)==(opF ((au w1.fm nd.es).getD j en0).1)&&(osF ((au w1.fm nd.es).getD j en0).1)==(osF ((au w1.fm nd.es).getD j en0).1)))),tO 91 (!((qkF ((au w1.fm nd.es).getD j en0).1).toList==(qkF ((au w1.fm nd.es).getD j en0).1).toList)) (!((opF ((au w1.fm nd.es).getD j en0).1)==(opF ((au w1.fm nd.es).getD j en0).1)&&(osF ((au w1.fm nd.es).getD j en0).1)==(osF ((au w1.fm nd.es).getD j en0).1)))] [0,1,2,3,4,5,6,7,8,9] [2,3,5,7,8,13,14,16,18,19,20] [(70,0,22,92)] mF ?_ fun M9 xB=>?_)))))
  refine⟨?_,?_,?_,?_,?_,?_,?_,?_,?_,?_,?_,trivial⟩
  exact xs4 rfl id fun cx=>ay (e:=9) (m:=j) rfl (by kernel_rfl) (by kernel_rfl) (cx.an 0) (cx.an 1) (by omega) (by omega) (At.of_own (cx.ri 1 rfl)) (by rw[List.length_map]<;>omega)
  exact xs4 rfl id fun cx=>ae rfl (by kernel_rfl) (cx.an 2) (At.cellAd (At.of_own (cx.ri 1 rfl)) (yF (by omega)))
  exact xs4 rfl id fun cx=>ae rfl (by kernel_rfl) (cx.an 4) ((cx.bi 9 rfl).cell 1)
  exact xs4 rfl id fun cx=>ay (e:=9) (m:=j) rfl (by kernel_rfl) (by kernel_rfl) (cx.an 5) (cx.an 6) (by omega) (by omega) (At.of_own (cx.ri 4 rfl)) (by rw[List.length_map]<;>omega)
  exact xs4 rfl id fun cx=>ae rfl (by kernel_rfl) (cx.an 7) (At.cellAd (At.of_own (cx.ri 4 rfl)) (yF (by omega)))
  exact m2 rfl (fun _ _ _ h=>h) (fun cx=>(cx.an 10)) fun cx hq=>aH (e:=33) (m:=j) (sz:=2) rfl (by kernel_rfl) (by kernel_rfl) (mbv (cx.an 11) hq) (mbv (cx.an 12) hq) (by have hq_:=hq;simp only[zB] at hq_;omega) (by have hq_:=hq;simp only[zB] at hq_;omega) (At.of_ownN (cx.ri 2 rfl)) (bq (sz:=2) kL (by decide) (by have hq_:=hq;simp only[zB] at hq_;omega))
  exact m2 rfl (fun _ _ _ h=>h) (fun cx=>(cx.an 10)) fun cx hq=>aZ (f:=tqR) (m:=j) (sz:=2) (off:=0) (n:=2) rfl (by kernel_rfl) (by kernel_rfl) (mbv (cx.an 13) hq) rfl kL (At.of_ownN (cx.ri 2 rfl)) (cR (by have hq_:=hq;simp only[zB] at hq_;omega)) (fun k hk=>match k,hk with|0,_=>rfl|1,_=>rfl|k+2,hk=>absurd hk (by have hq_:=hq;simp only[zB] at hq_;omega))
  exact m2 rfl (fun _ _ _ h=>h) (fun cx=>(cx.an 10)) fun cx hq=>ae rfl (by kernel_rfl) (mbv (cx.an 15) hq) ((cx.bi 9 rfl).cell 2)
  exact m2 rfl (fun _ _ _ h=>h) (fun cx=>(cx.an 10)) fun cx hq=>aH (e:=33) (m:=j) (sz:=2) rfl (by kernel_rfl) (by kernel_rfl) (mbv (cx.an 16) hq) (mbv (cx.an 17) hq) (by have hq_:=hq;simp only[zB] at hq_;omega) (by have hq_:=hq;simp only[zB] at hq_;omega) (At.of_ownN (cx.ri 5 rfl)) (bq (sz:=2) kL (by decide) (by have hq_:=hq;simp only[zB] at hq_;omega))
  exact m2 rfl (fun _ _ _ h=>h) (fun cx=>(cx.an 10)) fun cx hq=>aZ (f:=tqR) (m:=j) (sz:=2) (off:=0) (n:=2) rfl (by kernel_rfl) (by kernel_rfl) (mbv (cx.an 18) hq) rfl kL (At.of_ownN (cx.ri 5 rfl)) (cR (by have hq_:=hq;simp only[zB] at hq_;omega)) (fun k hk=>match k,hk with|0,_=>rfl|1,_=>rfl|k+2,hk=>absurd hk (by have hq_:=hq;simp only[zB] at hq_;omega))
  exact m2 rfl (fun _ _ _ h=>h) (fun cx=>(cx.an 10)) fun cx hq=>Fw rfl (mbv (cx.an 14) hq) (mbv (cx.an 19) hq) rfl
  refine aa (wbs (fun ve=>?_) fun ve=>?_)
  have tc:=ve
  simp only[zB] at tc
  refine wp_seq (sqr (sqp [.k 6 (.bool false)] ?_))
  refine aa (wp_ret (aq (af (af (aq (af (aq (af (af (aq (af ?_)))))))))))
  refine bpr (.bool false) (ai Tryz.results16 rpt) ?_
  exfalso
  simp at ve
  have tc:=ve
  simp only[zB] at tc
  obtain⟨NZ,⟨N0,N1⟩⟩:=tc
  refine wp_skip (ax (aa (sqr (sqp [.m 68 15,sI 69 ((j:Int)+1) (by omega),.m 15 69] ?_))))
  refine aa ?_
  refine⟨(au w1.fm nd.es).length-((j+1)),by omega,?_⟩
  exact⟨(j+1),by omega,rfl,(by kernel_rfl),xB.pk [0,1,2,3,4,5,6,7,8,9]⟩
  refine wp_exit (aj (aj (aO (aa (wp_seq (sqr (sqp [.k 92 (.bool true),.k 93 (.bool false),.k 94 (.bool false)] ?_)))))))
  refine tm 94 [95,96] rfl rfl ?_
  refine sqp [.k 97 (.bool false)] ?_
  refine aa (wcf rfl (wp_skip (ax (aa (sqr (sqp [.m 24 9,sI 25 ((i:Int)+1) (by omega),.m 9 25] ?_))))))
  refine aa ?_
  refine⟨1003-((i+1)),by omega,?_⟩
  exact⟨(i+1),(wkL w1 nd),(rwL ⟨q,w1.st,w1.fm,w1.fin⟩ nd).pos,by omega,by show 0<=w1.st/\w1.st<=((i+1:Nat):Int);omega,hfz2,(FN nd (w:=w1) (w':=⟨q,w1.st,w1.fm,w1.fin⟩) ⟨rfl,rfl,rfl,hq1⟩).2.2.2,rfl,(by kernel_rfl),mF.pk [0,3]⟩
 refine wp_exit (aj (aj (aO (aa (wp_seq (sqr (sqp [.k 6 (.bool true)] ?_)))))))
 refine aa (wp_ret ?_)
 refine bpr (.bool true) (ai Tryz.results16 rpt) ?_
 exact Ret.bool rfl bY.ext
end
section
open Go.RowKit
abbrev Kv:=ByteArray×Int
structure AbN where
 pg:Int
 low:ByteArray
 es:List Kv
def rtA:List AbN->Int
 | []=> -1
 |b:: _=>b.pg
def hiA:List AbN->ByteArray
 | []=>ByteArray.empty
 |b:: _=>b.low
def IsN(ps:List PgS)(lv:Int)(a:AbN)(suf:List AbN):Prop:=∃n,av ps a.pg=some n/\n.lv=lv/\n.dead=false/\n.right=rtA suf/\n.high=hiA suf/\n.es.map kv=a.es
def dq(ps:List PgS)(lv:Int):List AbN->Prop
 | []=>True
 |a::suf=>IsN ps lv a suf/\dq ps lv suf
theorem In(x:ByteArray):0<=opF x/\0<=osF x:=by
 unfold opF osF ppF psF
 constructor<;>split<;>omega
theorem uN(l:List UInt8):Op.bytesLess l []=false:=by cases l<;>rfl
theorem m8(x:ByteArray):al x aF=false:=by
 have h1:okF aF=ByteArray.empty:=by decide
 have h2:opF aF=0:=by decide
 have h3:osF aF=0:=by decide
 have h4:ltB (okF x) ByteArray.empty=false:=uN _
 have:=In x
 unfold al
 rw[h1,h2,h3,h4]
 simp only[Bool.false_eq_true,if_false]
 split
 rfl
 rw[if_neg (by omega)]
 split
 rfl
 exact decide_eq_false (by omega)
theorem yT:∀{l1 l2:List Kv},l1.Perm l2->l1.Pairwise (fun x y=>al y.1 x.1=false)->l2.Pairwise (fun x y=>al x.1 y.1=true)->l1=l2
 |l1,[],hp,_,_=>List.Perm.eq_nil hp
 | [],y::l2,hp,_,_=>absurd hp.length_eq (by simp)
 |x::l1,y::l2,hp,h1,h2=>by
  have h1':=List.pairwise_cons.1 h1
  have h2':=List.pairwise_cons.1 h2
  have hxy:x=y:=by
   rcases List.mem_cons.1 (hp.mem_iff.1 (List.mem_cons_self ..):x∈y::l2) with h|hx
   exact h
   rcases List.mem_cons.1 (hp.mem_iff.2 (List.mem_cons_self ..):y∈x::l1) with h|hy
   exact h.symm
   have a:=h2'.1 x hx
   have b:=h1'.1 y hy
   rw[a] at b;cases b
  subst hxy
  rw[yT ((List.perm_cons x).1 hp) h1'.2 h2'.2]
def ew(x:Kv):List Kv->List Kv
 | []=>[x]
 |y::l=>if al x.1 y.1 then x::y::l else y::ew x l
theorem fl(x:Kv):∀l,(ew x l).Perm (x::l)
 | []=>List.Perm.refl _
 |y::l=>by
  rw[ew]
  split
  exact List.Perm.refl _
  ·exact((fl x l).cons y).trans (List.Perm.swap _ _ _)
theorem wy{x:Kv}(hx:4<=x.1.size):∀{l:List Kv},(∀y∈l,4<=y.1.size/\y.1≠x.1)->l.Pairwise (fun a b=>al a.1 b.1=true)->(ew x l).Pairwise (fun a b=>al a.1 b.1=true)
 | [],_,_=>List.pairwise_singleton _ _
 |y::l,h,hp=>by
  obtain⟨h1,h2⟩:=List.pairwise_cons.1 hp
  rw[ew]
  split
  rename_i hl
  refine List.pairwise_cons.2 ⟨fun z hz=>?_,hp⟩
  rcases List.mem_cons.1 hz with rfl|hz
  exact hl
  exact gZ hl (h1 z hz)
  rename_i hl
  have hl:al x.1 y.1=false:=by simpa using hl
  refine List.pairwise_cons.2 ⟨fun z hz=>?_,wy hx (fun z hz=>h z (by simp[hz])) h2⟩
  rcases List.mem_cons.1 ((fl x l).mem_iff.1 hz) with rfl|hz
  cases hc:al y.1 z.1 with
  |true=>rfl
  |false=>exact absurd (jK (h y (by simp)).1 hx hc hl) (h y (by simp)).2
  exact h1 z hz
theorem Bc{x y:Kv}{l:List Kv}(h:al x.1 y.1=false):ew x (y::l)=y::ew x l:=by rw[ew,h];rfl
theorem wQ{ps:List PgS}{x:Int}{n:NoD}(h:av ps x=some n):(n.es.map kv).Pairwise (fun a b=>al b.1 a.1=false)/\∀e∈n.es,4<=e.1.size:=by
 obtain⟨h1,h2⟩:=me (gB h).2.2
 exact⟨List.pairwise_map.2 h1,h2⟩
theorem sa{ps:List PgS}{x:Int}{n:NoD}{l:List Kv}(h:av ps x=some n)(hp:(n.es.map kv).Perm l)(hr:l.Pairwise (fun a b=>al a.1 b.1=true)):n.es.map kv=l:=yT hp (wQ h).1 hr
theorem dq.mem{ps:List PgS}{lv:Int}:∀{pre:List AbN}{a:AbN}{suf:List AbN},dq ps lv (pre++a::suf)->IsN ps lv a suf/\dq ps lv suf
 | [],_,_,h=>h
 |_::pre,_,_,h=>dq.mem (pre:=pre) h.2
theorem IsN.cong{ps ps':List PgS}{lv:Int}{a:AbN}{suf suf':List AbN}(h:IsN ps lv a suf)(hn:av ps' a.pg=av ps a.pg)(hr:rtA suf'=rtA suf)(hh:hiA suf'=hiA suf):IsN ps' lv a suf':=by
 obtain⟨n,h1,h2,h3,h4,h5,h6⟩:=h
 exact⟨n,hn.trans h1,h2,h3,h4.trans hr.symm,h5.trans hh.symm,h6⟩
theorem dq.keep{ps ps':List PgS}{lv:Int}:∀{l:List AbN},dq ps lv l->(∀a∈l,av ps' a.pg=av ps a.pg)->dq ps' lv l
 | [],_,_=>trivial
 |a::l,h,hn=>⟨h.1.cong (hn a (by simp)) rfl rfl,dq.keep h.2 fun b hb=>hn b (by simp[hb])⟩
theorem dq.repl{ps ps':List PgS}{lv:Int}{a a':AbN}{suf suf':List AbN}(hpg:a'.pg=a.pg)(hlow:a'.low=a.low)(hnew:dq ps' lv (a'::suf')):∀{pre:List AbN},dq ps lv (pre++a::suf)->(∀b∈pre,av ps' b.pg=av ps b.pg)->dq ps' lv (pre++a'::suf')
 | [],_,_=>hnew
 |b::pre,h,hn=>by
  refine⟨h.1.cong (hn b (by simp)) ?_ ?_,dq.repl hpg hlow hnew (pre:=pre) h.2 fun c hc=>hn c (by simp[hc])⟩
  cases pre with
  |nil=>exact hpg
  |cons c l=>rfl
  cases pre with
  |nil=>exact hlow
  |cons c l=>rfl
structure NdV (a:AbN):Prop where
 ris:a.es.Pairwise (fun x y=>al x.1 y.1=true)
 ge:∀e∈a.es,al e.1 a.low=false
 z4:∀e∈a.es,4<=e.1.size
 l4:4<=a.low.size
 len:a.es.length<=8
def LtA(a b:AbN):Prop:=al a.low b.low=true/\∀e∈a.es,al e.1 b.low=true
structure LvOk (l:List AbN):Prop where
 pw:l.Pairwise LtA
 nd:∀a∈l,NdV a
 hd:∃a t,l=a::t/\a.low=aF
def zS(up below:List AbN):Prop:=∀a∈up,(∃k t,a.es=(a.low,k)::t)/\∀e∈a.es,∃m∈below,m.pg=e.2/\m.low=e.1
def bK(T:List (List AbN)):List Int:=T.flatten.map AbN.pg
structure Tr (ps:List PgS) (T:List (List AbN)) (root:Int):Prop where
 rep:∀(k:Nat) l,T[k]? =some l->dq ps (k:Int) l
 lv:∀l∈T,LvOk l
 inn:∀(k:Nat) up below,T[k+1]? =some up->T[k]? =some below->zS up below
 top:∃r,T.getLast?=some [r]/\r.pg=root
 dist:(bK T).Nodup
 ht:T.length<=200
theorem Tr.level{ps:List PgS}{T:List (List AbN)}{root:Int}(h:Tr ps T root){k:Nat}{l:List AbN}(hk:T[k]? =some l):dq ps (k:Int) l/\LvOk l:=⟨h.rep k l hk,h.lv l (List.mem_of_getElem? hk)⟩
theorem Tr.node{ps:List PgS}{T:List (List AbN)}{root:Int}(h:Tr ps T root){k:Nat}{pre suf:List AbN}{a:AbN}(hk:T[k]? =some (pre++a::suf)):∃n,av ps a.pg=some n/\n.lv=(k:Int)/\n.dead=false/\n.right=rtA suf/\n.high=hiA suf/\n.es.map kv=a.es:=(dq.mem (h.rep k _ hk)).1
theorem fe{T:List (List AbN)}{k:Nat}{l:List AbN}{a:AbN}(hk:T[k]? =some l)(ha:a∈l):a.pg∈bK T:=List.mem_map.2 ⟨a,List.mem_flatten.2 ⟨l,List.mem_of_getElem? hk,ha⟩,rfl⟩
theorem eU{T:List (List AbN)}{k:Nat}{l:List AbN}(h:T[k]? =some l):∃T1 T2,T=T1++l::T2/\T1.length=k/\∀l',T.set k l'=T1++l'::T2:=by
 obtain⟨hk,rfl⟩:=List.getElem?_eq_some_iff.1 h
 refine⟨T.take k,T.drop (k+1),?_,by rw[List.length_take];omega,fun l'=>?_⟩
 rw[List.getElem_cons_drop,List.take_append_drop]
 rw[List.set_eq_take_append_cons_drop,if_pos hk]
theorem ez(T1:List (List AbN))(l:List AbN)(T2:List (List AbN)):bK (T1++l::T2)=bK T1++(l.map AbN.pg++bK T2):=by simp[bK]
theorem Tr.other{ps:List PgS}{T:List (List AbN)}{root:Int}(h:Tr ps T root){k j:Nat}{l m:List AbN}(hk:T[k]? =some l)(hj:T[j]? =some m)(hkj:k≠j){a b:AbN}(ha:a∈l)(hb:b∈m):a.pg≠b.pg:=by
 intro e
 have key:∀{k j:Nat}{l m:List AbN},T[k]? =some l->T[j]? =some m->k<j->∀{a b:AbN},a∈l->b∈m->a.pg≠b.pg:=by
  intro k j l m hk hj hlt a b ha hb e
  obtain⟨T1,T2,rfl,h1,_⟩:=eU hk
  have hm:m∈T2:=by
   rw[List.getElem?_append_right (by omega)] at hj
   obtain⟨i,hi⟩:∃i,j-T1.length=i+1:=⟨j-T1.length-1,by omega⟩
   rw[hi,List.getElem?_cons_succ] at hj
   exact List.mem_of_getElem? hj
  have hd:=h.dist
  rw[ez] at hd
  have h2:=(List.nodup_append.1 hd).2.1
  have h3:=(List.nodup_append.1 h2).2.2
  exact h3 a.pg (List.mem_map.2 ⟨a,ha,rfl⟩) b.pg (List.mem_map.2 ⟨b,List.mem_flatten.2 ⟨m,hm,hb⟩,rfl⟩) e
 rcases Nat.lt_or_ge k j with h1|h1
 exact key hk hj h1 ha hb e
 exact key hj hk (by omega) hb ha e.symm
theorem Tr.same{ps:List PgS}{T:List (List AbN)}{root:Int}(h:Tr ps T root){k:Nat}{pre suf:List AbN}{a:AbN}(hk:T[k]? =some (pre++a::suf)):(∀b∈pre,b.pg≠a.pg)/\∀b∈suf,b.pg≠a.pg:=by
 obtain⟨T1,T2,rfl,h1,_⟩:=eU hk
 have hd:=h.dist
 rw[ez] at hd
 have h2:=(List.nodup_append.1 (List.nodup_append.1 hd).2.1).1
 rw[List.map_append,List.map_cons] at h2
 have h3:=List.nodup_append.1 h2
 refine⟨fun b hb e=>h3.2.2 b.pg (List.mem_map.2 ⟨b,hb,rfl⟩) a.pg (List.mem_cons_self ..) e,fun b hb e=>?_⟩
 exact(List.nodup_cons.1 h3.2.1).1 (by rw[<-e];exact List.mem_map.2 ⟨b,hb,rfl⟩)
theorem Tr.repl{ps ps':List PgS}{T:List (List AbN)}{root:Int}(h:Tr ps T root){k:Nat}{pre suf mid:List AbN}{a a':AbN}(hk:T[k]? =some (pre++a::suf))(hpg:a'.pg=a.pg)(hlow:a'.low=a.low)
  (hnd:∀q∈bK T,q≠a.pg->av ps' q=av ps q) (hrep:dq ps' (k:Int) (a'::(mid++suf))) (hlv:LvOk (pre++a'::(mid++suf)))
  (hin:∀k0 below,k=k0+1->T[k0]? =some below->zS (pre++a'::(mid++suf)) below) (hmid:(mid.map AbN.pg).Nodup) (hnew:∀b∈mid,b.pg∉bK T) (htop:k+1<T.length\/mid=[]):
  Tr ps' (T.set k (pre++a'::(mid++suf))) root:=by
 obtain⟨hkl,-⟩:=List.getElem?_eq_some_iff.1 hk
 obtain⟨hpre,hsuf⟩:=h.same hk
 have get:∀j l,(T.set k (pre++a'::(mid++suf)))[j]? =some l->(j=k/\l=pre++a'::(mid++suf))\/(j≠k/\T[j]? =some l):=fun j l hj=>by
  by_cases e:j=k
  subst e
  rw[List.getElem?_set_self hkl] at hj
  injection hj with hj
  exact .inl ⟨rfl,hj.symm⟩
  rw[List.getElem?_set_ne (fun e2=>e e2.symm)] at hj
  exact .inr ⟨e,hj⟩
 have hmem:∀{j l b},T[j]? =some l->b∈l->j≠k->av ps' b.pg=av ps b.pg:=fun hj hb hjk=>
  hnd _ (fe hj hb) (h.other hj hk hjk hb (by simp))
 refine⟨fun j l hj=>?_,fun l hl=>?_,fun j up below hu hb=>?_,?_,?_,by rw[List.length_set];exact h.ht⟩
 rcases get j l hj with ⟨rfl,rfl⟩|⟨hjk,hj⟩
 exact dq.repl hpg hlow hrep (h.rep _ _ hk) fun b hb=>hnd _ (fe hk (by simp[hb])) (hpre b hb)
 exact(h.rep j l hj).keep fun b hb=>hmem hj hb hjk
 obtain⟨j,hj⟩:=List.mem_iff_getElem?.1 hl
 rcases get j l hj with ⟨_,rfl⟩|⟨_,hj⟩
 exact hlv
 exact h.lv l (List.mem_of_getElem? hj)
 rcases get _ _ hu with ⟨e1,rfl⟩|⟨hjk,hu2⟩
 rcases get _ _ hb with ⟨e2,_⟩|⟨_,hb⟩
 omega
 exact hin j below e1.symm hb
 rcases get _ _ hb with ⟨e2,rfl⟩|⟨_,hb⟩
 subst e2
 have hi:=h.inn _ _ _ hu2 hk
 intro c hc
 obtain⟨h1,h2⟩:=hi c hc
 refine⟨h1,fun e he=>?_⟩
 obtain⟨m,hm,hm1,hm2⟩:=h2 e he
 rcases List.mem_append.1 hm with hm|hm
 exact⟨m,by simp[hm],hm1,hm2⟩
 rcases List.mem_cons.1 hm with rfl|hm
 exact⟨a',by simp,hpg.trans hm1,hlow.trans hm2⟩
 exact⟨m,by simp[hm],hm1,hm2⟩
 exact h.inn j _ _ hu2 hb
 obtain⟨r,hr1,hr2⟩:=h.top
 rw[List.getLast?_eq_getElem?] at hr1
 by_cases ek:k=T.length-1
 have e:mid=[]:=htop.resolve_left (by omega)
 subst e
 rw[<-ek,hk] at hr1
 injection hr1 with hr1
 have hl:pre=[]/\a=r/\suf=[]:=by
  cases pre with
  |nil=>injection hr1 with h1 h2;exact⟨rfl,h1,h2⟩
  |cons c l=>exact absurd (congrArg List.length hr1) (by simp)
 obtain⟨rfl,rfl,rfl⟩:=hl
 refine⟨a',?_,hpg.trans hr2⟩
 rw[List.getLast?_eq_getElem?,List.length_set,<-ek,List.getElem?_set_self hkl];rfl
 refine⟨r,?_,hr2⟩
 rw[List.getLast?_eq_getElem?,List.length_set,List.getElem?_set_ne ek];exact hr1
 obtain⟨T1,T2,e1,h1,h2⟩:=eU hk
 rw[h2,ez]
 have hd:=h.dist
 rw[e1,ez] at hd
 have hp:(bK T1++((pre++a'::(mid++suf)).map AbN.pg++bK T2)).Perm (mid.map AbN.pg++(bK T1++((pre++a::suf).map AbN.pg++bK T2))):=by
  rw[List.perm_iff_count]
  intro x
  simp only[List.map_append,List.map_cons,hpg,List.count_append,List.count_cons]
  omega
 refine hp.nodup_iff.2 (List.nodup_append.2 ⟨hmid,hd,fun x hx y hy e=>?_⟩)
 obtain⟨b,hb,rfl⟩:=List.mem_map.1 hx
 subst e
 exact hnew b hb (by rw[e1,ez];exact hy)
end
section
open Go.RowKit
theorem LtA.trans_low{a b c:AbN}(hb:4<=b.low.size)(hc:4<=c.low.size)(h:LtA a b)(h2:al c.low b.low=false):LtA a c:=⟨mf hb hc h.1 h2,fun e he=>mf hb hc (h.2 e he) h2⟩
theorem LvOk.one{pre suf:List AbN}{a a':AbN}(h:LvOk (pre++a::suf))(hlow:a'.low=a.low)(hv:NdV a')(hs:∀c∈suf,∀e∈a'.es,al e.1 c.low=true):LvOk (pre++a'::suf):=by
 obtain⟨p1,p2,p3⟩:=List.pairwise_append.1 h.pw
 obtain⟨p4,p5⟩:=List.pairwise_cons.1 p2
 refine⟨List.pairwise_append.2 ⟨p1,List.pairwise_cons.2 ⟨fun c hc=>⟨by rw[hlow];exact(p4 c hc).1,hs c hc⟩,p5⟩,fun b hb c hc=>?_⟩,fun c hc=>?_,?_⟩
 rcases List.mem_cons.1 hc with rfl|hc
 have:=p3 b hb a (by simp)
 exact⟨by rw[hlow];exact this.1,fun e he=>by rw[hlow];exact this.2 e he⟩
 exact p3 b hb c (by simp[hc])
 rcases List.mem_append.1 hc with hc|hc
 exact h.nd c (by simp[hc])
 rcases List.mem_cons.1 hc with rfl|hc
 exact hv
 exact h.nd c (by simp[hc])
 obtain⟨x,t,hx,hl⟩:=h.hd
 cases pre with
 |nil=>
  injection hx with h1 h2
  exact⟨a',suf,rfl,by rw[hlow,h1];exact hl⟩
 |cons y l=>
  injection hx with h1 h2
  exact⟨y,l++a'::suf,rfl,by rw[h1];exact hl⟩
theorem LvOk.two{pre suf:List AbN}{a a' b:AbN}(h:LvOk (pre++a::suf))(hlow:a'.low=a.low)(hv:NdV a')(hvb:NdV b)(hab:LtA a' b)(h1:∀e∈a'.es,e∈a.es)(h2:∀e∈b.es,e∈a.es)(h3:∃e∈a.es,e.1=b.low):LvOk (pre++a'::b::suf):=by
 obtain⟨p1,p2,p3⟩:=List.pairwise_append.1 h.pw
 obtain⟨p4,p5⟩:=List.pairwise_cons.1 p2
 obtain⟨e0,he0,hl0⟩:=h3
 have hA:=h.nd a (by simp)
 refine⟨List.pairwise_append.2 ⟨p1,List.pairwise_cons.2 ⟨fun c hc=>?_,List.pairwise_cons.2 ⟨fun c hc=>?_,p5⟩⟩,fun c hc d hd=>?_⟩,fun c hc=>?_,?_⟩
 rcases List.mem_cons.1 hc with rfl|hc
 exact hab
 exact⟨by rw[hlow];exact(p4 c hc).1,fun e he=>(p4 c hc).2 e (h1 e he)⟩
 exact⟨by rw[<-hl0];exact(p4 c hc).2 e0 he0,fun e he=>(p4 c hc).2 e (h2 e he)⟩
 have hca:=p3 c hc a (by simp)
 rcases List.mem_cons.1 hd with rfl|hd
 exact⟨by rw[hlow];exact hca.1,fun e he=>by rw[hlow];exact hca.2 e he⟩
 rcases List.mem_cons.1 hd with rfl|hd
 exact hca.trans_low hA.l4 hvb.l4 (by rw[<-hl0];exact hA.ge e0 he0)
 exact p3 c hc d (by simp[hd])
 rcases List.mem_append.1 hc with hc|hc
 exact h.nd c (by simp[hc])
 rcases List.mem_cons.1 hc with rfl|hc
 exact hv
 rcases List.mem_cons.1 hc with rfl|hc
 exact hvb
 exact h.nd c (by simp[hc])
 obtain⟨x,t,hx,hl⟩:=h.hd
 cases pre with
 |nil=>
  injection hx with h1 h2
  exact⟨a',b::suf,rfl,by rw[hlow,h1];exact hl⟩
 |cons y l=>
  injection hx with h1 h2
  exact⟨y,l++a'::b::suf,rfl,by rw[h1];exact hl⟩
theorem Bi{es:List EnD}{x:ByteArray}(h:dU es x=false):∀e∈es,e.1≠x:=fun e he e2=>by
 have:=List.any_eq_false.1 h e he
 rw[e2] at this
 simp at this
theorem Hr{es:List EnD}{x:ByteArray}(h:dU es x=true):∃e∈es,e.1=x:=by
 obtain⟨e,he,h1⟩:=List.any_eq_true.1 h
 refine⟨e,he,d6 ?_⟩
 rw[beq_iff_eq,ByteArray.toList_eq,ByteArray.toList_eq] at h1
 exact h1
theorem LvOk.behind{pre suf:List AbN}{a:AbN}(h:LvOk (pre++a::suf)){x:ByteArray}(hx:∀b t,suf=b::t->al x b.low=true):∀c∈suf,al x c.low=true:=fun c hc=>by
 obtain⟨_,p2,_⟩:=List.pairwise_append.1 h.pw
 have p5:=(List.pairwise_cons.1 p2).2
 cases suf with
 |nil=>cases hc
 |cons b t=>
  rcases List.mem_cons.1 hc with rfl|hc
  exact hx _ _ rfl
  exact gZ (hx _ _ rfl) ((List.pairwise_cons.1 p5).1 c hc).1
theorem Tr.pg_lt{ps:List PgS}{T:List (List AbN)}{root:Int}(h:Tr ps T root){q:Int}(hq:q∈bK T):0<=q/\q<ps.length:=by
 obtain⟨a,ha,rfl⟩:=List.mem_map.1 hq
 obtain⟨l,hl,hal⟩:=List.mem_flatten.1 ha
 obtain⟨k,hk⟩:=List.mem_iff_getElem?.1 hl
 obtain⟨pre,suf,rfl⟩:=List.append_of_mem hal
 obtain⟨n,hn,_⟩:=h.node hk
 exact⟨(gB hn).1,(gB hn).2.1⟩
def fx(k:Nat)(kid:Int):Int:=if 0<(k:Int) then kid else -1
theorem Tr.put{ps:List PgS}{T:List (List AbN)}{root kid:Int}(h:Tr ps T root){k:Nat}{pre suf:List AbN}{a:AbN}{n:NoD}{x:ByteArray}(hk:T[k]? =some (pre++a::suf))(hn:av ps a.pg=some n)(h4:4<=x.size)(hge:al x a.low=false)
  (hlt:∀b t,suf=b::t->al x b.low=true) (hno:dU n.es x=false) (h8:n.es.length<8) (hps:ps.length<=60000) (hkid:∀k0,k=k0+1->∃below m,T[k0]? =some below/\m∈below/\m.pg=kid/\m.low=x):
  Tr (doB ps [(a.pg,(n.free:Int),itB (k:Int) kid x)]) (T.set k (pre++⟨a.pg,a.low,ew (x,fx k kid) a.es⟩::suf)) root:=by
 obtain⟨n0,hn0,hlv,hdd,hrt,hhi,hes⟩:=h.node hk
 rw[hn] at hn0
 injection hn0 with hn0
 subst hn0
 obtain⟨hrep,hL⟩:=h.level hk
 have hA:=hL.nd a (by simp)
 have hb:0<n.lv->0<=kid/\kid<65536:=fun h0=>by
  obtain⟨k0,rfl⟩:∃k0,k=k0+1:=⟨k-1,by omega⟩
  obtain⟨below,m,hm1,hm2,hm3,_⟩:=hkid k0 rfl
  have:=h.pg_lt (fe hm1 hm2)
  omega
 obtain⟨n',q1,⟨q2,q3,q4,q5⟩,q6⟩:=If hn (by omega) hb h4
 rw[hlv] at q1 q6
 have hne:∀y∈a.es,4<=y.1.size/\y.1≠x:=fun y hy=>by
  refine⟨hA.z4 y hy,?_⟩
  rw[<-hes] at hy
  obtain⟨e,he,rfl⟩:=List.mem_map.1 hy
  exact Bi hno e he
 have hris:=wy (x:=(x,fx k kid)) h4 hne hA.ris
 have hes':n'.es.map kv=ew (x,fx k kid) a.es:=by
  refine sa q1 ?_ hris
  refine(q6.map kv).trans ?_
  rw[List.map_cons,hes]
  exact(fl _ _).symm
 have hbeh:=hL.behind hlt
 obtain⟨_,pp,_⟩:=List.pairwise_append.1 hL.pw
 have hsuf:=(List.pairwise_cons.1 pp).1
 have hins:∀e,e∈ew (x,fx k kid) a.es->e=(x,fx k kid)\/e∈a.es:=fun e he=>List.mem_cons.1 ((fl _ _).mem_iff.1 he)
 have hv:NdV ⟨a.pg,a.low,ew (x,fx k kid) a.es⟩:=by
  refine⟨hris,fun e he=>?_,fun e he=>?_,hA.l4,?_⟩
  rcases hins e he with rfl|he
  exact hge
  exact hA.ge e he
  rcases hins e he with rfl|he
  exact h4
  exact hA.z4 e he
  have:=(fl (x,fx k kid) a.es).length_eq
  show (ew (x,fx k kid) a.es).length<=8
  rw[this,List.length_cons,<-hes,List.length_map];omega
 have hother:∀q,q≠a.pg->av (doB ps [(a.pg,(n.free:Int),itB (k:Int) kid x)]) q=av ps q:=fun q hq=>de fun e he=>by rw[List.mem_singleton.1 he];exact fun e=>hq e.symm
 refine h.repl (mid:=[]) (a':=⟨a.pg,a.low,ew (x,fx k kid) a.es⟩) hk rfl rfl (fun q _ hq=>hother q hq) ⟨⟨n',q1,q2.trans hlv,q5.trans hdd,q3.trans hrt,q4.trans hhi,hes'⟩,?_⟩ ?_ ?_ (List.nodup_nil) (fun b hb=>nomatch hb) (.inr rfl)
 exact(dq.mem hrep).2.keep fun b hb=>hother _ ((h.same hk).2 b hb)
 exact hL.one rfl hv fun c hc e he=>by
  rcases hins e he with rfl|he
  exact hbeh c hc
  exact(hsuf c hc).2 e he
 rintro k0 below rfl hb0 c hc
 have hin:=h.inn k0 _ _ hk hb0
 rcases List.mem_append.1 hc with hc|hc
 exact hin c (by simp[hc])
 rcases List.mem_cons.1 hc with rfl|hc
 obtain⟨⟨k1,t,h1⟩,h2⟩:=hin a (by simp)
 refine⟨⟨k1,ew (x,fx (k0+1) kid) t,?_⟩,fun e he=>?_⟩
 show ew (x,fx (k0+1) kid) a.es=(a.low,k1)::ew (x,fx (k0+1) kid) t
 rw[h1,Bc hge]
 rcases hins e he with rfl|he
 obtain⟨below',m,hm1,hm2,hm3,hm4⟩:=hkid k0 rfl
 rw[hb0] at hm1
 injection hm1 with hm1
 subst hm1
 exact⟨m,hm2,by rw[hm3,fx,if_pos (by omega)],hm4⟩
 exact h2 e he
 have hc:c∈suf:=hc
 exact hin c (by simp[hc])
theorem D3{l:List Kv}(m:Nat)(h:l.Pairwise (fun x y=>al x.1 y.1=true)):(l.take m).Pairwise (fun x y=>al x.1 y.1=true)/\(l.drop m).Pairwise (fun x y=>al x.1 y.1=true)/\∀x∈l.take m,∀y∈l.drop m,al x.1 y.1=true:=by
 rw[<-List.take_append_drop m l] at h
 exact List.pairwise_append.1 h
theorem Tr.cut{ps:List PgS}{T:List (List AbN)}{root fresh:Int}(h:Tr ps T root){k:Nat}{pre suf:List AbN}{a:AbN}{n:NoD}(hk:T[k]? =some (pre++a::suf))(hn:av ps a.pg=some n)(h8:¬n.es.length<8)(htop:k+1<T.length)
  (hits:∀p∈ps,p.2.2.length<=101) (hps:ps.length<=60000) (hf0:0<=fresh) (hf1:fresh<ps.length) (hff:fresh∉bK T):
  Tr (doB ps (db a.pg n fresh)) (T.set k (pre++⟨a.pg,a.low,a.es.take 4⟩::⟨fresh,cf n,a.es.drop 4⟩::suf)) root/\a.es.length=8/\∃kd t,a.es.drop 4=(cf n,kd)::t:=by
 obtain⟨n0,hn0,hlv,hdd,hrt,hhi,hes⟩:=h.node hk
 rw[hn] at hn0
 injection hn0 with hn0
 subst hn0
 obtain⟨hrep,hL⟩:=h.level hk
 have hA:=hL.nd a (by simp)
 have hlen:n.es.length=a.es.length:=by rw[<-hes,List.length_map]
 have hl8:a.es.length=8:=by have:=hA.len;omega
 have hhalf:n.es.length / 2=4:=by omega
 have hg:(n.es.getD 4 (ByteArray.empty,0,0)).1=cf n:=by rw[cf,hhalf]
 have hn4:4<n.es.length:=by omega
 have hmid:n.es[4]'hn4∈n.es:=List.getElem_mem _
 have hmE:cf n=(n.es[4]'hn4).1:=by rw[<-hg,List.getD_eq_getElem?_getD,List.getElem?_eq_getElem hn4];rfl
 have hm4:4<=(cf n).size:=by rw[hmE];exact(wQ hn).2 _ hmid
 have hdrop:a.es.drop 4=(cf n,(n.es[4]'hn4).2.2)::a.es.drop 5:=by
  rw[<-hes,<-List.map_drop,List.drop_eq_getElem_cons hn4,List.map_cons,<-List.map_drop,hmE];rfl
 obtain⟨mI,g7,_⟩:=gB hn
 have hne:fresh≠a.pg:=fun e=>hff (by rw[e];exact fe hk (by simp))
 obtain⟨⟨n1,f1,f2,f3,f4,f5,f6⟩,⟨n2,c1,c2,c3,c4,c5,c6⟩,hoth⟩:=HL hn (hits _ (cz (l:=ps) (n:=a.pg.toNat) (d:=aT) (by omega)).2) hf0 hf1 hps hne (by omega) hm4
 obtain⟨r1,r2,r3⟩:=D3 4 hA.ris
 have hmem:(cf n,(n.es[4]'hn4).2.2)∈a.es:=List.mem_of_mem_drop (by rw[hdrop];exact List.mem_cons_self ..)
 have e1:n1.es.map kv=a.es.drop 4:=sa f1 (by rw[hhalf] at f6;refine f6.trans (List.Perm.of_eq ?_);rw[List.map_drop,hes]) r2
 have e2:n2.es.map kv=a.es.take 4:=sa c1 (by rw[hhalf] at c6;refine(c6.map kv).trans (List.Perm.of_eq ?_);rw[List.map_take,hes]) r1
 have aW:NdV ⟨a.pg,a.low,a.es.take 4⟩:=⟨r1,fun e he=>hA.ge e (List.mem_of_mem_take he),fun e he=>hA.z4 e (List.mem_of_mem_take he),hA.l4,by show (a.es.take 4).length<=8;rw[List.length_take];omega⟩
 have hvb:NdV ⟨fresh,cf n,a.es.drop 4⟩:=by
  refine⟨r2,fun e he=>?_,fun e he=>hA.z4 e (List.mem_of_mem_drop he),hm4,by show (a.es.drop 4).length<=8;rw[List.length_drop];omega⟩
  show al e.1 (cf n)=false
  rw[hdrop] at he r2
  rcases List.mem_cons.1 he with rfl|he
  exact lI _
  exact m5 ((List.pairwise_cons.1 r2).1 e he)
 have hab:LtA ⟨a.pg,a.low,a.es.take 4⟩ ⟨fresh,cf n,a.es.drop 4⟩:=by
  have hz:0<(a.es.take 4).length:=by rw[List.length_take];omega
  have key:∀e∈a.es.take 4,al e.1 (cf n)=true:=fun e he=>r3 e he _ (by rw[hdrop];exact List.mem_cons_self ..)
  have h0:=List.getElem_mem hz
  exact⟨yc hA.l4 (hA.z4 _ (List.mem_of_mem_take h0)) (hA.ge _ (List.mem_of_mem_take h0)) (key _ h0),key⟩
 refine⟨?_,hl8,_,_,hdrop⟩
 refine h.repl (mid:=[⟨fresh,cf n,a.es.drop 4⟩]) (a':=⟨a.pg,a.low,a.es.take 4⟩) hk rfl rfl (fun q hq hqa=>hoth q (fun e=>hff (e ▸ hq)) hqa) ⟨⟨n2,c1,c2.trans hlv,c5,c3,c4,e2⟩,⟨n1,f1,f2.trans hlv,f5,f3.trans hrt,f4.trans hhi,e1⟩,?_⟩ ?_ ?_ (by simp) (fun b hb=>by rw[List.mem_singleton.1 hb];exact hff) (.inl htop)
 exact(dq.mem hrep).2.keep fun b hb=>hoth _ (fun e=>hff (by rw[<-e];exact fe hk (by simp[hb]))) ((h.same hk).2 b hb)
 exact hL.two rfl aW hvb hab (fun e he=>List.mem_of_mem_take he) (fun e he=>List.mem_of_mem_drop he) ⟨_,hmem,rfl⟩
 rintro k0 below rfl hb0 c hc
 have hin:=h.inn k0 _ _ hk hb0
 obtain⟨⟨k1,t,h1⟩,h2⟩:=hin a (by simp)
 rcases List.mem_append.1 hc with hc|hc
 exact hin c (by simp[hc])
 rcases List.mem_cons.1 hc with rfl|hc
 refine⟨⟨k1,t.take 3,?_⟩,fun e he=>h2 e (List.mem_of_mem_take he)⟩
 show a.es.take 4= _
 rw[h1];rfl
 rcases List.mem_cons.1 hc with rfl|hc
 exact⟨⟨_,_,hdrop⟩,fun e he=>h2 e (List.mem_of_mem_drop he)⟩
 have hc:c∈suf:=hc
 exact hin c (by simp[hc])
theorem vw:∀(n:Nat) (l:List Int),l.Nodup->(∀x∈l,0<=x/\x<(n:Int))->l.length<=n
 |0,l,_,h=>by
  cases l with
  |nil=>exact Nat.le_refl _
  |cons x l=>have:=h x (by simp);omega
 |n+1,l,hd,h=>by
  have h1:=vw n (l.erase (n:Int)) (hd.erase _) fun x hx=>by
   have h2:=h x (List.mem_of_mem_erase hx)
   have h3:x≠(n:Int):=fun e=>by rw[e] at hx;exact(List.Nodup.not_mem_erase hd) hx
   omega
  have h4:=List.length_erase (a:=(n:Int)) (l:=l)
  split at h4<;>omega
theorem vS(T:List (List AbN))(l:List AbN):bK (T++[l])=bK T++l.map AbN.pg:=by simp[bK]
theorem Bm:∀(T:List (List AbN)),(∀l∈T,l≠[])->T.length<=(bK T).length
 | [],_=>Nat.zero_le _
 |l::T,h=>by
  have h1:=Bm T fun m hm=>h m (by simp[hm])
  have h2:0<l.length:=List.length_pos_iff.2 (h l (by simp))
  have h3:bK (l::T)=l.map AbN.pg++bK T:=by simp[bK]
  rw[h3,List.length_append,List.length_map,List.length_cons];omega
theorem Tr.bd{ps:List PgS}{T:List (List AbN)}{root:Int}(h:Tr ps T root):(bK T).length<=ps.length/\T.length<=(bK T).length:=by
 refine⟨vw _ _ h.dist fun x hx=>h.pg_lt hx,Bm T fun l hl e=>?_⟩
 obtain⟨a,t,h1,_⟩:=(h.lv l hl).hd
 rw[e] at h1;cases h1
theorem Tr.root{ps:List PgS}{T:List (List AbN)}{root:Int}(h:Tr ps T root):∃T0 r,T=T0++[[r]]/\r.pg=root/\r.low=aF/\T[T0.length]? =some [r]:=by
 obtain⟨r,h1,h2⟩:=h.top
 obtain⟨T0,rfl⟩:=List.getLast?_eq_some_iff.1 h1
 obtain⟨a,t,h3,h4⟩:=(h.lv [r] (by simp)).hd
 injection h3 with h3 _
 exact⟨T0,r,rfl,h2,by rw[h3];exact h4,by simp⟩
theorem Tr.grow{ps:List PgS}{T0:List (List AbN)}{root fresh:Int}{r:AbN}{n:NoD}(h:Tr ps (T0++[[r]]) root)(hr:r.pg=root)(hn:av ps root=some n)(hits:∀p∈ps,p.2.2.length<=101)(hps:ps.length<=150)(hf0:0<=fresh)(hf1:fresh<ps.length)(hff:fresh∉bK (T0++[[r]])):
  Tr (doB ps (dj root n fresh)) (T0++[[⟨fresh,r.low,r.es⟩],[⟨root,aF,[(aF,fresh)]⟩]]) root:=by
 have hk:(T0++[[r]])[T0.length]? =some ([]++r::[]):=by simp
 obtain⟨n0,hn0,hlv,hdd,hrt,hhi,hes⟩:=h.node hk
 rw[hr,hn] at hn0
 injection hn0 with hn0
 subst hn0
 obtain⟨hrep,hL⟩:=h.level hk
 have hA:=hL.nd r (by simp)
 have hlow:r.low=aF:=by
  obtain⟨a,t,h1,h2⟩:=hL.hd
  injection h1 with h1 _
  rw[h1];exact h2
 obtain⟨mI,g7,_⟩:=gB hn
 have hne:fresh≠root:=fun e=>hff (by rw[e,<-hr];exact fe hk (by simp))
 have hbd:=h.bd
 have hht:(T0++[[r]]).length=T0.length+1:=by simp
 have hlen:n.es.length=r.es.length:=by rw[<-hes,List.length_map]
 have hl8:=hA.len
 obtain⟨⟨n1,f1,f2,f3,f4,f5,f6⟩,⟨n2,c1,c2,c3,c4,c5,c6⟩,hoth⟩:=FF hn (hits _ (cz (l:=ps) (n:=root.toNat) (d:=aT) (by omega)).2) hf0 hf1 (by omega) hne (by omega) (by omega)
 have e1:n1.es.map kv=r.es:=sa f1 (f6.trans (List.Perm.of_eq hes)) hA.ris
 have hl4:4<=aF.size:=by rw[jH];omega
 have hother:∀{j:Nat}{l:List AbN}{b:AbN},T0[j]? =some l->b∈l->av (doB ps (dj root n fresh)) b.pg=av ps b.pg:=fun {j l b} hj hb=>by
  have hjl:=(List.getElem?_eq_some_iff.1 hj).1
  have hj':(T0++[[r]])[j]? =some l:=by rw[List.getElem?_append_left hjl];exact hj
  refine hoth _ (fun e=>hff (by rw[<-e];exact fe hj' hb)) ?_
  have:=h.other hj' hk (by omega) hb (b:=r) (by simp)
  rw[hr] at this;exact this
 have get:∀(j:Nat) l,(T0++[[⟨fresh,r.low,r.es⟩],[⟨root,aF,[(aF,fresh)]⟩]])[j]? =some l->(T0[j]? =some l/\j<T0.length)\/(j=T0.length/\l=[⟨fresh,r.low,r.es⟩])\/(j=T0.length+1/\l=[⟨root,aF,[(aF,fresh)]⟩]):=fun j l hj=>by
  rcases Nat.lt_or_ge j T0.length with h1|h1
  rw[List.getElem?_append_left h1] at hj;exact .inl ⟨hj,h1⟩
  rw[List.getElem?_append_right h1] at hj
  obtain⟨i,hi⟩:∃i,j-T0.length=i:=⟨_,rfl⟩
  rw[hi] at hj
  match i with
  |0=>injection hj with hj;exact .inr (.inl ⟨by omega,hj.symm⟩)
  |1=>injection hj with hj;exact .inr (.inr ⟨by omega,hj.symm⟩)
  |i+2=>cases hj
 refine⟨fun j l hj=>?_,fun l hl=>?_,fun j up below hu hb=>?_,⟨⟨root,aF,[(aF,fresh)]⟩,by simp,rfl⟩,?_,by simp;omega⟩
 rcases get j l hj with ⟨hj,hjl⟩|⟨rfl,rfl⟩|⟨rfl,rfl⟩
 exact(h.rep j l (by rw[List.getElem?_append_left hjl];exact hj)).keep fun b hb=>hother hj hb
 exact⟨⟨n1,f1,f2.trans hlv,f5,f3,f4,e1⟩,trivial⟩
 exact⟨⟨n2,c1,by rw[c2,hlv];rfl,c5,c3,c4,c6⟩,trivial⟩
 obtain⟨j,hj⟩:=List.mem_iff_getElem?.1 hl
 rcases get j l hj with ⟨hj,hjl⟩|⟨rfl,rfl⟩|⟨rfl,rfl⟩
 exact h.lv l (List.mem_append_left _ (List.mem_of_getElem? hj))
 exact⟨List.pairwise_singleton _ _,fun a ha=>by rw[List.mem_singleton.1 ha];exact⟨hA.ris,hA.ge,hA.z4,hA.l4,hA.len⟩,_,_,rfl,hlow⟩
 refine⟨List.pairwise_singleton _ _,fun a ha=>?_,_,_,rfl,rfl⟩
 rw[List.mem_singleton.1 ha]
 exact⟨List.pairwise_singleton _ _,fun e he=>by rw[List.mem_singleton.1 he];exact lI _,fun e he=>by rw[List.mem_singleton.1 he];exact hl4,hl4,by simp⟩
 rcases get _ _ hu with ⟨hu,hul⟩|⟨e1,rfl⟩|⟨e1,rfl⟩
 rcases get _ _ hb with ⟨hb,hbl⟩|⟨e2,_⟩|⟨e2,_⟩
 exact h.inn j _ _ (by rw[List.getElem?_append_left hul];exact hu) (by rw[List.getElem?_append_left hbl];exact hb)
 omega
 omega
 rcases get _ _ hb with ⟨hb,hbl⟩|⟨e2,_⟩|⟨e2,_⟩
 have hi:=h.inn j [r] below (by rw[e1];exact hk) (by rw[List.getElem?_append_left hbl];exact hb)
 intro c hc
 rw[List.mem_singleton.1 hc]
 exact hi r (by simp)
 omega
 omega
 rcases get _ _ hb with ⟨hb,hbl⟩|⟨e2,rfl⟩|⟨e2,_⟩
 omega
 intro c hc
 rw[List.mem_singleton.1 hc]
 refine⟨⟨fresh,[],rfl⟩,fun e he=>?_⟩
 rw[List.mem_singleton.1 he]
 exact⟨⟨fresh,r.low,r.es⟩,by simp,rfl,hlow⟩
 omega
 have hd:=h.dist
 rw[vS] at hd hff
 have e3:bK (T0++[[⟨fresh,r.low,r.es⟩],[⟨root,aF,[(aF,fresh)]⟩]])=bK T0++[fresh,root]:=by simp[bK]
 rw[e3]
 have hp:(bK T0++[fresh,root]).Perm (fresh::(bK T0++[r].map AbN.pg)):=by
  rw[show [r].map AbN.pg=[root] by rw[<-hr];rfl]
  exact List.perm_middle
 exact hp.nodup_iff.2 (List.nodup_cons.2 ⟨hff,hd⟩)
end
section
open Go.RowKit
def lN(T:List (List AbN))(pos:Int)(x:ByteArray)(tl:Int):Prop:=∃(k:Nat) (l:List AbN) (a:AbN),T[k]? =some l/\a∈l/\a.pg=pos/\tl<=(k:Int)/\al x a.low=false
def mA(T:List (List AbN))(t:TaT):Prop:=4<=t.1.size/\(t.2.1=0\/∃(j:Nat) (below:List AbN) (m:AbN),t.2.1=(j:Int)+1/\j+1<T.length/\T[j]? =some below/\m∈below/\m.pg=t.2.2/\m.low=t.1)
structure InsOk (T:List (List AbN)) (root:Int) (p:PuT):Prop where
 rt:p.root=root
 pos:∀t l,p.left=t::l->lN T p.pos t.1 t.2.1
 tasks:∀t∈p.left,mA T t
structure Evo (T T':List (List AbN)):Prop where
 pos:∀pos x tl,lN T pos x tl->lN T' pos x tl
 task:∀t,mA T t->mA T' t
theorem Evo.refl(T:List (List AbN)):Evo T T:=⟨fun _ _ _ h=>h,fun _ h=>h⟩
theorem Evo.repl{T:List (List AbN)}{k:Nat}{pre suf mid:List AbN}{a a':AbN}(hk:T[k]? =some (pre++a::suf))(hpg:a'.pg=a.pg)(hlow:a'.low=a.low):Evo T (T.set k (pre++a'::(mid++suf))):=by
 obtain⟨hkl,-⟩:=List.getElem?_eq_some_iff.1 hk
 have get:∀(j:Nat) l (c:AbN),T[j]? =some l->c∈l->∃l' c',(T.set k (pre++a'::(mid++suf)))[j]? =some l'/\c'∈l'/\c'.pg=c.pg/\c'.low=c.low:=fun j l c hj hc=>by
  by_cases e:j=k
  subst e
  rw[hk] at hj
  injection hj with hj
  subst hj
  refine⟨pre++a'::(mid++suf),?_⟩
  rw[List.getElem?_set_self hkl]
  rcases List.mem_append.1 hc with hc|hc
  exact⟨c,rfl,by simp[hc],rfl,rfl⟩
  rcases List.mem_cons.1 hc with rfl|hc
  exact⟨a',rfl,by simp,hpg,hlow⟩
  exact⟨c,rfl,by simp[hc],rfl,rfl⟩
  exact⟨l,c,by rw[List.getElem?_set_ne (fun e2=>e e2.symm)];exact hj,hc,rfl,rfl⟩
 refine⟨fun pos x tl h=>?_,fun t h=>⟨h.1,?_⟩⟩
 obtain⟨j,l,c,hj,hc,h1,h2,h3⟩:=h
 obtain⟨l',c',g1,g2,g3,g4⟩:=get j l c hj hc
 exact⟨j,l',c',g1,g2,g3.trans h1,h2,by rw[g4];exact h3⟩
 rcases h.2 with h0|⟨j,l,c,h1,h2,hj,hc,h3,h4⟩
 exact .inl h0
 obtain⟨l',c',g1,g2,g3,g4⟩:=get j l c hj hc
 exact .inr ⟨j,l',c',h1,by rw[List.length_set];exact h2,g1,g2,g3.trans h3,g4.trans h4⟩
theorem Evo.grow{T0:List (List AbN)}{root fresh:Int}{r:AbN}(hr:r.pg=root):Evo (T0++[[r]]) (T0++[[⟨fresh,r.low,r.es⟩],[⟨root,aF,[(aF,fresh)]⟩]]):=by
 have old:∀{j:Nat}{l:List AbN},(T0++[[r]])[j]? =some l->(j<T0.length/\(T0++[[⟨fresh,r.low,r.es⟩],[⟨root,aF,[(aF,fresh)]⟩]])[j]? =some l)\/(j=T0.length/\l=[r]):=fun {j l} hj=>by
  rcases Nat.lt_or_ge j T0.length with h1|h1
  rw[List.getElem?_append_left h1] at hj
  exact .inl ⟨h1,by rw[List.getElem?_append_left h1];exact hj⟩
  rw[List.getElem?_append_right h1] at hj
  obtain⟨i,hi⟩:∃i,j-T0.length=i:=⟨_,rfl⟩
  rw[hi] at hj
  match i with
  |0=>injection hj with hj;exact .inr ⟨by omega,hj.symm⟩
  |i+1=>cases hj
 refine⟨fun pos x tl h=>?_,fun t h=>⟨h.1,?_⟩⟩
 obtain⟨j,l,c,hj,hc,h1,h2,h3⟩:=h
 rcases old hj with ⟨_,hj⟩|⟨rfl,rfl⟩
 exact⟨j,l,c,hj,hc,h1,h2,h3⟩
 rw[List.mem_singleton] at hc
 subst hc
 refine⟨T0.length+1,[⟨root,aF,[(aF,fresh)]⟩],_,?_,List.mem_singleton.2 rfl,hr.symm.trans h1,by omega,m8 _⟩
 rw[List.getElem?_append_right (by omega),show T0.length+1-T0.length=1 by omega];rfl
 rcases h.2 with h0|⟨j,l,c,h1,h2,hj,hc,h3,h4⟩
 exact .inl h0
 rcases old hj with ⟨h5,hj⟩|⟨rfl,rfl⟩
 exact .inr ⟨j,l,c,h1,by simp at h2 |-;omega,hj,hc,h3,h4⟩
 simp at h2
inductive Mv (T:List (List AbN)) (tl:Int) (pos pos':Int):Prop
 |right (k:Nat) (pre suf:List AbN) (a b:AbN) (hk:T[k]? =some (pre++a::b::suf)) (h1:a.pg=pos) (h2:b.pg=pos') (h3:tl<=(k:Int))
 |down (k:Nat) (l below:List AbN) (a m:AbN) (hk:T[k+1]? =some l) (ha:a∈l) (hb:T[k]? =some below) (hm:m∈below) (h1:a.pg=pos) (h2:m.pg=pos') (h3:tl<=(k:Int))
inductive Out (T T':List (List AbN)) (p p':PuT) (g:GoT) (fresh:Int):Prop
 |idle (h:p.left=[]) (hT:T'=T) (hl:p'.left=[]) (hf:p'.leaf=p.leaf) (hu:g.used=false) (he:g.eds=[])
 |move (t:TaT) (l:List TaT) (h:p.left=t::l) (hT:T'=T) (hl:p'.left=t::l) (hf:p'.leaf=p.leaf) (hu:g.used=false) (he:g.eds=[]) (hm:Mv T t.2.1 p.pos p'.pos)
 |there (t:TaT) (l:List TaT) (k:Nat) (pre suf:List AbN) (a:AbN) (h:p.left=t::l) (hk:t.2.1=(k:Int)) (hT:T'=T) (ht:T[k]? =some (pre++a::suf)) (hin:∃y∈a.es,y.1=t.1) (hl:p'.left=l) (hf:p'.leaf=if k=0 then a.pg else p.leaf) (hu:g.used=false) (he:g.eds=[])
 |put (t:TaT) (l:List TaT) (k:Nat) (pre suf:List AbN) (a:AbN) (h:p.left=t::l) (hk:t.2.1=(k:Int)) (ht:T[k]? =some (pre++a::suf)) (hT:T'=T.set k (pre++⟨a.pg,a.low,ew (t.1,fx k t.2.2) a.es⟩::suf)) (hno:∀y∈a.es,y.1≠t.1) (hl:p'.left=l) (hf:p'.leaf=if k=0 then a.pg else p.leaf) (hu:g.used=false)
 |cut (t:TaT) (l:List TaT) (k:Nat) (pre suf:List AbN) (a:AbN) (mid:ByteArray) (h:p.left=t::l) (hk:t.2.1=(k:Int)) (ht:T[k]? =some (pre++a::suf)) (h8:a.es.length=8) (htop:k+1<T.length) (hT:T'=T.set k (pre++⟨a.pg,a.low,a.es.take 4⟩::⟨fresh,mid,a.es.drop 4⟩::suf)) (hl:p'.left=t::l++[(mid,(k:Int)+1,fresh)]) (hf:p'.leaf=p.leaf) (hp:p'.pos=p.pos) (hpa:a.pg=p.pos) (hu:g.used=true)
 |grow (t:TaT) (l:List TaT) (T0:List (List AbN)) (r:AbN) (h:p.left=t::l) (hk:t.2.1=(T0.length:Int)) (ht:T=T0++[[r]]) (hr:r.pg=p.root) (h8:r.es.length=8) (hT:T'=T0++[[⟨fresh,r.low,r.es⟩],[⟨p.root,aF,[(aF,fresh)]⟩]]) (hl:p'.left=t::l) (hf:p'.leaf=p.leaf) (hp:p'.pos=fresh) (hpa:p.pos=p.root) (hu:g.used=true)
theorem qf{b:ByteArray}(h:4<=b.size):(b.toList==(⟨#[]⟩:ByteArray).toList)=false:=by
 rw[beq_eq_false_iff_ne,ByteArray.toList_eq,ByteArray.toList_eq]
 intro e
 have h2:=cK b
 have h3:bl b=[]:=e
 rw[h3] at h2
 simp at h2
 omega
def vJ:List AbN->ByteArray->Bool
 | [],_=>false
 |b:: _,x=>!al x b.low
theorem vG{n:NoD}{suf:List AbN}{x:ByteArray}(hd:n.dead=false)(hh:n.high=hiA suf)(h4:∀b∈suf,4<=b.low.size):da n.dead n.high x=vJ suf x:=by
 rw[da,hd,hh,Bool.false_or]
 cases suf with
 |nil=>rw[show (hiA []).toList=(⟨#[]⟩:ByteArray).toList from rfl,beq_self_eq_true];rfl
 |cons b s=>
  show (!(b.low.toList==(⟨#[]⟩:ByteArray).toList)&&!al x b.low)= _
  rw[qf (h4 b (by simp))];rfl
theorem LvOk.l4{l:List AbN}(h:LvOk l):∀b∈l,4<=b.low.size:=fun b hb=>(h.nd b hb).l4
theorem F3{es:List EnD}{x:ByteArray}(hk:∀e∈es,0<=e.2.2)(hr:es.Pairwise (fun a b=>al a.1 b.1=true))(h4:∀e∈es,4<=e.1.size)(hx:4<=x.size)(h0:∃e∈es,al x e.1=false):∃e∈es,cm x es (-1)=e.2.2/\al x e.1=false:=by
 have key:∀(r l:List EnD),es=r.reverse++l->(∀y∈l,al x y.1=true)->(∃e∈r,al x e.1=false)->∃e∈es,cm x es (-1)=e.2.2/\al x e.1=false:=by
  intro r
  induction r with
  |nil=>rintro l _ _ ⟨e,he,_⟩;cases he
  |cons c r ih=>
   intro l he hl hex
   cases hc:al x c.1 with
   |false=>
    refine⟨c,by rw[he];simp,?_,hc⟩
    have e2:es=r.reverse++c::l:=by rw[he,List.reverse_cons,List.append_assoc];rfl
    rw[e2]
    exact ub (hk c (by rw[he];simp)) hc hl
   |true=>
    refine ih (c::l) (by rw[he,List.reverse_cons,List.append_assoc];rfl) (fun y hy=>?_) ?_
    rcases List.mem_cons.1 hy with rfl|hy
    exact hc
    exact hl y hy
    obtain⟨e,he1,he2⟩:=hex
    rcases List.mem_cons.1 he1 with rfl|he1
    rw[hc] at he2;cases he2
    exact⟨e,he1,he2⟩
 exact key es.reverse [] (by simp) (fun y hy=>nomatch hy) (by obtain⟨e,he,h⟩:=h0;exact⟨e,by simpa using he,h⟩)
theorem oh{es:List EnD}{l:List Kv}(h:es.map kv=l){e:EnD}(he:e∈es):(e.1,e.2.2)∈l:=by rw[<-h];exact List.mem_map.2 ⟨e,he,rfl⟩
theorem Tr.down{ps:List PgS}{T:List (List AbN)}{root:Int}(h:Tr ps T root){k:Nat}{pre suf:List AbN}{a:AbN}{n:NoD}{x:ByteArray}(hk:T[k+1]? =some (pre++a::suf))(hn:av ps a.pg=some n)(hx:4<=x.size)(hge:al x a.low=false):
  ∃below m,T[k]? =some below/\m∈below/\cm x n.es (-1)=m.pg/\al x m.low=false:=by
 obtain⟨n0,hn0,hlv,hdd,hrt,hhi,hes⟩:=h.node hk
 rw[hn] at hn0
 injection hn0 with hn0
 subst hn0
 have hkl:=(List.getElem?_eq_some_iff.1 hk).1
 have hb:T[k]? =some (T[k]'(by omega)):=List.getElem?_eq_getElem (by omega)
 obtain⟨⟨k1,t,h1⟩,h2⟩:=h.inn k _ _ hk hb a (by simp)
 have hA:=(h.level hk).2.nd a (by simp)
 have h4:=(wQ hn).2
 have hr:n.es.Pairwise (fun a b=>al a.1 b.1=true):=by have:=hA.ris;rw[<-hes] at this;exact List.pairwise_map.1 this
 have hkid:=(uU (gB hn).2.2).2.2.2
 obtain⟨e,he,hd,hl⟩:=F3 (x:=x) (fun e he=>((hkid e he).1 (by omega)).1) hr h4 hx (by
  have hm:(a.low,k1)∈n.es.map kv:=by rw[hes,h1];exact List.mem_cons_self ..
  obtain⟨e,he,he2⟩:=List.mem_map.1 hm
  injection he2 with e1 e2
  exact⟨e,he,by rw[e1];exact hge⟩)
 obtain⟨m,hm,hm1,hm2⟩:=h2 _ (oh hes he)
 exact⟨_,m,hb,hm,hd.trans hm1.symm,by rw[hm2];exact hl⟩
theorem Tr.at_root{ps:List PgS}{T:List (List AbN)}{root:Int}(h:Tr ps T root){k:Nat}{l:List AbN}{a:AbN}(hk:T[k]? =some l)(ha:a∈l)(hp:a.pg=root):k+1=T.length:=by
 obtain⟨T0,r,e,h1,_,h2⟩:=h.root
 by_cases hj:k=T0.length
 rw[e,hj];simp
 exact absurd (hp.trans h1.symm) (h.other hk h2 hj ha (by simp))
theorem Tr.not_root{ps:List PgS}{T:List (List AbN)}{root:Int}(h:Tr ps T root){k:Nat}{l:List AbN}{a:AbN}(hk:T[k]? =some l)(ha:a∈l)(hp:a.pg≠root):k+1<T.length:=by
 obtain⟨T0,r,e,h1,_,h2⟩:=h.root
 have hkl:=(List.getElem?_eq_some_iff.1 hk).1
 by_cases hj:k=T0.length
 subst hj
 rw[hk] at h2
 injection h2 with h2
 rw[h2] at ha
 rw[List.mem_singleton.1 ha] at hp
 exact absurd h1 hp
 have:T.length=T0.length+1:=by rw[e];simp
 omega
theorem vy{ps:List PgS}{T:List (List AbN)}{root:Int}(h:Tr ps T root){t:TaT}(ht:mA T t):lN T root t.1 t.2.1:=by
 obtain⟨T0,r,e,h1,h2,h3⟩:=h.root
 refine⟨T0.length,[r],r,h3,by simp,h1,?_,by rw[h2];exact m8 _⟩
 have:T.length=T0.length+1:=by rw[e];simp
 rcases ht.2 with h0|⟨j,_,_,h4,h5,_⟩
 omega
 omega
theorem DX{ps:List PgS}{T:List (List AbN)}{root fresh:Int}{p:PuT}(h:Tr ps T root)(hi:InsOk T root p)(hits:∀q∈ps,q.2.2.length<=101)(hps:ps.length<=150)(hf0:0<=fresh)(hf1:fresh<ps.length)(hff:fresh∉bK T):
  ∃T',Tr (doB ps (bg ps p fresh).2.eds) T' root/\InsOk T' root (bg ps p fresh).1/\Evo T T'/\(bg ps p fresh).2.err=0/\Out T T' p (bg ps p fresh).1 (bg ps p fresh).2 fresh:=by
 obtain⟨root',pos,leaf,left,fro,to,spl⟩:=p
 have hrt:root'=root:=hi.rt
 subst hrt
 have hnil:Tr (doB ps []) T root':=h
 cases left with
 |nil=>
  refine⟨T,hnil,⟨rfl,fun t l e=>(nomatch e),fun t ht=>(nomatch ht)⟩,Evo.refl T,rfl,.idle rfl rfl rfl rfl rfl rfl⟩
 |cons t l=>
  obtain⟨te,tl,tk⟩:=t
  obtain⟨k,lv,a,hk,ha,hpg,htl,hge⟩:=hi.pos _ _ rfl
  have hpg:a.pg=pos:=hpg
  have htl:tl<=(k:Int):=htl
  have hge:al te a.low=false:=hge
  obtain⟨pre,suf,rfl⟩:=List.append_of_mem ha
  obtain⟨n,hn,hlv,hdd,hrt,hhi,hes⟩:=h.node hk
  have hL:=(h.level hk).2
  have htask:mA T (te,tl,tk):=hi.tasks _ (List.mem_cons_self ..)
  have h4:4<=te.size:=htask.1
  have hsn:=vG (x:=te) hdd hhi fun b hb=>hL.l4 b (by simp[hb])
  rw[hpg] at hn
  have hA:=hL.nd a (by simp)
  cases hs:da n.dead n.high te with
  |true=>
   rw[hs] at hsn
   cases suf with
   |nil=>cases hsn
   |cons b suf=>
    have hb0:al te b.low=false:=by simpa[vJ] using hsn.symm
    have hbp:=h.pg_lt (fe hk (a:=b) (by simp))
    have hr0:¬n.right<0:=by rw[hrt];show ¬b.pg<0;omega
    rw[m6 hn hs hr0]
    refine⟨T,hnil,⟨rfl,fun t l' e=>?_,hi.tasks⟩,Evo.refl T,rfl,.move _ _ rfl rfl rfl rfl rfl rfl (.right k pre suf a b hk hpg hrt.symm htl)⟩
    injection e with e1 e2
    subst e1
    exact⟨k,_,b,hk,by simp,hrt.symm,htl,hb0⟩
  |false=>
   have hlt:∀b s,suf=b::s->al te b.low=true:=by
    rintro b s rfl
    rw[hs] at hsn
    cases hc:al te b.low with
    |true=>rfl
    |false=>simp[vJ,hc] at hsn
   by_cases hl:tl<n.lv
   obtain⟨k0,rfl⟩:∃k0,k=k0+1:=by
    refine⟨k-1,?_⟩
    have:0<=tl:=by
     rcases htask.2 with h0|⟨j,_,_,h1,_⟩
     exact Int.le_of_eq h0.symm
     have h1:tl=(j:Int)+1:=h1
     omega
    omega
   obtain⟨below,m,hb,hm,hd,hml⟩:=h.down hk (by rw[hpg];exact hn) h4 hge
   rw[pG hn hs hl]
   have htk:tl<=(k0:Int):=by omega
   refine⟨T,hnil,⟨rfl,fun t l' e=>?_,hi.tasks⟩,Evo.refl T,rfl,.move _ _ rfl rfl rfl rfl rfl rfl (.down k0 _ below a m hk (by simp) hb hm hpg hd.symm htk)⟩
   injection e with e1 e2
   subst e1
   exact⟨k0,below,m,hb,hm,hd.symm,htk,hml⟩
   have hkt:tl=(k:Int):=by omega
   have hm:¬n.lv<tl:=by omega
   have hrest:∀{T':List (List AbN)}{q:PuT},Tr (doB ps (bg ps ⟨root',pos,leaf,(te,tl,tk)::l,fro,to,spl⟩ fresh).2.eds) T' root'->Evo T T'->q.root=root'->q.pos=root'->q.left=l->InsOk T' root' q:=fun {T' q} hT hev e1 e2 e3=>by
    refine⟨e1,fun t l' e=>?_,fun t ht=>?_⟩
    rw[e2]
    exact vy hT (hev.task t (hi.tasks t (by rw[e3] at e;show t∈(te,tl,tk)::l;rw[e];simp)))
    rw[e3] at ht
    exact hev.task t (hi.tasks t (List.mem_cons_of_mem _ ht))
   cases ht:dU n.es te with
   |true=>
    have e0:=kS (root:=root') (leaf:=leaf) (lf:=l) (tk:=tk) (fro:=fro) (to:=to) (spl:=spl) (fresh:=fresh) hn hs hl hm ht
    obtain⟨e,he,hee⟩:=Hr ht
    refine⟨T,by rw[e0];exact hnil,hrest (by rw[e0];exact hnil) (Evo.refl T) (by rw[e0]) (by rw[e0]) (by rw[e0]),Evo.refl T,by rw[e0],?_⟩
    rw[e0]
    refine .there _ _ k pre suf a rfl hkt rfl hk ⟨_,oh hes he,hee⟩ rfl ?_ rfl rfl
    show (if tl=0 then pos else leaf)= _
    rw[hpg]
    by_cases h0:k=0
    rw[if_pos h0,if_pos (by omega)]
    rw[if_neg h0,if_neg (by omega)]
   |false=>
    have hne:∀y∈a.es,y.1≠te:=fun y hy=>by
     rw[<-hes] at hy
     obtain⟨e,he,rfl⟩:=List.mem_map.1 hy
     exact Bi ht e he
    by_cases h8:n.es.length<8
    have e0:=nY (root:=root') (leaf:=leaf) (lf:=l) (tk:=tk) (fro:=fro) (to:=to) (spl:=spl) (fresh:=fresh) hn hs hl hm ht h8
    have hT:=h.put (kid:=tk) hk (by rw[hpg];exact hn) h4 hge hlt ht h8 (by omega) (by
     rintro k0 rfl
     rcases htask.2 with h0|⟨j,below,m,h1,h2,h3,h5,h6,h7⟩
     have h0:tl=0:=h0
     omega
     have h1:tl=(j:Int)+1:=h1
     obtain rfl:j=k0:=by omega
     exact⟨below,m,h3,h5,h6,h7⟩)
    rw[hpg,<-hkt] at hT
    have hev:Evo T (T.set k (pre++⟨pos,a.low,ew (te,fx k tk) a.es⟩::suf)):=Evo.repl (mid:=[]) hk hpg.symm rfl
    refine⟨_,by rw[e0];exact hT,hrest (by rw[e0];exact hT) hev (by rw[e0]) (by rw[e0]) (by rw[e0]),hev,by rw[e0],?_⟩
    rw[e0]
    refine .put _ _ k pre suf a rfl hkt hk (by rw[hpg]) hne rfl ?_ rfl
    show (if tl=0 then pos else leaf)= _
    rw[hpg]
    by_cases h0:k=0
    rw[if_pos h0,if_pos (by omega)]
    rw[if_neg h0,if_neg (by omega)]
    by_cases hr:pos=root'
    subst hr
    have e0:=tw (leaf:=leaf) (lf:=l) (tk:=tk) (fro:=fro) (to:=to) (spl:=spl) (fresh:=fresh) hn hs hl hm ht h8 (by omega) rfl
    obtain⟨T0,r,rfl,h1,h2,h3⟩:=h.root
    have hkT:=h.at_root hk (by simp) hpg
    obtain rfl:k=T0.length:=by simp at hkT;omega
    rw[hk] at h3
    injection h3 with h3
    have har:pre=[]/\a=r/\suf=[]:=by
     cases pre with
     |nil=>injection h3 with e1 e2;exact⟨rfl,e1,e2⟩
     |cons c s=>exact absurd (congrArg List.length h3) (by simp)
    obtain⟨rfl,rfl,rfl⟩:=har
    have hT:=h.grow h1 hn hits hps hf0 hf1 hff
    have hl8:a.es.length=8:=by have:=hA.len;rw[<-hes,List.length_map] at this |-;omega
    have hev:Evo (T0++[[a]]) (T0++[[⟨fresh,a.low,a.es⟩],[⟨pos,aF,[(aF,fresh)]⟩]]):=Evo.grow h1
    rw[e0]
    refine⟨_,hT,⟨rfl,fun t l' e=>?_,fun t ht=>hev.task t (hi.tasks t ht)⟩,hev,rfl,.grow _ _ T0 a rfl hkt rfl h1 hl8 rfl rfl rfl rfl rfl rfl⟩
    injection e with e1 e2
    subst e1
    exact⟨T0.length,_,⟨fresh,a.low,a.es⟩,by rw[List.getElem?_append_right (Nat.le_refl _),Nat.sub_self];rfl,by simp,rfl,htl,hge⟩
    have e0:=vq (leaf:=leaf) (lf:=l) (tk:=tk) (fro:=fro) (to:=to) (spl:=spl) (fresh:=fresh) hn hs hl hm ht h8 (by omega) hr
    have htop:=h.not_root hk (a:=a) (by simp) (by rw[hpg];exact hr)
    obtain⟨hT,hl8,kd,tt,hdr⟩:=h.cut (fresh:=fresh) hk (by rw[hpg];exact hn) h8 htop hits (by omega) hf0 hf1 hff
    rw[hpg] at hT
    have hev:Evo T (T.set k (pre++⟨pos,a.low,a.es.take 4⟩::([⟨fresh,cf n,a.es.drop 4⟩]++suf))):=Evo.repl hk hpg.symm rfl
    rw[e0]
    refine⟨_,hT,⟨rfl,fun t l' e=>?_,fun t ht=>?_⟩,hev,rfl,.cut _ _ k pre suf a (cf n) rfl hkt hk hl8 htop (by rw[hpg]) ?_ rfl rfl hpg rfl⟩
    injection e with e1 e2
    subst e1
    exact hev.pos _ _ _ (hi.pos _ _ rfl)
    rcases List.mem_append.1 ht with ht|ht
    exact hev.task t (hi.tasks t ht)
    rw[List.mem_singleton] at ht
    subst ht
    refine⟨?_,.inr ⟨k,_,⟨fresh,cf n,a.es.drop 4⟩,by show tl+1= _;omega,by rw[List.length_set];exact htop,List.getElem?_set_self (List.getElem?_eq_some_iff.1 hk).1,by simp,rfl,rfl⟩⟩
    have:(cf n,kd)∈a.es:=List.mem_of_mem_drop (by rw[hdr];exact List.mem_cons_self ..)
    exact hA.z4 _ this
    rw[hkt]
end
section
open Go.RowKit
def et(l:List AbN):Nat:=(l.map fun a=>a.es.length).sum
def lvA(T:List (List AbN))(k:Nat):List AbN:=T.getD k []
def lfs(T:List (List AbN)):List Kv:=(lvA T 0).flatMap AbN.es
theorem eS{T:List (List AbN)}{k:Nat}{l:List AbN}(h:T[k]? =some l):lvA T k=l:=by rw[lvA,List.getD_eq_getElem?_getD,h];rfl
theorem wV(l:List AbN):(l.flatMap AbN.es).length=et l:=by
 rw[List.length_flatMap];rfl
theorem LvOk.rises{l:List AbN}(h:LvOk l):(l.flatMap AbN.es).Pairwise (fun x y=>al x.1 y.1=true):=by
 rw[List.pairwise_flatMap]
 refine⟨fun a ha=>(h.nd a ha).ris,?_⟩
 refine h.pw.imp_of_mem fun {a b} ha hb hab x hx y hy=>?_
 exact mf (h.nd b hb).l4 ((h.nd b hb).z4 y hy) (hab.2 x hx) ((h.nd b hb).ge y hy)
theorem x8{l:List Kv}(h:l.Pairwise (fun x y=>al x.1 y.1=true)):(l.map Prod.fst).Nodup:=by
 rw[List.Nodup,List.pairwise_map]
 exact h.imp fun {a b} hab e=>by rw[e,lI] at hab;cases hab
theorem tC{α:Type}[DecidableEq α]:∀{l m:List α},l.Nodup->(∀x∈l,x∈m)->l.length<=m.length
 | [],_,_,_=>Nat.zero_le _
 |x::l,m,hd,h=>by
  have hx:=h x (by simp)
  have h1:=tC (l:=l) (m:=m.erase x) (List.nodup_cons.1 hd).2 fun y hy=>by
   have hne:y≠x:=fun e=>(List.nodup_cons.1 hd).1 (e ▸ hy)
   exact(List.mem_erase_of_ne hne).2 (h y (by simp[hy]))
  have h2:=List.length_erase_of_mem hx
  have h3:=List.length_pos_of_mem hx
  rw[List.length_cons];omega
theorem zS.le{up below:List AbN}(h:zS up below)(hu:LvOk up):et up<=below.length:=by
 have h0:(below.map AbN.low).length=below.length:=List.length_map _
 rw[<-wV,<-List.length_map (f:=Prod.fst),<-h0]
 refine tC (x8 hu.rises) fun x hx=>?_
 obtain⟨e,he,rfl⟩:=List.mem_map.1 hx
 obtain⟨a,ha,hea⟩:=List.mem_flatMap.1 he
 obtain⟨m,hm,h1,h2⟩:=(h a ha).2 e hea
 exact List.mem_map.2 ⟨m,hm,h2⟩
structure Occ (T:List (List AbN)):Prop where
 four:∀(k:Nat) l,T[k]? =some l->k+1<T.length->∀a∈l,4<=a.es.length
 eight:∀(k:Nat) l,T[k]? =some l->k+1<T.length->8<=et l
theorem wX:∀{l:List AbN},(∀a∈l,4<=a.es.length)->4*l.length<=et l
 | [],_=>Nat.zero_le _
 |a::l,h=>by
  have h1:=wX (l:=l) fun b hb=>h b (by simp[hb])
  have h2:=h a (by simp)
  show 4*(a::l).length<=a.es.length+et l
  rw[List.length_cons];omega
theorem qm(T:List (List AbN)):(bK T).length=(T.map List.length).sum:=by rw[bK,List.length_map,List.length_flatten]
theorem BC{ps:List PgS}{T:List (List AbN)}{root:Int}(h:Tr ps T root)(ho:Occ T){N:Nat}(hN:(lfs T).length<=N)(hN1:N<128):(bK T).length<=N / 4+N / 16+1/\T.length<=3:=by
 obtain⟨T0,r,e,_,_,hr⟩:=h.root
 have hlf:∀l:List AbN,T[0]? =some l->et l<=N:=fun l hl=>by rw[<-wV];rw[lfs,eS hl] at hN;exact hN
 have stp:∀(k:Nat) (up below:List AbN),T[k+1]? =some up->T[k]? =some below->et up<=below.length/\4*below.length<=et below/\8<=et below:=fun k up below hu hb=>by
  have hk:=(List.getElem?_eq_some_iff.1 hu).1
  exact⟨(h.inn k _ _ hu hb).le (h.level hu).2,wX (ho.four k _ hb hk),ho.eight k _ hb hk⟩
 rw[qm]
 match T,e,h,ho,hr,hlf,stp with
 | [],e,_,_,_,_,_=>exact absurd (congrArg List.length e) (by simp)
 | [l0],e,_,_,hr,hlf,_=>
   have h0:T0=[]:=by cases T0 with|nil=>rfl|cons a b=>exact absurd (congrArg List.length e) (by simp)
   subst h0
   injection e with e _
   subst e
   simp
 | [l0,l1],e,_,_,hr,hlf,stp=>
   have h0:T0.length=1:=by have:=congrArg List.length e;simp at this;omega
   rw[h0] at hr
   have hl1:l1=[r]:=by injection hr with hr
   have s0:=stp 0 _ _ rfl rfl
   have:=hlf _ rfl
   subst hl1
   simp
   omega
 | [l0,l1,l2],e,_,_,hr,hlf,stp=>
   have h0:T0.length=2:=by have:=congrArg List.length e;simp at this;omega
   rw[h0] at hr
   have hl2:l2=[r]:=by injection hr with hr
   have s0:=stp 0 _ _ rfl rfl
   have s1:=stp 1 _ _ rfl rfl
   have:=hlf _ rfl
   subst hl2
   simp
   omega
 |l0::l1::l2::l3::R,e,_,_,_,hlf,stp=>
  have s0:=stp 0 _ _ rfl rfl
  have s1:=stp 1 _ _ rfl rfl
  have s2:=stp 2 _ _ rfl rfl
  have:=hlf _ rfl
  omega
theorem qD(l m:List AbN):et (l++m)=et l+et m:=by simp[et]
theorem lC(a:AbN)(l:List AbN):et (a::l)=a.es.length+et l:=by simp[et]
theorem Occ.out{T T':List (List AbN)}{p p':PuT}{g:GoT}{fresh:Int}(h:Occ T)(ho:Out T T' p p' g fresh):Occ T':=by
 have set:∀{k:Nat}{l l':List AbN},T[k]? =some l->(k+1<T.length->(∀a∈l,4<=a.es.length)->8<=et l->(∀a∈l',4<=a.es.length)/\8<=et l')->Occ (T.set k l'):=fun {k l l'} hk hl=>by
  have hkl:=(List.getElem?_eq_some_iff.1 hk).1
  refine⟨fun j m hj hjl=>?_,fun j m hj hjl=>?_⟩<;>rw[List.length_set] at hjl<;>by_cases e:k=j
  subst e;rw[List.getElem?_set_self hkl] at hj;injection hj with hj;subst hj;exact(hl hjl (h.four _ _ hk hjl) (h.eight _ _ hk hjl)).1
  rw[List.getElem?_set_ne e] at hj;exact h.four j m hj hjl
  subst e;rw[List.getElem?_set_self hkl] at hj;injection hj with hj;subst hj;exact(hl hjl (h.four _ _ hk hjl) (h.eight _ _ hk hjl)).2
  rw[List.getElem?_set_ne e] at hj;exact h.eight j m hj hjl
 cases ho with
 |idle _ hT=>exact hT ▸ h
 |move _ _ _ hT=>exact hT ▸ h
 |there _ _ _ _ _ _ _ _ hT=>exact hT ▸ h
 |put t l k pre suf a _ _ ht hT=>
  subst hT
  have hl:(ew (t.1,fx k t.2.2) a.es).length=a.es.length+1:=by rw[(fl _ _).length_eq];rfl
  refine set ht fun _ h4 h8=>⟨fun b hb=>?_,?_⟩
  rcases List.mem_append.1 hb with hb|hb
  exact h4 b (by simp[hb])
  rcases List.mem_cons.1 hb with rfl|hb
  have:=h4 a (by simp)
  show 4<=(ew (t.1,fx k t.2.2) a.es).length
  omega
  exact h4 b (by simp[hb])
  rw[qD,lC] at h8 |-
  show 8<=et pre+((ew (t.1,fx k t.2.2) a.es).length+et suf)
  omega
 |cut t l k pre suf a mid _ _ ht h8 htop hT=>
  subst hT
  refine set ht fun _ h4 h8'=>⟨fun b hb=>?_,?_⟩
  rcases List.mem_append.1 hb with hb|hb
  exact h4 b (by simp[hb])
  rcases List.mem_cons.1 hb with rfl|hb
  show 4<=(a.es.take 4).length
  rw[List.length_take];omega
  rcases List.mem_cons.1 hb with rfl|hb
  show 4<=(a.es.drop 4).length
  rw[List.length_drop];omega
  exact h4 b (by simp[hb])
  rw[qD,lC] at h8'
  rw[qD,lC,lC]
  show 8<=et pre+((a.es.take 4).length+((a.es.drop 4).length+et suf))
  rw[List.length_take,List.length_drop]
  omega
 |grow t l T0 r _ _ ht _ h8 hT=>
  subst ht hT
  have get:∀(j:Nat) m,(T0++[[⟨fresh,r.low,r.es⟩],[⟨p.root,aF,[(aF,fresh)]⟩]])[j]? =some m->j+1<(T0++[[(⟨fresh,r.low,r.es⟩:AbN)],[⟨p.root,aF,[(aF,fresh)]⟩]]).length->((T0++[[r]])[j]? =some m/\j+1<(T0++[[r]]).length)\/m=[⟨fresh,r.low,r.es⟩]:=fun j m hj hjl=>by
   rcases Nat.lt_or_ge j T0.length with h1|h1
   rw[List.getElem?_append_left h1] at hj
   exact .inl ⟨by rw[List.getElem?_append_left h1];exact hj,by simp;omega⟩
   rw[List.getElem?_append_right h1] at hj
   have:j-T0.length=0:=by simp at hjl;omega
   rw[this] at hj
   injection hj with hj
   exact .inr hj.symm
  refine⟨fun j m hj hjl=>?_,fun j m hj hjl=>?_⟩<;>rcases get j m hj hjl with ⟨h1,h2⟩|rfl
  exact h.four j m h1 h2
  intro a ha;rw[List.mem_singleton.1 ha];show 4<=r.es.length;omega
  exact h.eight j m h1 h2
  show 8<=r.es.length+0;omega
theorem Out.pages{T T':List (List AbN)}{p p':PuT}{g:GoT}{fresh:Int}(ho:Out T T' p p' g fresh)(hr:∀T0 r,T=T0++[[r]]->r.pg=p.root->True):(bK T').Perm ((if g.used then [fresh] else [])++bK T):=by
 cases ho with
 |idle _ hT _ _ hu=>rw[hu,hT];exact List.Perm.refl _
 |move _ _ _ hT _ _ hu=>rw[hu,hT];exact List.Perm.refl _
 |there _ _ _ _ _ _ _ _ hT _ _ _ _ hu=>rw[hu,hT];exact List.Perm.refl _
 |put t l k pre suf a _ _ ht hT _ _ _ hu=>
  rw[hu,hT]
  obtain⟨T1,T2,e,_,h2⟩:=eU ht
  rw[h2,ez,e,ez]
  simp
 |cut t l k pre suf a mid _ _ ht _ _ hT _ _ _ _ hu=>
  rw[hu,hT]
  obtain⟨T1,T2,e,_,h2⟩:=eU ht
  rw[h2,ez,e,ez,List.perm_iff_count]
  intro x
  simp only[List.map_append,List.map_cons,List.count_append,List.count_cons,if_true,List.count_nil]
  omega
 |grow t l T0 r _ _ ht hr _ hT _ _ _ _ hu=>
  rw[hu,hT,ht]
  have e3:bK (T0++[[⟨fresh,r.low,r.es⟩],[⟨p.root,aF,[(aF,fresh)]⟩]])=bK T0++[fresh,p.root]:=by simp[bK]
  rw[e3,vS,show [r].map AbN.pg=[p.root] by rw[<-hr];rfl,if_pos rfl]
  exact List.perm_middle
theorem pE{T:List (List AbN)}{k:Nat}{l l':List AbN}(hk:T[k]? =some l):lfs (T.set k l')=if k=0 then l'.flatMap AbN.es else lfs T:=by
 have hkl:=(List.getElem?_eq_some_iff.1 hk).1
 unfold lfs
 by_cases e:k=0
 subst e
 rw[if_pos rfl,eS (List.getElem?_set_self hkl)]
 rw[if_neg e]
 congr 1
 rw[lvA,lvA,List.getD_eq_getElem?_getD,List.getD_eq_getElem?_getD,List.getElem?_set_ne e]
theorem D8{T0:List (List AbN)}{root fresh:Int}{r:AbN}:lfs (T0++[[⟨fresh,r.low,r.es⟩],[⟨root,aF,[(aF,fresh)]⟩]])=lfs (T0++[[r]]):=by
 cases T0 with
 |nil=>simp[lfs,lvA]
 |cons a l=>rfl
theorem Out.lfs{T T':List (List AbN)}{p p':PuT}{g:GoT}{fresh:Int}(ho:Out T T' p p' g fresh):(lfs T').Perm (lfs T)\/∃t l,p.left=t::l/\t.2.1=0/\p'.left=l/\(∀y∈lfs T,y.1≠t.1\/True)/\(lfs T').Perm ((t.1,-1)::lfs T):=by
 cases ho with
 |idle _ hT=>exact .inl (hT ▸ List.Perm.refl _)
 |move _ _ _ hT=>exact .inl (hT ▸ List.Perm.refl _)
 |there _ _ _ _ _ _ _ _ hT=>exact .inl (hT ▸ List.Perm.refl _)
 |put t l k pre suf a hp hk ht hT hno hl=>
  rw[hT,pE ht]
  by_cases e:k=0
  subst e
  rw[if_pos rfl]
  refine .inr ⟨t,l,hp,hk,hl,fun _ _=> .inr trivial,?_⟩
  rw[Proofs.YtjlcoglmjldjbaaGreat.lfs,eS ht,show fx 0 t.2.2= -1 from rfl]
  simp only[List.flatMap_append,List.flatMap_cons]
  refine((List.Perm.append_left _ ((fl _ _).append_right _))).trans ?_
  exact List.perm_middle
  rw[if_neg e];exact .inl (List.Perm.refl _)
 |cut t l k pre suf a mid _ _ ht h8 _ hT=>
  rw[hT,pE ht]
  by_cases e:k=0
  subst e
  rw[if_pos rfl,Proofs.YtjlcoglmjldjbaaGreat.lfs,eS ht]
  simp only[List.flatMap_append,List.flatMap_cons]
  refine .inl (List.Perm.of_eq ?_)
  rw[<-List.append_assoc (a.es.take 4),List.take_append_drop]
  rw[if_neg e];exact .inl (List.Perm.refl _)
 |grow t l T0 r _ _ ht _ _ hT=>rw[hT,ht,D8];exact .inl (List.Perm.refl _)
end
section
open Go.RowKit
def tQ(T:List (List AbN)):List Int:=T.reverse.flatten.map AbN.pg
def rkF(T:List (List AbN))(pos:Int):Nat:=((tQ T).dropWhile fun q=>!(q==pos)).length
def fQ(T:List (List AbN))(k:Nat):Nat:=((T.take k).map List.length).sum
theorem wb(T:List (List AbN)):(tQ T).Perm (bK T):=by
 unfold tQ bK
 exact(List.Perm.flatten (List.reverse_perm T)).map _
theorem Fv{L A B:List Int}{x:Int}(h:L=A++x::B)(hd:L.Nodup):L.dropWhile (fun q=>!(q==x))=x::B:=by
 subst h
 have h1:=(List.nodup_append.1 hd).2.2
 rw[List.dropWhile_append_of_pos]
 rw[List.dropWhile_cons_of_neg (by simp)]
 intro a ha
 have:=h1 a ha x (by simp)
 simpa using this
theorem jG{T:List (List AbN)}(hd:(bK T).Nodup){k:Nat}{pre suf:List AbN}{a:AbN}(hk:T[k]? =some (pre++a::suf)):rkF T a.pg=suf.length+1+fQ T k:=by
 obtain⟨T1,T2,rfl,h1,_⟩:=eU hk
 have hd2:(tQ (T1++(pre++a::suf)::T2)).Nodup:=(wb _).nodup_iff.2 hd
 have e:tQ (T1++(pre++a::suf)::T2)=(T2.reverse.flatten.map AbN.pg++pre.map AbN.pg)++a.pg::(suf.map AbN.pg++T1.reverse.flatten.map AbN.pg):=by simp[tQ]
 rw[rkF,Fv e hd2,List.length_cons,List.length_append,List.length_map,List.length_map,fQ,List.take_left' h1]
 have h2:T1.reverse.flatten.length=(T1.map List.length).sum:=by rw[List.length_flatten,List.map_reverse,List.sum_reverse]
 omega
theorem ES(T:List (List AbN))(pos:Int):rkF T pos<=(bK T).length:=by
 rw[<-(wb T).length_eq]
 exact(List.dropWhile_sublist _).length_le
theorem Ef{T:List (List AbN)}{k:Nat}{l:List AbN}(hk:T[k]? =some l):fQ T (k+1)=fQ T k+l.length:=by
 rw[fQ,fQ,List.take_add_one,hk];simp
theorem Mv.rk{T:List (List AbN)}{tl pos pos':Int}(h:Mv T tl pos pos')(hd:(bK T).Nodup):rkF T pos'<rkF T pos:=by
 cases h with
 |right k pre suf a b hk h1 h2=>
  subst h1 h2
  have hk2:T[k]? =some ((pre++[a])++b::suf):=by rw[hk];simp
  rw[jG hd hk,jG hd hk2,List.length_cons];omega
 |down k l below a m hk ha hb hm h1 h2=>
  subst h1 h2
  obtain⟨p1,s1,rfl⟩:=List.append_of_mem ha
  obtain⟨p2,s2,rfl⟩:=List.append_of_mem hm
  rw[jG hd hk,jG hd hb,Ef hb,List.length_append,List.length_cons];omega
theorem Gi{T:List (List AbN)}{k:Nat}{l:List AbN}:fQ (T.set k l) k=fQ T k:=by
 rw[fQ,fQ,List.take_set,List.set_eq_of_length_le (by rw[List.length_take];omega)]
theorem vk{L:List EdT}:∀{ps:List PgS},(∀q∈ps,q.2.2.length<=101)->∀q∈doB ps L,q.2.2.length<=101:=by
 induction L with
 |nil=>exact fun h=>h
 |cons e L ih=>
  intro ps h
  refine ih (ps:=bP ps e) fun q hq=>?_
  unfold bP at hq
  split at hq
  rename_i hok
  have hok:=of_decide_eq_true hok
  rcases List.mem_or_eq_of_mem_set hq with h1|rfl
  exact h q h1
  unfold edP
  split
  exact Nat.zero_le _
  dsimp only
  rw[jA]
  have:=h _ (cz (l:=ps) (n:=e.1.toNat) (d:=aT) (by omega)).2
  omega
  exact h q hq
structure GS (d:Int) (ps:List PgS) (T:List (List AbN)) (nx:Int):Prop where
 tr:Tr ps T 0
 its:∀q∈ps,q.2.2.length<=101
 len:ps.length=60
 occ:Occ T
 pg:∀q∈bK T,q<nx
 cnt:nx=((bK T).length:Int)+d
 d0:0<=d
def PM(N:Nat):Nat:=N / 4+N / 16+1
theorem GS.pages{d nx:Int}{ps:List PgS}{T:List (List AbN)}(h:GS d ps T nx){N:Nat}(hN:(lfs T).length<=N)(hN1:N<128):(bK T).length<=PM N/\T.length<=3:=BC h.tr h.occ hN hN1
theorem GS.step{d nx:Int}{ps:List PgS}{T:List (List AbN)}{p:PuT}(h:GS d ps T nx)(hi:InsOk T 0 p){N:Nat}(hN:(lfs T).length<=N)(hN1:N<128)(hd:(PM N:Int)+d<60):
  ∃T',GS d (doB ps (bg ps p nx).2.eds) T' (if (bg ps p nx).2.used then nx+1 else nx)/\InsOk T' 0 (bg ps p nx).1/\Evo T T'/\(bg ps p nx).2.err=0/\Out T T' p (bg ps p nx).1 (bg ps p nx).2 nx:=by
 have hp:=(h.pages hN hN1).1
 have hc:=h.cnt
 have h0:=h.d0
 obtain⟨T',h1,h2,h3,h4,h5⟩:=DX h.tr hi h.its (by rw[h.len];omega) (fresh:=nx) (by omega) (by rw[h.len];omega) (fun hq=>by have:=h.pg nx hq;omega)
 have h6:=h5.pages (fun _ _ _ _=>trivial)
 refine⟨T',⟨h1,vk h.its,by rw[ct];exact h.len,h.occ.out h5,fun q hq=>?_,?_,h0⟩,h2,h3,h4,h5⟩
 have h7:=h6.mem_iff.1 hq
 cases hu:(bg ps p nx).2.used with
 |true=>
  rw[hu] at h7
  rcases List.mem_cons.1 h7 with rfl|h7
  show q<q+1;omega
  have:=h.pg q h7;show q<nx+1;omega
 |false=>rw[hu] at h7;exact h.pg q h7
 have h7:=h6.length_eq
 cases hu:(bg ps p nx).2.used with
 |true=>rw[hu] at h7;rw[h7];simp;omega
 |false=>rw[hu] at h7;rw[h7];simp;omega
def phi(N:Nat)(T:List (List AbN))(pos:Int):Nat:=rkF T pos+2*(PM N-(bK T).length)
theorem Out.phi{T T':List (List AbN)}{p p':PuT}{g:GoT}{fresh:Int}{N:Nat}(ho:Out T T' p p' g fresh)(hd:(bK T).Nodup)(hd':(bK T').Nodup)(hN:(bK T').length<=PM N){t:TaT}{l:List TaT}(hl:p.left=t::l)(hl':∃l',p'.left=t::l')(hne:p'.left≠l):Proofs.YtjlcoglmjldjbaaGreat.phi N T' p'.pos<Proofs.YtjlcoglmjldjbaaGreat.phi N T p.pos:=by
 have hpg:=ho.pages (fun _ _ _ _=>trivial)
 cases ho with
 |idle h=>rw[hl] at h;cases h
 |move _ _ _ hT _ _ _ _ hm=>subst hT;have:=hm.rk hd;unfold Proofs.YtjlcoglmjldjbaaGreat.phi;omega
 |there t2 l2 _ _ _ _ h _ _ _ _ hl2=>rw[hl] at h;injection h with h1 h2;rw[hl2] at hne;exact absurd h2.symm hne
 |put t2 l2 _ _ _ _ h _ _ _ _ hl2=>rw[hl] at h;injection h with h1 h2;rw[hl2] at hne;exact absurd h2.symm hne
 |cut t2 l2 k pre suf a mid _ _ ht _ _ hT _ _ hp hpa hu=>
  rw[hu,if_pos rfl] at hpg
  have h6:=hpg.length_eq
  rw[List.singleton_append,List.length_cons] at h6
  have hkl:=(List.getElem?_eq_some_iff.1 ht).1
  have e1:=jG hd ht
  have hg:T'[k]? =some (pre++⟨a.pg,a.low,a.es.take 4⟩::⟨fresh,mid,a.es.drop 4⟩::suf):=by rw[hT];exact List.getElem?_set_self hkl
  have e2:=jG hd' hg
  have e3:fQ T' k=fQ T k:=by rw[hT];exact Gi
  rw[hpa] at e1
  have e2:rkF T' p.pos=suf.length+1+1+fQ T' k:=by rw[<-hpa];exact e2
  unfold Proofs.YtjlcoglmjldjbaaGreat.phi
  rw[hp,e1,e2,e3]
  omega
 |grow t2 l2 T0 r _ _ ht hr _ hT _ _ hp hpa hu=>
  rw[hu,if_pos rfl] at hpg
  have h6:=hpg.length_eq
  rw[List.singleton_append,List.length_cons] at h6
  have g1:T[T0.length]? =some ([]++r::[]):=by rw[ht];simp
  have g2:T'[T0.length]? =some ([]++⟨fresh,r.low,r.es⟩::[]):=by rw[hT];simp
  have e1:=jG hd g1
  have e2:rkF T' fresh=([]:List AbN).length+1+fQ T' T0.length:=jG hd' g2
  have e3:fQ T' T0.length=fQ T T0.length:=by rw[hT,ht,fQ,fQ,List.take_left' rfl,List.take_left' rfl]
  rw[hr,<-hpa] at e1
  unfold Proofs.YtjlcoglmjldjbaaGreat.phi
  rw[hp,e1,e2,e3]
  omega
theorem wE{T T':List (List AbN)}{p p':PuT}{g:GoT}{fresh:Int}(ho:Out T T' p p' g fresh){t:TaT}{l:List TaT}(hl:p.left=t::l):p'.left=l\/∃l',p'.left=t::l'/\l <+:l'/\∀s∈l',s∈l\/1<=s.2.1:=by
 cases ho with
 |idle h=>rw[hl] at h;cases h
 |move t2 l2 h _ hl2=>rw[hl] at h;injection h with h1 h2;subst h1 h2;exact .inr ⟨l,hl2,List.prefix_rfl,fun s hs=> .inl hs⟩
 |there t2 l2 _ _ _ _ h _ _ _ _ hl2=>rw[hl] at h;injection h with h1 h2;exact .inl (hl2.trans h2.symm)
 |put t2 l2 _ _ _ _ h _ _ _ _ hl2=>rw[hl] at h;injection h with h1 h2;exact .inl (hl2.trans h2.symm)
 |cut t2 l2 k pre suf a mid h _ _ _ _ _ hl2=>
  rw[hl] at h;injection h with h1 h2;subst h1 h2
  refine .inr ⟨_,hl2,List.prefix_append _ _,fun s hs=>?_⟩
  rcases List.mem_append.1 hs with hs|hs
  exact .inl hs
  rw[List.mem_singleton] at hs;subst hs;exact .inr (by show (1:Int)<=(k:Int)+1;omega)
 |grow t2 l2 T0 r h _ _ _ _ _ hl2=>rw[hl] at h;injection h with h1 h2;subst h1 h2;exact .inr ⟨l,hl2,List.prefix_rfl,fun s hs=> .inl hs⟩
theorem DH{T T':List (List AbN)}{p p':PuT}{g:GoT}{fresh:Int}(ho:Out T T' p p' g fresh)(h1:∀t∈p.left,1<=t.2.1):(lfs T').Perm (lfs T)/\(∀t∈p'.left,1<=t.2.1)/\p'.leaf=p.leaf:=by
 refine⟨?_,?_,?_⟩
 rcases ho.lfs with h|⟨t,l,hl,h0,_⟩
 exact h
 have:=h1 t (by rw[hl];simp);omega
 cases hl:p.left with
 |nil=>
  cases ho with
  |idle _ _ hl2=>intro t ht;rw[hl2] at ht;cases ht
  |move _ _ h=>rw[hl] at h;cases h
  |there _ _ _ _ _ _ h=>rw[hl] at h;cases h
  |put _ _ _ _ _ _ h=>rw[hl] at h;cases h
  |cut _ _ _ _ _ _ _ h=>rw[hl] at h;cases h
  |grow _ _ _ _ h=>rw[hl] at h;cases h
 |cons t l=>
  rw[hl] at h1
  rcases wE ho hl with h|⟨l',h,_,h2⟩
  rw[h];exact fun s hs=>h1 s (by simp[hs])
  rw[h]
  intro s hs
  rcases List.mem_cons.1 hs with rfl|hs
  exact h1 s (by simp)
  rcases h2 s hs with h3|h3
  exact h1 s (by simp[h3])
  exact h3
 cases ho with
 |idle _ _ _ hf=>exact hf
 |move _ _ _ _ _ hf=>exact hf
 |there t l k _ _ _ h hk _ _ _ _ hf=>have:=h1 t (by rw[h];simp);rw[hf,if_neg (by omega)]
 |put t l k _ _ _ h hk _ _ _ _ hf=>have:=h1 t (by rw[h];simp);rw[hf,if_neg (by omega)]
 |cut _ _ _ _ _ _ _ _ _ _ _ _ _ _ hf=>exact hf
 |grow _ _ _ _ _ _ _ _ _ _ _ hf=>exact hf
theorem vx{d:Int}{N:Nat}(hN1:N<128)(hd:(PM N:Int)+d<60):∀(j:Nat){ps:List PgS}{T:List (List AbN)}{p:PuT}{nx:Int},GS d ps T nx->InsOk T 0 p->(lfs T).length<=N->(∀t∈p.left,1<=t.2.1)->
  ∃T',GS d (gv j ps nx p).1 T' (gv j ps nx p).2/\(lfs T').Perm (lfs T)
 |0,ps,T,p,nx,h,hi,hN,h1=>⟨T,h,List.Perm.refl _⟩
 |j+1,ps,T,p,nx,h,hi,hN,h1=>by
  by_cases hl:p.left=[]
  rw[mZ _ _ _ hl];exact⟨T,h,List.Perm.refl _⟩
  rw[ka hl]
  obtain⟨T1,h2,h3,h4,h5,h6⟩:=h.step hi hN hN1 hd
  obtain⟨h7,h8,_⟩:=DH h6 h1
  obtain⟨T2,h9,h10⟩:=vx hN1 hd j h2 h3 (by rw[h7.length_eq];exact hN) h8
  exact⟨T2,h9,h10.trans h7⟩
theorem vn{d:Int}{N:Nat}(hN1:N<128)(hd:(PM N:Int)+d<60){x:ByteArray}{kd:Int}:∀(j:Nat){ps:List PgS}{T:List (List AbN)}{p:PuT}{nx:Int}{l:List TaT},GS d ps T nx->InsOk T 0 p->(lfs T).length+1<=N->p.left=(x,0,kd)::l->(∀t∈l,1<=t.2.1)->(∀y∈lfs T,y.1≠x)->phi N T p.pos<j->
  ∃T',GS d (gv j ps nx p).1 T' (gv j ps nx p).2/\(lfs T').Perm ((x,-1)::lfs T)
 |0,ps,T,p,nx,l,h,hi,hN,hl,h1,hx,hj=>absurd hj (Nat.not_lt_zero _)
 |j+1,ps,T,p,nx,l,h,hi,hN,hl,h1,hx,hj=>by
  rw[ka (by rw[hl];simp)]
  obtain⟨T1,h2,h3,h4,h5,h6⟩:=h.step hi (Nat.le_of_succ_le hN) hN1 hd
  rcases wE h6 hl with hl2|⟨l',hl2,hpre,hl3⟩
  have hput:(lfs T1).Perm ((x,-1)::lfs T):=by
   cases h6 with
   |idle h=>rw[hl] at h;cases h
   |move _ _ h _ hl4=>rw[hl] at h;injection h with e1 e2;rw[hl2,<-e2] at hl4;exact absurd (congrArg List.length hl4) (by simp)
   |there t l2 k pre suf a h hk _ ht hin=>
    rw[hl] at h
    injection h with e1 e2
    subst e1
    have hk0:k=0:=by have:(0:Int)=(k:Int):=hk;omega
    subst hk0
    obtain⟨y,hy,hyx⟩:=hin
    refine absurd hyx (hx y ?_)
    rw[lfs,eS ht]
    exact List.mem_flatMap.2 ⟨a,by simp,hy⟩
   |put t l2 k pre suf a h hk ht hT hno hl4 hf hu=>
    rw[hl] at h
    injection h with e1 e2
    subst e1
    have hk0:k=0:=by have:(0:Int)=(k:Int):=hk;omega
    subst hk0
    rw[hT,pE ht,if_pos rfl,lfs,eS ht]
    simp only[List.flatMap_append,List.flatMap_cons]
    refine((List.Perm.append_left _ ((fl _ _).append_right _))).trans ?_
    exact List.perm_middle
   |cut _ _ _ _ _ _ _ h _ _ _ _ _ hl4=>rw[hl] at h;injection h with e1 e2;rw[hl2,<-e2] at hl4;exact absurd (congrArg List.length hl4) (by simp only[List.length_append,List.length_cons,List.length_nil];omega)
   |grow _ _ _ _ h _ _ _ _ _ hl4=>rw[hl] at h;injection h with e1 e2;rw[hl2,<-e2] at hl4;exact absurd (congrArg List.length hl4) (by simp)
  obtain⟨T2,h7,h8⟩:=vx hN1 hd j h2 h3 (by rw[hput.length_eq];exact hN) (by rw[hl2];exact h1)
  exact⟨T2,h7,h8.trans hput⟩
  have hne:(bg ps p nx).1.left≠l:=fun e=>by
   have h9:=congrArg List.length (hl2.symm.trans e)
   have:=hpre.length_le
   rw[List.length_cons] at h9
   omega
  have hlf:(lfs T1).Perm (lfs T):=by
   rcases h6.lfs with h7|⟨t,l2,h7,_,h8,_⟩
   exact h7
   rw[hl] at h7;injection h7 with e1 e2;exact absurd (h8.trans e2.symm) hne
  have hphi:=h6.phi h.tr.dist h2.tr.dist (h2.pages (by rw[hlf.length_eq];exact Nat.le_of_succ_le hN) hN1).1 hl ⟨l',hl2⟩ hne
  obtain⟨T2,h7,h8⟩:=vn hN1 hd j h2 h3 (by rw[hlf.length_eq];exact hN) hl2 (fun t ht=>(hl3 t ht).elim (h1 t) id) (fun y hy=>hx y (hlf.mem_iff.1 hy)) (by omega)
  exact⟨T2,h7,h8.trans (hlf.cons _)⟩
end
section
open Go.RowKit
def dy(l:List Int)(i:Nat):ByteArray:=bz (d9 (l.getD i 0)) (1+(i:Int) / 8) (1+(i:Int) % 8)
def nb(l:List Int)(n:Nat):List Kv:=(List.range n).map fun i=>(dy l i,-1)
theorem qJ{l l':List Int}{i j:Nat}(hi:i<500000)(hj:j<500000)(h:dy l i=dy l' j):i=j:=by
 have h1:=congrArg ppF h
 have h2:=congrArg psF h
 rw[dy,dy,tp,tp] at h1
 rw[dy,dy,tG,tG] at h2
 omega
theorem Dz:GS 0 (dE 60) [[⟨0,aF,[]⟩]] 1:=by
 obtain⟨n,h1,h2,h3,h4,h5,h6⟩:=qv (ps:=List.replicate 60 aT) (pg:=0) (lv:=0) (rt:= -1) (hi:=⟨#[]⟩) (es:=[]) (by omega) (by rw[List.length_replicate];decide) ⟨by omega,by omega⟩ ⟨by omega,by omega⟩ (.inl rfl) (fun e he=>nomatch he) (by simp)
 have e:doB (List.replicate 60 aT) (cD 0 0 (-1) ⟨#[]⟩ [])=dE 60:=rfl
 rw[e] at h1
 have hes:n.es.map kv=[]:=List.Perm.eq_nil h6
 refine⟨⟨fun k l hk=>?_,fun l hl=>?_,(fun k up below hu hb=>by simp at hu),⟨_,rfl,rfl⟩,by simp[bK],by simp⟩,?_,(iq 60).2,⟨fun k l hk hkl=>?_,fun k l hk hkl=>?_⟩,fun q hq=>?_,rfl,Int.le_refl 0⟩
 match k with
 |0=>injection hk with hk;subst hk;exact⟨⟨n,h1,h2,h5,h3,h4,hes⟩,trivial⟩
 |k+1=>cases hk
 rw[List.mem_singleton.1 hl]
 refine⟨List.pairwise_singleton _ _,fun a ha=>?_,_,_,rfl,rfl⟩
 rw[List.mem_singleton.1 ha]
 exact⟨List.Pairwise.nil,fun e he=>absurd he (by simp),fun e he=>absurd he (by simp),by rw[jH];exact Nat.le_refl 4,by simp⟩
 exact vk fun q hq=>by rw[(List.mem_replicate.1 hq).2];decide
 simp at hkl
 simp at hkl
 simp[bK] at hq;omega
theorem zw{l:List Int}{i:Nat}(hi:i<90){T:List (List AbN)}(h:GS 0 (fh l i).1 T (fh l i).2)(hp:(lfs T).Perm (nb l i)):∃T',GS 0 (fh l (i+1)).1 T' (fh l (i+1)).2/\(lfs T').Perm (nb l (i+1)):=by
 have hlen:(lfs T).length=i:=by rw[hp.length_eq,nb,List.length_map,List.length_range]
 have htask:mA T (dy l i,0,0):=⟨by show 4<=(bz _ _ _).size;rw[dx];omega,.inl rfl⟩
 have hpg:=(h.pages (N:=90) (by omega) (by omega)).1
 have hrk:=ES T 0
 have e28:PM 90=28:=rfl
 have hP:1<=(bK T).length:=by
  obtain⟨T0,r,e,h1,_,h2⟩:=h.tr.root
  exact List.length_pos_of_mem (fe h2 (a:=r) (by simp))
 obtain⟨T',h1,h2⟩:=vn (N:=90) (by omega) (by rw[e28];omega) (x:=dy l i) (kd:=0) 60 (p:=gR 0 (d9 (l.getD i 0)) (1+(i:Int) / 8) (1+(i:Int) % 8)) (l:=[]) h
  ⟨rfl,fun t l' e=>(by injection e with e1 e2;subst e1;exact vy h.tr htask),fun t ht=>(by rw[List.mem_singleton.1 ht];exact htask)⟩ (by omega) rfl (fun t ht=>nomatch ht) (fun y hy=>by
   obtain⟨j,hj,rfl⟩:=List.mem_map.1 (hp.mem_iff.1 hy)
   have hj:=List.mem_range.1 hj
   intro e
   have:=qJ (by omega) (by omega) e
   omega) (by show phi 90 T 0<60;unfold phi;rw[e28];omega)
 refine⟨T',h1,h2.trans ?_⟩
 rw[nb,List.range_succ,List.map_append]
 exact((hp.cons _).trans (List.perm_append_comm (l₁:=[_])))
theorem wi(l:List Int):∀i,i<=90->∃T,GS 0 (fh l i).1 T (fh l i).2/\(lfs T).Perm (nb l i)
 |0,_=>⟨_,Dz,by simp[lfs,lvA,nb]⟩
 |i+1,hi=>by
  obtain⟨T,h1,h2⟩:=wi l i (by omega)
  exact zw (by omega) h1 h2
def ndD(ps:List PgS)(x:Int):NoD:=(av ps x).getD ⟨0,0,⟨#[]⟩,false,[],0⟩
def ndP(ps:List PgS)(a:AbN):Int×NoD:=(a.pg,ndD ps a.pg)
theorem kU{ps:List PgS}{x:Int}{n:NoD}(h:av ps x=some n):ndD ps x=n:=by rw[ndD,h];rfl
theorem G5(ps:List PgS):av ps (-1)=none:=by rw[av,if_neg (by omega)]
theorem yj{ps:List PgS}{lv:Int}:∀{l:List AbN}{f:Nat},dq ps lv l->l.length<=f->dG ps lv f (rtA l)=l.map (ndP ps)
 | [],f,_,_=>qF (G5 ps)
 |a::l,f,h,hf=>by
  obtain⟨n,h1,h2,h3,h4,h5,h6⟩:=h.1
  obtain⟨f,rfl⟩:∃g,f=g+1:=⟨f-1,by rw[List.length_cons] at hf;omega⟩
  rw[List.length_cons] at hf
  show dG ps lv (f+1) a.pg= _
  rw[pR h1 h2,h4,yj h.2 (by omega),List.map_cons,ndP,kU h1]
theorem LvOk.first{a b:AbN}{t:List AbN}(h:LvOk (a::t))(hb:b∈a::t)(hl:b.low=aF):b=a:=by
 rcases List.mem_cons.1 hb with rfl|hb
 rfl
 have h1:=((List.pairwise_cons.1 h.pw).1 b hb).1
 rw[hl,m8] at h1;cases h1
theorem LvOk.headlow{a:AbN}{t:List AbN}(h:LvOk (a::t)):a.low=aF:=by
 obtain⟨b,s,e,hl⟩:=h.hd
 injection e with e1 _
 rw[e1];exact hl
theorem yI{ps:List PgS}{T:List (List AbN)}{root:Int}(h:Tr ps T root){k:Nat}{b:AbN}{s:List AbN}(hk:T[k]? =some (b::s)):∀(j:Nat){a:AbN}{t:List AbN}{f:Nat},T[k+j]? =some (a::t)->j<f->dA ps (k:Int) f a.pg=some (b.pg,ndD ps b.pg)
 |0,a,t,f,hj,hf=>by
  rw[Nat.add_zero,hk] at hj
  injection hj with hj
  injection hj with e1 e2
  subst e1
  obtain⟨n,h1,h2,_⟩:=h.node (pre:=[]) hk
  obtain⟨f,rfl⟩:∃g,f=g+1:=⟨f-1,by omega⟩
  rw[tj h1 h2,kU h1]
 |j+1,a,t,f,hj,hf=>by
  obtain⟨n,h1,h2,_,_,_,h3⟩:=h.node (pre:=[]) hj
  obtain⟨f,rfl⟩:∃g,f=g+1:=⟨f-1,by omega⟩
  have hlen:=(List.getElem?_eq_some_iff.1 hj).1
  have hb:T[k+j]? =some (T[k+j]'(by omega)):=List.getElem?_eq_getElem (by omega)
  obtain⟨c,u,e,hl⟩:=(h.level hb).2.hd
  rw[e] at hb
  obtain⟨⟨k1,t1,g1⟩,g2⟩:=h.inn (k+j) _ _ hj hb a (by simp)
  obtain⟨m,hm,hm1,hm2⟩:=g2 (a.low,k1) (by rw[g1];simp)
  have hmc:=(h.level hb).2.first hm (by rw[hm2];exact(h.level hj).2.headlow)
  have hes:n.es≠[]:=fun e2=>by rw[e2] at h3;rw[<-h3] at g1;cases g1
  obtain⟨x,r,he⟩:=List.exists_cons_of_ne_nil hes
  have hx:x.2.2=c.pg:=by
   rw[he,g1] at h3
   injection h3 with h4 _
   have:kv x=(a.low,k1):=h4
   injection this with _ h5
   rw[h5,<-hmc];exact hm1.symm
  rw[mY h1 (by rw[h2];omega) (by rw[he];simp),he]
  show dA ps (k:Int) f x.2.2= _
  rw[hx]
  exact yI h hk j hb (by omega)
theorem Tr.row{ps:List PgS}{T:List (List AbN)}{root:Int}(h:Tr ps T root)(hps:ps.length<=150){k:Nat}{l:List AbN}(hk:T[k]? =some l):bo ps root (k:Int)=l.map (ndP ps):=by
 obtain⟨T0,r,e,h1,h2,h3⟩:=h.root
 have hkl:=(List.getElem?_eq_some_iff.1 hk).1
 obtain⟨b,s,rfl,hl⟩:=(h.level hk).2.hd
 have hlT:T.length=T0.length+1:=by rw[e];simp
 have hbd:=h.bd
 obtain⟨j,hj⟩:∃j,T0.length=k+j:=⟨T0.length-k,by omega⟩
 have hd:=yI h hk j (a:=r) (t:=[]) (f:=1000) (by rw[<-hj];exact h3) (by omega)
 rw[h1] at hd
 rw[bo,hd]
 have hlen:(b::s).length<=1000:=by
  have:(b::s).length<=(bK T).length:=by
   rw[qm]
   obtain⟨T1,T2,e2,_,_⟩:=eU hk
   rw[e2];simp;omega
  omega
 exact yj (h.level hk).1 hlen
theorem AT{ps:List PgS}{lv:Int}:∀{l:List AbN},dq ps lv l->(l.map (ndP ps)).flatMap (fun x=>x.2.es.map kv)=l.flatMap AbN.es
 | [],_=>rfl
 |a::l,h=>by
  obtain⟨n,h1,_,_,_,_,h6⟩:=h.1
  rw[List.map_cons,List.flatMap_cons,List.flatMap_cons,AT h.2]
  congr 1
  show (ndD ps a.pg).es.map kv=a.es
  rw[kU h1,h6]
theorem Tr.all{ps:List PgS}{T:List (List AbN)}{root:Int}(h:Tr ps T root)(hps:ps.length<=150):(cu ps root).map kv=lfs T:=by
 obtain⟨T0,r,e,_,_,_⟩:=h.root
 have h0:T[0]? =some (lvA T 0):=by
  have:0<T.length:=by rw[e];simp
  rw[lvA,List.getD_eq_getElem?_getD,List.getElem?_eq_getElem this];rfl
 have hr:=h.row hps h0
 rw[cu,show (0:Int)=((0:Nat):Int) from rfl,hr,List.map_flatMap,AT (h.level h0).1];rfl
end
section
open Go.RowKit
def zy(T:List (List AbN))(k:Nat)(pos:Int)(x:ByteArray)(pre suf:List AbN)(a:AbN):Prop:=T[k]? =some (pre++a::suf)/\a.pg=pos/\al x a.low=false/\∀b s,suf=b::s->al x b.low=true
theorem KH{ps:List PgS}{T:List (List AbN)}{root pos st:Int}{fm:ByteArray}(h:Tr ps T root)(hp:lN T pos fm 0)(h4:4<=fm.size)(aP:st+1<1000):
  (∃pos',wkN ps ⟨pos,st,fm,false⟩=(⟨pos',st+1,fm,false⟩,.on)/\lN T pos' fm 0/\Mv T 0 pos pos')\/
  ∃pre suf a n,wkN ps ⟨pos,st,fm,false⟩=(⟨pos,st+1,fm,false⟩,.at n)/\zy T 0 pos fm pre suf a/\av ps pos=some n:=by
 obtain⟨k,lv,a,hk,ha,hpg,_,hge⟩:=hp
 obtain⟨pre,suf,rfl⟩:=List.append_of_mem ha
 obtain⟨n,hn,hlv,hdd,hrt,hhi,hes⟩:=h.node hk
 have hL:=(h.level hk).2
 have hsn:=vG (x:=fm) hdd hhi fun b hb=>hL.l4 b (by simp[hb])
 rw[hpg] at hn
 have e0:=fO (fm:=fm) (st:=st) (fin:=false) (by simp;omega) hn
 cases hs:da n.dead n.high fm with
 |true=>
  rw[hs] at hsn
  cases suf with
  |nil=>cases hsn
  |cons b suf=>
   have hb0:al fm b.low=false:=by simpa[vJ] using hsn.symm
   have hbp:=h.pg_lt (fe hk (a:=b) (by simp))
   have hrb:n.right=b.pg:=hrt
   rw[hs,if_pos rfl,hrb,decide_eq_false (by omega),if_neg (by omega)] at e0
   exact .inl ⟨b.pg,e0,⟨k,_,b,hk,by simp,rfl,by omega,hb0⟩,.right k pre suf a b hk hpg rfl (by omega)⟩
 |false=>
  rw[hs,if_neg (by decide)] at e0
  by_cases hl:0<n.lv
  obtain⟨k0,rfl⟩:∃k0,k=k0+1:=⟨k-1,by omega⟩
  obtain⟨below,m,hb,hm,hd,hml⟩:=h.down hk (by rw[hpg];exact hn) h4 hge
  rw[if_pos hl,hd] at e0
  exact .inl ⟨m.pg,e0,⟨k0,below,m,hb,hm,rfl,by omega,hml⟩,.down k0 _ below a m hk (by simp) hb hm hpg rfl (by omega)⟩
  rw[if_neg hl] at e0
  obtain rfl:k=0:=by omega
  refine .inr ⟨pre,suf,a,n,e0,⟨hk,hpg,hge,?_⟩,hn⟩
  rintro b s rfl
  rw[hs] at hsn
  cases hc:al fm b.low with
  |true=>rfl
  |false=>simp[vJ,hc] at hsn
def f9(x:ByteArray)(es:List Kv):List Kv:=es.filter fun e=>!(e.1.toList==x.toList)
theorem pH{a b:ByteArray}:(a.toList==b.toList)=true<->a=b:=by
 rw[beq_iff_eq,ByteArray.toList_eq,ByteArray.toList_eq]
 exact⟨fun h=>d6 h,fun h=>by rw[h]⟩
theorem GF{x:ByteArray}{es:List Kv}{e:Kv}:e∈f9 x es<->e∈es/\e.1≠x:=by
 rw[f9,List.mem_filter]
 constructor
 rintro⟨h1,h2⟩
 exact⟨h1,fun e2=>by rw[pH.2 e2] at h2;cases h2⟩
 rintro⟨h1,h2⟩
 refine⟨h1,?_⟩
 cases hc:(e.1.toList==x.toList) with
 |true=>exact absurd (pH.1 hc) h2
 |false=>rfl
theorem Hz{x:ByteArray}{es:List Kv}(h:∀e∈es,e.1≠x):f9 x es=es:=List.filter_eq_self.2 fun e he=>by
 cases hc:(e.1.toList==x.toList) with
 |true=>exact absurd (pH.1 hc) (h e he)
 |false=>rfl
theorem Gg{ps:List PgS}{T:List (List AbN)}{root pos:Int}{x:ByteArray}{pre suf:List AbN}{a:AbN}(h:Tr ps T root)(hh:zy T 0 pos x pre suf a):∀e∈lfs T,e.1=x->e∈a.es:=fun e he hx=>by
 obtain⟨hk,hpg,hge,hlt⟩:=hh
 obtain⟨hrep,hL⟩:=h.level hk
 rw[lfs,eS hk] at he
 obtain⟨c,hc,hec⟩:=List.mem_flatMap.1 he
 have hcv:=hL.nd c hc
 have hav:=hL.nd a (by simp)
 obtain⟨_,p2,p3⟩:=List.pairwise_append.1 hL.pw
 rcases List.mem_append.1 hc with hc|hc
 have:=(p3 c hc a (by simp)).2 e hec
 rw[hx,hge] at this;cases this
 rcases List.mem_cons.1 hc with rfl|hc
 exact hec
 have h1:=hL.behind hlt c hc
 have h2:=hcv.ge e hec
 rw[hx,h1] at h2;cases h2
theorem GL{T:List (List AbN)}{x:ByteArray}{pre suf:List AbN}{a:AbN}(hk:T[0]? =some (pre++a::suf))(h:∀e∈lfs T,e.1=x->e∈a.es)(hd:∀c∈pre++suf,∀e∈c.es,e.1≠x):lfs (T.set 0 (pre++⟨a.pg,a.low,f9 x a.es⟩::suf))=f9 x (lfs T):=by
 rw[pE hk,if_pos rfl,lfs,eS hk]
 have key:∀l:List AbN,(∀c∈l,∀e∈c.es,e.1≠x)->f9 x (l.flatMap AbN.es)=l.flatMap AbN.es:=fun l hl=>Hz fun e he=>by
  obtain⟨c,hc,hec⟩:=List.mem_flatMap.1 he
  exact hl c hc e hec
 have app:∀l m:List Kv,f9 x (l++m)=f9 x l++f9 x m:=fun l m=>List.filter_append ..
 rw[List.flatMap_append,List.flatMap_append,List.flatMap_cons,List.flatMap_cons,app,app,key pre fun c hc=>hd c (by simp[hc]),key suf fun c hc=>hd c (by simp[hc])]
theorem Cc(x:ByteArray)(es:List EnD):es.Perm (bC x es++es.filter fun e=>!(e.1.toList==x.toList)):=(List.filter_append_perm _ _).symm
theorem Tr.rm{ps:List PgS}{T:List (List AbN)}{root:Int}{x:ByteArray}(h:Tr ps T root)(h4:4<=x.size)(hps:ps.length<=150)(hits:∀q∈ps,q.2.2.length<=101):
  ∃T',Tr (doB ps (rmF ps root x).1) T' root/\lfs T'=f9 x (lfs T)/\((rmF ps root x).2=true<->∃e∈lfs T,e.1=x)/\Evo T T'/\bK T'=bK T/\T'.length=T.length/\(∀k:Nat,k≠0->T'[k]? =T[k]?):=by
 have hroot:lN T root x 0:=by
  obtain⟨T0,r,e,h1,h2,h3⟩:=h.root
  exact⟨T0.length,[r],r,h3,by simp,h1,by omega,by rw[h2];exact m8 _⟩
 have hrk:=ES T root
 have hbd:=h.bd
 obtain⟨g,hg⟩:∃g,1000=rkF T root+g:=⟨1000-rkF T root,by omega⟩
 obtain⟨pre,suf,a,n,h1,h2,h3⟩:∃pre suf a n,rmF ps root x=(ba a.pg (bC x n.es),decide ((0:Int)<((bC x n.es).length:Int)))/\zy T 0 a.pg x pre suf a/\av ps a.pg=some n:=by
  have key:∀(f:Nat){pos st:Int},lN T pos x 0->rkF T pos<=f->0<=st->st+(rkF T pos:Int)<999->∃pre suf a n,rmG ps x f ⟨pos,st,x,false⟩=(ba a.pg (bC x n.es),decide ((0:Int)<((bC x n.es).length:Int)))/\zy T 0 a.pg x pre suf a/\av ps a.pg=some n:=by
   intro f
   induction f with
   |zero=>
    intro pos st hp hr h0 aP
    obtain⟨k,lv,a,hk,ha,hpg,_,hge⟩:=hp
    obtain⟨pre,suf,rfl⟩:=List.append_of_mem ha
    rw[<-hpg,jG h.dist hk] at hr;omega
   |succ f ih=>
    intro pos st hp hr h0 aP
    have hpos:1<=rkF T pos:=by
     obtain⟨k,lv,a,hk,ha,hpg,_,hge⟩:=hp
     obtain⟨pre,suf,rfl⟩:=List.append_of_mem ha
     rw[<-hpg,jG h.dist hk];omega
    rcases KH h hp h4 (st:=st) (by omega) with ⟨pos',h1,h2,h3⟩|⟨pre,suf,a,n,h1,h2,h3⟩
    rw[q9 h1]
    have:=h3.rk h.dist
    exact ih h2 (by omega) (by omega) (by omega)
    rw[qZ h1]
    have hp:=h2.2.1
    subst hp
    exact⟨pre,suf,a,n,rfl,h2,h3⟩
  exact key 1000 hroot (by omega) (by omega) (by omega)
 obtain⟨hk,_,hge,hlt⟩:=id h2
 obtain⟨n0,hn0,hlv,hdd,hrt,hhi,hes⟩:=h.node hk
 rw[h3] at hn0
 injection hn0 with hn0
 subst hn0
 obtain⟨hrep,hL⟩:=h.level hk
 have hA:=hL.nd a (by simp)
 obtain⟨mI,g7,_⟩:=gB h3
 obtain⟨n',c1,⟨c2,c3,c4,c5⟩,c6⟩:=wM (L:=bC x n.es) (R:=n.es.filter fun e=>!(e.1.toList==x.toList)) h3 (hits _ (cz (l:=ps) (n:=a.pg.toNat) (d:=aT) (by omega)).2) (Cc x n.es)
 have hsub:(f9 x a.es).Sublist a.es:=List.filter_sublist
 have hris:=hA.ris.sublist hsub
 have hes':n'.es.map kv=f9 x a.es:=by
  refine sa c1 ((c6.map kv).trans (List.Perm.of_eq ?_)) hris
  rw[f9,<-hes,List.filter_map];rfl
 have hcl:∀e∈ba a.pg (bC x n.es),e.1=a.pg:=fun e he=>by obtain⟨y,_,rfl⟩:=List.mem_map.1 he;rfl
 have hoth:∀q,q≠a.pg->av (doB ps (ba a.pg (bC x n.es))) q=av ps q:=fun q hq=>de fun e he=>by rw[hcl e he];exact fun e=>hq e.symm
 have hmem:∀e∈f9 x a.es,e∈a.es:=fun e he=>(GF.1 he).1
 obtain⟨_,pp,p3⟩:=List.pairwise_append.1 hL.pw
 have hsuf:=(List.pairwise_cons.1 pp).1
 have hT:Tr (doB ps (ba a.pg (bC x n.es))) (T.set 0 (pre++⟨a.pg,a.low,f9 x a.es⟩::suf)) root:=by
  refine h.repl (mid:=[]) (a':=⟨a.pg,a.low,f9 x a.es⟩) hk rfl rfl (fun q _ hq=>hoth q hq) ⟨⟨n',c1,c2.trans hlv,c5.trans hdd,c3.trans hrt,c4.trans hhi,hes'⟩,?_⟩ ?_ (fun k0 below e=>by omega) (List.nodup_nil) (fun b hb=>nomatch hb) (.inr rfl)
  exact(dq.mem hrep).2.keep fun b hb=>hoth _ ((h.same hk).2 b hb)
  exact hL.one rfl ⟨hris,fun e he=>hA.ge e (hmem e he),fun e he=>hA.z4 e (hmem e he),hA.l4,Nat.le_trans hsub.length_le hA.len⟩ fun c hc e he=>(hsuf c hc).2 e (hmem e he)
 rw[h1]
 have hin:=Gg h h2
 refine⟨_,hT,GL hk hin fun c hc e he hx=>?_,?_,Evo.repl (mid:=[]) hk rfl rfl,?_,List.length_set ..,fun k hk0=>List.getElem?_set_ne (fun e=>hk0 e.symm)⟩
 have hel:e∈lfs T:=by
  rw[lfs,eS hk]
  refine List.mem_flatMap.2 ⟨c,?_,he⟩
  rcases List.mem_append.1 hc with hc|hc
  simp[hc]
  simp[hc]
 have hea:=hin e hel hx
 rcases List.mem_append.1 hc with hc|hc
 have h5:=(p3 c hc a (by simp)).2 e he
 rw[hA.ge e hea] at h5;cases h5
 have h5:=(hsuf c hc).2 e hea
 have h6:=(hL.nd c (by simp[hc])).ge e he
 rw[h5] at h6;cases h6
 constructor
 intro ht
 have ht:=of_decide_eq_true ht
 obtain⟨y,hy⟩:=List.exists_mem_of_length_pos (show 0<(bC x n.es).length by omega)
 obtain⟨hy1,hy2⟩:=List.mem_filter.1 hy
 refine⟨kv y,?_,pH.1 hy2⟩
 rw[lfs,eS hk]
 exact List.mem_flatMap.2 ⟨a,by simp,oh hes hy1⟩
 rintro⟨e,he,hx⟩
 have hea:=hin e he hx
 rw[<-hes] at hea
 obtain⟨y,hy,hye⟩:=List.mem_map.1 hea
 have:y∈bC x n.es:=List.mem_filter.2 ⟨hy,pH.2 (by rw[<-hx,<-hye];rfl)⟩
 have:=List.length_pos_of_mem this
 exact decide_eq_true (by omega)
 obtain⟨T1,T2,e,_,h5⟩:=eU hk
 rw[h5,ez,e,ez];simp
end
section
open Go.RowKit
theorem pL{a:ByteArray}(h:a.size=0):neB a=false:=by
 have:a=⟨#[]⟩:=by apply d6;exact List.length_eq_zero_iff.1 (by rw[cK];exact h)
 subst this;rw[neB,beq_self_eq_true];rfl
theorem wI{α:Type}{p:α->Bool}{x:α}{B:List α}(hx:p x=true):∀{A:List α}{k:Int},(∀y∈A,p y=false)->cj p k (A++x::B)=k+A.length
 | [],k,_=>by rw[List.nil_append,cj,if_pos hx];simp
 |y::A,k,h=>by
  rw[List.cons_append,cj,if_neg (by rw[h y (by simp)];decide),wI hx fun z hz=>h z (by simp[hz]),List.length_cons]
  omega
theorem qG{α:Type}{A B:List α}{x d:α}:(A++x::B).getD A.length d=x:=by
 rw[List.getD_eq_getElem?_getD,List.getElem?_append_right (Nat.le_refl _),Nat.sub_self];rfl
theorem uf{ps:List PgS}{lv:Int}{A B:List AbN}{b c:AbN}(h:dq ps lv (A++b::c::B)):(ndD ps b.pg).high=c.low:=by
 obtain⟨⟨n,h1,_,_,_,h5,_⟩,_⟩:=dq.mem h
 rw[kU h1,h5];rfl
theorem Hs{ps:List PgS}{lv:Int}{pre suf:List AbN}{a:AbN}(h:dq ps lv (pre++a::suf)):fP ((pre++a::suf).map (ndP ps)) pre.length=if pre=[] then ⟨#[]⟩ else a.low:=by
 rcases List.eq_nil_or_concat pre with rfl|⟨A,b,rfl⟩
 rfl
 rw[fP,if_neg (by simp),if_neg (by simp)]
 rw[List.concat_eq_append] at h |-
 have e:((A++[b])++a::suf).map (ndP ps)=A.map (ndP ps)++ndP ps b::(a::suf).map (ndP ps):=by simp
 have e2:(A++[b]).length-1=(A.map (ndP ps)).length:=by simp
 rw[e,e2,qG]
 exact uf (by simpa using h)
theorem Fs{ps:List PgS}{lv:Int}{p s:List AbN}{m:AbN}(hL:LvOk (p++m::s))(h:dq ps lv (p++m::s)):ldW ((p++m::s).map (ndP ps)) (p.length:Int)=m.low:=by
 rcases List.eq_nil_or_concat p with rfl|⟨A,b,rfl⟩
 rw[ldW,if_neg (by simp)];exact hL.headlow.symm
 rw[ldW,if_pos (by simp)]
 rw[List.concat_eq_append] at h |-
 have e:((A++[b])++m::s).map (ndP ps)=A.map (ndP ps)++ndP ps b::(m::s).map (ndP ps):=by simp
 have e2:(((A++[b]).length:Int)-1).toNat=(A.map (ndP ps)).length:=by simp
 have e3:ldW ((A++[b]++m::s).map (ndP ps)) ((A++[b]).length:Int)= _:=rfl
 rw[e,e2,show (0,cg)=((0,cg):Int×NoD) from rfl,qG]
 exact uf (by simpa using h)
theorem KC{ps:List PgS}{lv:Int}{below:List AbN}{es:List EnD}{a:AbN}(hL:LvOk below)(h:dq ps lv below)(hd:(below.map AbN.pg).Nodup)(hes:es.map kv=a.es)(hne:0<es.length)(hin:∀e∈a.es,∃m∈below,m.pg=e.2/\m.low=e.1):ldF (below.map (ndP ps)) es=true:=by
 rw[ldF,Bool.and_eq_true]
 refine⟨List.all_eq_true.2 fun i hi=>?_,decide_eq_true (by omega)⟩
 have hi:=List.mem_range.1 hi
 obtain⟨e,he⟩:∃z,es.getD i en0=z:=⟨_,rfl⟩
 have hem:e∈es:=by rw[<-he];exact(cz hi).2
 rw[he]
 obtain⟨m,hm,h1,h2⟩:=hin _ (oh hes hem)
 obtain⟨p,s,rfl⟩:=List.append_of_mem hm
 have hidx:ldI ((p++m::s).map (ndP ps)) e.2.2=(p.length:Int):=by
  rw[ldI,List.map_append,List.map_cons,wI (by show ((ndP ps m).1==e.2.2)=true;rw[beq_iff_eq];exact h1),List.length_map]
  omega
  intro y hy
  obtain⟨b,hb,rfl⟩:=List.mem_map.1 hy
  show ((ndP ps b).1==e.2.2)=false
  rw[beq_eq_false_iff_ne]
  intro e2
  have e2:b.pg=e.2.2:=e2
  rw[List.map_append] at hd
  exact(List.nodup_append.1 hd).2.2 b.pg (List.mem_map.2 ⟨b,hb,rfl⟩) m.pg (by simp) (e2.trans h1.symm)
 rw[ldS,hidx,Fs hL h,h2,beq_self_eq_true,decide_eq_false (by omega)];rfl
theorem KM{n:NoD}{a:AbN}{suf:List AbN}{lo:ByteArray}(hv:NdV a)(hes:n.es.map kv=a.es)(hhi:n.high=hiA suf)(hlo:lo=⟨#[]⟩\/lo=a.low)(hlt:∀c∈suf,LtA a c):srF n.high lo n.es=true:=by
 rw[srF]
 refine List.all_eq_true.2 fun i hi=>?_
 have hi:=List.mem_range.1 hi
 obtain⟨e,he⟩:∃z,n.es.getD i en0=z:=⟨_,rfl⟩
 have hem:e∈n.es:=by rw[<-he];exact(cz hi).2
 have hea:=oh hes hem
 have h1:(neB lo&&al e.1 lo)=false:=by
  rcases hlo with rfl|rfl
  rw[pL rfl];rfl
  rw[hv.ge _ hea,Bool.and_false]
 have h2:(neB n.high&&!(al e.1 n.high))=false:=by
  rw[hhi]
  cases suf with
  |nil=>rw[show hiA []=ByteArray.empty from rfl,pL rfl];rfl
  |cons c s=>
   rw[show hiA (c::s)=c.low from rfl,(hlt c (by simp)).2 _ hea]
   simp
 have h3:(decide (0<(i:Int))&&(e.1.toList==(n.es.getD ((i:Int)-1).toNat en0).1.toList))=false:=by
  by_cases h0:0<(i:Int)
  obtain⟨j,rfl⟩:∃j,i=j+1:=⟨i-1,by omega⟩
  have hr:n.es.Pairwise (fun a b=>al a.1 b.1=true):=by have:=hv.ris;rw[<-hes] at this;exact List.pairwise_map.1 this
  have hj:((((j+1:Nat):Int)-1).toNat)=j:=by omega
  rw[hj]
  have h4:=List.pairwise_iff_getElem.1 hr j (j+1) (by omega) hi (by omega)
  have e1:n.es[j+1]=e:=by rw[<-he,List.getD_eq_getElem?_getD,List.getElem?_eq_getElem hi];rfl
  have e2:n.es.getD j en0=n.es[j]:=by rw[List.getD_eq_getElem?_getD,List.getElem?_eq_getElem (by omega)];rfl
  rw[e1] at h4
  rw[e2]
  have:(e.1.toList==(n.es[j]).1.toList)=false:=by
   rw[beq_eq_false_iff_ne]
   intro e3
   rw[ByteArray.toList_eq,ByteArray.toList_eq] at e3
   rw[d6 e3,lI] at h4;cases h4
  rw[this,Bool.and_false]
  rw[decide_eq_false h0];rfl
 rw[srS,he,h1,h2,h3];rfl
theorem KE{ps:List PgS}{T:List (List AbN)}{root:Int}(h:Tr ps T root){k:Nat}{l:List AbN}(hk:T[k]? =some l)(hlen:l.length<=400){Lb:List (Int×NoD)}(hb:∀k0,k=k0+1->∃below,T[k0]? =some below/\Lb=below.map (ndP ps)):rgF (l.map (ndP ps)) Lb=true:=by
 obtain⟨hrep,hL⟩:=h.level hk
 have hpos:0<l.length:=by obtain⟨a,t,rfl,_⟩:=hL.hd;simp
 rw[rgF,Bool.and_eq_true,List.length_map]
 refine⟨List.all_eq_true.2 fun i hi=>?_,by rw[decide_eq_true (by omega),decide_eq_true (by omega)];rfl⟩
 have hi:=List.mem_range.1 hi
 obtain⟨pre,a,suf,e,hpl⟩:∃pre a suf,l=pre++a::suf/\pre.length=i:=⟨l.take i,l[i],l.drop (i+1),by rw[List.getElem_cons_drop,List.take_append_drop],by rw[List.length_take];omega⟩
 subst e hpl
 obtain⟨n,h1,h2,h3,h4,h5,h6⟩:=h.node hk
 have hA:=hL.nd a (by simp)
 obtain⟨_,pp,_⟩:=List.pairwise_append.1 hL.pw
 have hlt:=(List.pairwise_cons.1 pp).1
 have hg:((pre++a::suf).map (ndP ps)).getD pre.length (0,cg)=(a.pg,n):=by
  have e:(pre++a::suf).map (ndP ps)=pre.map (ndP ps)++ndP ps a::suf.map (ndP ps):=by simp
  rw[e,show pre.length=(pre.map (ndP ps)).length by simp,qG,ndP,kU h1]
 have hlo:=Hs hrep
 obtain⟨lo,hlo2⟩:∃z,fP ((pre++a::suf).map (ndP ps)) pre.length=z:=⟨_,rfl⟩
 rw[hlo2] at hlo
 have hlo3:lo=⟨#[]⟩\/lo=a.low:=by rw[hlo];split;exact .inl rfl;exact .inr rfl
 rw[rgX,hg,hlo2,List.length_map]
 have lst:(((pre.length:Nat):Int)==((pre++a::suf).length:Int)-1)=decide (suf=[]):=by
  rw[List.length_append,List.length_cons]
  cases suf with
  |nil=>simp
  |cons c s=>simp;omega
 have hA1:rgA n (((pre.length:Nat):Int)==((pre++a::suf).length:Int)-1) lo=false:=by
  rw[rgA,h3,KM hA h6 h5 hlo3 hlt,lst,decide_eq_false (show ¬ 8<(n.es.length:Int) by have:=hA.len;rw[<-h6,List.length_map] at this;omega),h4,h5]
  cases suf with
  |nil=>rw[show (hiA []).toList=(⟨#[]⟩:ByteArray).toList from rfl,beq_self_eq_true];rfl
  |cons c s=>
   have hc:=h.pg_lt (fe hk (a:=c) (by simp))
   rw[show hiA (c::s)=c.low from rfl,qf (hL.l4 c (by simp)),show rtA (c::s)=c.pg from rfl,decide_eq_false (show ¬c.pg<0 by omega)];rfl
 have hB1:rgB n pre.length Lb=false:=by
  rw[rgB]
  by_cases h0:0<n.lv
  obtain⟨k0,rfl⟩:∃k0,k=k0+1:=⟨k-1,by omega⟩
  obtain⟨below,hbl,rfl⟩:=hb k0 rfl
  obtain⟨⟨k1,t,g1⟩,g2⟩:=h.inn k0 _ _ hk hbl a (by simp)
  obtain⟨hrb,hLb⟩:=h.level hbl
  have hdist:(below.map AbN.pg).Nodup:=by
   obtain⟨T1,T2,e2,_,_⟩:=eU hbl
   have hd:=h.dist
   rw[e2,ez] at hd
   exact(List.nodup_append.1 (List.nodup_append.1 hd).2.1).1
  have hnl:0<n.es.length:=by rw[<-List.length_map (f:=kv),h6,g1];simp
  rw[KC hLb hrb hdist h6 hnl g2,decide_eq_true h0]
  by_cases hp:pre=[]
  subst hp
  obtain⟨c,u,rfl,hcl⟩:=hLb.hd
  obtain⟨m,hm,hm1,hm2⟩:=g2 (a.low,k1) (by rw[g1];simp)
  have hmc:=hLb.first hm (by rw[hm2];exact hL.headlow)
  have hx:(n.es.getD 0 en0).2.2=c.pg:=by
   obtain⟨x,r,he⟩:=List.exists_cons_of_ne_nil (List.length_pos_iff.1 hnl)
   rw[he,g1] at h6
   injection h6 with h7 _
   have h7:kv x=(a.low,k1):=h7
   injection h7 with _ h8
   rw[he]
   show x.2.2=c.pg
   rw[h8,<-hmc];exact hm1.symm
  rw[hx]
  show (true&&(!true||((((0:Nat):Int)==0)&&(c.pg != (ndP ps c).1))))=false
  simp[ndP]
  have:(((pre.length:Nat):Int)==0)=false:=by
   rw[beq_eq_false_iff_ne]
   have:=List.length_pos_iff.2 hp
   omega
  rw[this];rfl
  rw[decide_eq_false h0];rfl
 have hC1:rgC n lo=false:=by
  rw[rgC]
  rcases hlo3 with rfl|rfl
  rw[pL rfl];rfl
  rw[h5]
  cases suf with
  |nil=>rw[show hiA []=ByteArray.empty from rfl,show neB ByteArray.empty=false from pL rfl];simp
  |cons c s=>rw[show hiA (c::s)=c.low from rfl,m5 (hlt c (by simp)).1,Bool.and_false]
 rw[hA1,hB1,hC1];rfl
theorem Tr.check{ps:List PgS}{T:List (List AbN)}{root:Int}(h:Tr ps T root)(hps:ps.length<=150):d7 ps root=0:=by
 obtain⟨T0,r,e,h1,h2,h3⟩:=h.root
 obtain⟨n,g1,g2,_⟩:=h.node (pre:=[]) h3
 rw[h1] at g1
 have hlT:T.length=T0.length+1:=by rw[e];simp
 have hbd:=h.bd
 rw[d7,g1]
 dsimp only
 rw[if_pos]
 refine List.all_eq_true.2 fun k hk=>?_
 have hk:=List.mem_range.1 hk
 have hkT:T[k]? =some (T[k]'(by omega)):=List.getElem?_eq_getElem (by omega)
 obtain⟨l,hl⟩:∃l,T[k]'(by omega)=l:=⟨_,rfl⟩
 rw[hl] at hkT
 have hrow:=h.row hps hkT
 have hll:l.length<=150:=by
  have:l.length<=(bK T).length:=by
   rw[qm]
   obtain⟨T1,T2,e2,_,_⟩:=eU hkT
   rw[e2];simp;omega
  omega
 have hbel:∀k0,k=k0+1->∃below,T[k0]? =some below/\cX ps root k=below.map (ndP ps):=by
  rintro k0 rfl
  have hb:T[k0]? =some (T[k0]'(by omega)):=List.getElem?_eq_getElem (by omega)
  exact⟨_,hb,h.row hps hb⟩
 have c1:(((k:Int)==n.lv)&&(((bo ps root (k:Int)).length:Int) != 1))=false:=by
  by_cases hkn:k=T0.length
  subst hkn
  rw[h3] at hkT
  injection hkT with hkT
  rw[hrow,<-hkT];simp
  rw[show ((k:Int)==n.lv)=false by rw[beq_eq_false_iff_ne,g2];omega];rfl
 have c2:(decide (0<(k:Int))&&(((cX ps root k).length:Int)==0))=false:=by
  by_cases h0:0<(k:Int)
  obtain⟨k0,rfl⟩:∃k0,k=k0+1:=⟨k-1,by omega⟩
  obtain⟨below,hb,hbe⟩:=hbel k0 rfl
  obtain⟨c,u,rfl,_⟩:=(h.level hb).2.hd
  rw[hbe]
  rw[show ((((c::u).map (ndP ps)).length:Int)==0)=false by rw[beq_eq_false_iff_ne];simp;omega,Bool.and_false]
  rw[decide_eq_false h0];rfl
 have c3:rgF (bo ps root (k:Int)) (cX ps root k)=true:=by rw[hrow];exact KE h hkT (by omega) hbel
 rw[ckX,c1,c2,c3];rfl
end
section
open Go.RowKit
theorem CQ(l:List Int):∃T nx,GS 0 (gY l) T nx/\(lfs T).Perm (nb l (min l.length 90)):=by
 obtain⟨T,h1,h2⟩:=wi l (min l.length 90) (by omega)
 exact⟨T,_,h1,h2⟩
end
end Go.Proofs.YtjlcoglmjldjbaaGreat
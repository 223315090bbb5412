import Derived.Test.YtjlcoglmjldjbaaGreatZ3
set_option linter.unusedVariables false
set_option linter.unusedSimpArgs false
set_option maxRecDepth 100000
set_option maxHeartbeats 16000000
namespace Go.Proofs.YtjlcoglmjldjbaaGreat
section
open Go.RowKit
def qq(n:Int):Int:=(n.tmod 200+200) % 200
def d9(n:Int):ByteArray:=if 0<qq n % 3 then strOfNums [97+qq n % 26]++strOfNums [97+qq n / 26] else strOfNums [97+qq n % 26]
theorem fo(n:Int):(d9 n).size<=2:=by
 unfold d9
 split
 rw[ByteArray.size_append,strOfNums_size,strOfNums_size];exact Nat.le_refl 2
 rw[strOfNums_size];exact Nat.le_succ 1
def gR(root:Int)(key:ByteArray)(pg sl:Int):PuT:=⟨root,root,-1,[(bz key pg sl,0,0)],0,0,false⟩
def gv:Nat->List PgS->Int->PuT->List PgS×Int
 |0,ps,nx,_=>(ps,nx)
 |k+1,ps,nx,p=>if p.left=[] then (ps,nx) else gv k (doB ps (bg ps p nx).2.eds) (if (bg ps p nx).2.used then nx+1 else nx) (bg ps p nx).1
def fh(l:List Int):Nat->List PgS×Int
 |0=>(dE 60,1)
 |i+1=>gv 60 (fh l i).1 (fh l i).2 (gR 0 (d9 (l.getD i 0)) (1+(i:Int) / 8) (1+(i:Int) % 8))
def gY(l:List Int):List PgS:=(fh l (min l.length 90)).1
theorem mZ(k:Nat)(ps:List PgS)(nx:Int){p:PuT}(h:p.left=[]):gv k ps nx p=(ps,nx):=by
 cases k with
 |zero=>rfl
 |succ k=>rw[gv,if_pos h]
theorem ka{k:Nat}{ps:List PgS}{nx:Int}{p:PuT}(h:p.left≠[]):gv (k+1) ps nx p=gv k (doB ps (bg ps p nx).2.eds) (if (bg ps p nx).2.used then nx+1 else nx) (bg ps p nx).1:=by rw[gv,if_neg h]
def EdM(M:Nat)(l:List EdT):Prop:=∀e∈l,e.2.2.size<=M
structure BdM (M:Nat) (ps:List PgS):Prop where
 its:∀p∈ps,p.2.2.length<=101
 sz:∀p∈ps,∀s∈p.2.2,s.size<=M
theorem BdM.mono{M M':Nat}{ps:List PgS}(h:BdM M ps)(hm:M<=M'):BdM M' ps:=⟨h.its,fun p hp s hs=>Nat.le_trans (h.sz p hp s hs) hm⟩
theorem BdM.do1{M:Nat}{ps:List PgS}{e:EdT}(h:BdM M ps)(he:e.2.2.size<=M):BdM M (bP ps e):=by
 unfold bP
 split
 rename_i hok
 have hok:=of_decide_eq_true hok
 have hg:=(cz (l:=ps) (n:=e.1.toNat) (d:=aT) (by omega)).2
 have key:(edP (ps.getD e.1.toNat aT) e).2.2.length<=101/\∀s∈(edP (ps.getD e.1.toNat aT) e).2.2,s.size<=M:=by
  unfold edP
  split
  exact⟨Nat.zero_le _,fun s hs=>nomatch hs⟩
  refine⟨by rw[jA];have:=h.its _ hg;omega,fun s hs=>?_⟩
  rcases List.mem_or_eq_of_mem_set hs with h1|rfl
  rcases List.mem_append.1 h1 with h1|h1
  exact h.sz _ hg s h1
  rw[(List.mem_replicate.1 h1).2];exact Nat.zero_le _
  exact he
 refine⟨fun p hp=>?_,fun p hp s hs=>?_⟩
 rcases List.mem_or_eq_of_mem_set hp with h1|rfl
 exact h.its p h1
 exact key.1
 rcases List.mem_or_eq_of_mem_set hp with h1|rfl
 exact h.sz p h1 s hs
 exact key.2 s hs
 exact h
theorem BdM.do{M:Nat}:∀{l:List EdT}{ps:List PgS},BdM M ps->EdM M l->BdM M (doB ps l)
 | [],ps,h,_=>h
 |e::l,ps,h,he=>BdM.do (l:=l) (h.do1 (he e (by simp))) (fun x hx=>he x (by simp[hx]))
theorem BdM.ok{M:Nat}{ps:List PgS}(h:BdM M ps)(hM:M<=900000)(hl:ps.length<=1000):OkS ps:=⟨hl,h.its,fun p hp s hs=>Nat.le_trans (h.sz p hp s hs) hM⟩
theorem KD{M:Nat}{ps:List PgS}{x:Int}{n:NoD}(hok:BdM M ps)(h:av ps x=some n):n.high.size<=M/\∀e∈n.es,e.1.size<=M:=by
 rw[gA] at h
 split at h
 rename_i hb
 have hb:=of_decide_eq_true hb
 have hv:∀s∈(pgV ps x).2.2,s.size<=M:=by
  rw[pgV,if_pos hb]
  exact hok.sz _ (cz (l:=ps) (n:=x.toNat) (d:=aT) (by omega)).2
 obtain⟨y,l,h1,h2,h3,rfl⟩:=d8 h
 rw[h1] at hv
 refine⟨?_,fun e he=>?_⟩
 have:=hv y (by simp)
 show (y.extract 4 y.size).size<=M
 rw[ByteArray.size_extract];omega
 obtain⟨k,hk,rfl⟩:=List.getElem_of_mem he
 have h5:=qp (lv:=(aK y 0 1:Int)) (l:=bu 1 l) (M:=M) (fun p hp=>hv _ (List.mem_cons_of_mem _ (kY hp).1)) k
 rwa [List.getD_eq_getElem?_getD,List.getElem?_eq_getElem hk] at h5
 cases h
theorem ir(lv rt:Int)(d:Bool)(hi:ByteArray):(hdB lv rt d hi).size=hi.size+4:=by
 rw[hdB,ByteArray.size_append,ByteArray.size_append,cW,bf];omega
theorem qs(lv k:Int)(e:ByteArray):(itB lv k e).size<=e.size+2:=by
 unfold itB;split
 rw[ByteArray.size_append,bf];exact Nat.le_refl _
 omega
theorem yh{pg lv:Int}{M:Nat}:∀{l:List EnD}{i:Nat},(∀e∈l,e.1.size<=M)->EdM (M+10) (dS pg lv i l)
 | [],_,_=>fun e he=>nomatch he
 |x::l,i,h=>fun e he=>by
  rw[dS] at he
  rcases List.mem_cons.1 he with rfl|he
  have:=qs lv x.2.2 x.1
  have:=h x (by simp)
  show (itB lv x.2.2 x.1).size<=M+10
  omega
  exact yh (fun y hy=>h y (by simp[hy])) e he
theorem EdM.app{M:Nat}{a b:List EdT}(ha:EdM M a)(hb:EdM M b):EdM M (a++b):=fun e he=>by
 rcases List.mem_append.1 he with h|h
 exact ha e h
 exact hb e h
theorem uu{pg lv rt:Int}{hi:ByteArray}{M:Nat}{l:List EnD}(hh:hi.size<=M)(h:∀e∈l,e.1.size<=M):EdM (M+10) (cD pg lv rt hi l):=by
 refine EdM.app (fun e he=>?_) (yh h)
 simp only[List.mem_cons,List.not_mem_nil,or_false] at he
 rcases he with rfl|rfl
 show (strOfNums [2]).size<=M+10
 rw[strOfNums_size];simp
 show (hdB lv rt false hi).size<=M+10
 rw[ir];omega
theorem nZ(pg:Int)(M:Nat)(l:List EnD):EdM M (ba pg l):=fun e he=>by
 obtain⟨x,_,rfl⟩:=List.mem_map.1 he
 exact Nat.zero_le _
theorem EdM.one{M:Nat}{p s:Int}{x:ByteArray}(h:x.size<=M):EdM M [(p,s,x)]:=fun e he=>by rw[List.mem_singleton] at he;subst he;exact h
theorem yk{n:NoD}{M:Nat}(h:∀e∈n.es,e.1.size<=M):(cf n).size<=M:=b7 h _
structure PuM (M k:Nat) (p:PuT):Prop where
 left:∀t∈p.left,t.1.size<=M/\0<=t.2.1/\t.2.1<=M
 len:p.left.length<=k
theorem yl{M k:Nat}{ps:List PgS}{p:PuT}{fresh:Int}(hb:BdM M ps)(hp:PuM M k p):EdM (M+10) (bg ps p fresh).2.eds/\PuM (M+10) (k+1) (bg ps p fresh).1:=by
 have hnil:EdM (M+10) []:=fun e he=>nomatch he
 have g7:PuM (M+10) (k+1) p:=⟨fun t ht=>by have:=hp.left t ht;exact⟨by omega,by omega,by omega⟩,by have:=hp.len;omega⟩
 unfold bg
 cases hl:p.left with
 |nil=>exact⟨hnil,fun t ht=>(nomatch ht),Nat.zero_le _⟩
 |cons t l=>
  have hL:∀x∈t::l,x.1.size<=M+10/\0<=x.2.1/\x.2.1<=(M+10:Nat):=fun x hx=>g7.left x (by rw[hl];exact hx)
  have hK:(t::l).length<=k+1:=by rw[<-hl];exact g7.len
  have ht:=hp.left t (by rw[hl];simp)
  cases hn:av ps p.pos with
  |none=>exact⟨hnil,hL,hK⟩
  |some n=>
   have hz:=KD hb hn
   dsimp only
   split
   split
   exact⟨hnil,hL,hK⟩
   exact⟨hnil,hL,hK⟩
   split
   exact⟨hnil,hL,hK⟩
   split
   exact⟨hnil,hL,hK⟩
   split
   refine⟨?_,fun x hx=>hL x (by simp[hx]),by rw[List.length_cons] at hK;show l.length<=k+1;omega⟩
   dsimp only
   split
   exact hnil
   have:=qs t.2.1 t.2.2 t.1
   exact EdM.one (by omega)
   split
   exact⟨hnil,hL,hK⟩
   split
   refine⟨?_,hL,hK⟩
   refine EdM.app (EdM.app (EdM.app (uu (Nat.zero_le _) hz.2) (EdM.one ?_)) (nZ _ _ _)) (EdM.one ?_)
   rw[ir];show 0+4<=M+10;omega
   have:=qs 1 fresh aF
   have h4:aF.size=4:=by decide
   omega
   refine⟨?_,fun x hx=>?_,?_⟩
   refine EdM.app (EdM.app (uu hz.1 fun e he=>hz.2 e (List.mem_of_mem_drop he)) (EdM.one ?_)) (nZ _ _ _)
   rw[ir];have:=yk hz.2;omega
   dsimp only at hx
   rcases List.mem_append.1 hx with h1|h1
   exact hL x h1
   rw[List.mem_singleton] at h1
   subst h1
   have:=yk hz.2
   exact⟨by dsimp only;omega,by dsimp only;omega,by dsimp only;omega⟩
   show (t::l++[_]).length<=k+1
   rw[List.length_append]
   have:=hp.len
   rw[hl] at this
   exact Nat.succ_le_succ this
theorem qx(pg lv:Int):∀(l:List EnD) (i:Nat),(dS pg lv i l).length=l.length
 | [],_=>rfl
 |x::l,i=>by rw[dS,List.length_cons,qx pg lv l,List.length_cons]
theorem Bd{ps:List PgS}{p:PuT}{fresh:Int}(hok:OkS ps):(bg ps p fresh).2.eds.length<=1000:=by
 unfold bg
 cases hl:p.left with
 |nil=>exact Nat.zero_le _
 |cons t l=>
  cases hn:av ps p.pos with
  |none=>exact Nat.zero_le _
  |some n=>
   have hz:=(cO hok hn).len
   dsimp only
   split
   split<;>exact Nat.zero_le _
   split
   exact Nat.zero_le _
   split
   exact Nat.zero_le _
   split
   dsimp only;split
   exact Nat.zero_le _
   exact Nat.le_of_ble_eq_true rfl
   split
   exact Nat.zero_le _
   split
   simp only[dj,cD,ba,List.length_append,qx,List.length_map,List.length_cons,List.length_nil];omega
   simp only[db,cD,ba,eG,List.length_append,qx,List.length_map,List.length_cons,List.length_nil,List.length_drop];omega
theorem iq(n:Nat):BdM 16 (dE n)/\(dE n).length=n:=by
 refine⟨BdM.do ⟨fun p hp=>?_,fun p hp s hs=>?_⟩ fun e he=>?_,?_⟩
 rw[(List.mem_replicate.1 hp).2];decide
 rw[(List.mem_replicate.1 hp).2] at hs;exact nomatch hs
 simp only[dW,List.mem_cons,List.not_mem_nil,or_false] at he
 rcases he with rfl|rfl
 show (strOfNums [2]).size<=16;rw[strOfNums_size];decide
 show (hdB 0 (-1) false ⟨#[]⟩).size<=16;rw[ir];decide
 rw[dE,ct,List.length_replicate]
end
section
open Go.RowKit
theorem BkU.mono{S T:List Nat}{w:World}{bk:Nat}{ps:List PgS}(h:BkU T w bk ps)(hs:∀k∈S,k∈T):BkU S w bk ps:=by
 obtain⟨LA,lc,Ps,h1,h2⟩:=h
 exact⟨LA,lc,Ps,h1,fun W hW=>h2 W (hW.mono fun k _ hk=>hs k hk)⟩
theorem DQ{b bk:Nat}{ps:List PgS}{p:PuT}{fresh:Int}{fp:List Nat}{w:World}(h:(ePu b p fp).holds w)(hB:BkU fp w bk ps)(hne:p.left≠[])(hok:OkS ps)(h10:p.left.length<=10000)(hte:∀t∈p.left,t.1.size<=900000/\0<=t.2.1/\t.2.1<=90000)(ag: -1<=fresh/\fresh<=1000000):
  Calls Tryz.prog 30 #[.pointer (some ⟨b,0,none⟩),.pointer (some ⟨bk,0,none⟩),.int .i64 fresh] w (rQ b (bg ps p fresh) fp w):=by
 obtain⟨A,c,g,hfp,hbg,hc,hAg,hlt,hb,hA⟩:=h
 obtain⟨root,pos,leaf,left,fro,to,spl⟩:=p
 cases left with
 |nil=>exact absurd rfl hne
 |cons t lf=>
  obtain⟨te,tl,tk⟩:=t
  obtain⟨la,rfl,_,_⟩:=hA 0 (.string te) rfl
  have hg:=hAg la rfl (by simp)
  have ht:=hte (te,tl,tk) (by simp)
  refine G2 b bk root pos leaf fro to spl la _ c te tl tk lf ps fresh fp g w hb (fun W hW=>?_) rfl hc h10 (hB.mono (by rw[hfp];simp)) hok hfp hbg hlt hg ht.1 ht.2 ag
  refine eC hA fun ad e _=>?_
  rw[<-Option.some.inj e]
  exact hW.block _ (hlt _ hg) (fun hm=>hbg (by rw[List.mem_singleton] at hm;exact hm ▸ hg))
theorem Dt{b bk:Nat}{ps:List PgS}{p:PuT}{fresh:Int}{fp:List Nat}{w:World}{R:PuT×GoT}(hR:bg ps p fresh=R)(hc:Calls Tryz.prog 30 #[.pointer (some ⟨b,0,none⟩),.pointer (some ⟨bk,0,none⟩),.int .i64 fresh] w (rQ b (bg ps p fresh) fp w)):Calls Tryz.prog 30 #[.pointer (some ⟨b,0,none⟩),.pointer (some ⟨bk,0,none⟩),.int .i64 fresh] w (rQ b R fp w):=hR ▸ hc
section
variable{P:Program}{ops:Array Oper}{L:List Nat}{a0:Act}{w0:World}{bor:List Nat}{X0:List Ent}{us cr kl:List (List Nat)}
 {D:Nat->(Tmp->Value)->(Tmp->Value)->(Nat->Ent)->Prop}{i:Nat}{o:Oper}{ρ:Operand->Value}{β:Tmp->Value}{W:World}{X:Nat->Ent}
theorem CtxV.bkU{q q':Nat}{bk:Nat}{ps:List PgS}{fb:List Nat}{F:Ent}(cx:CtxV ops L a0 w0 bor X0 us D i ρ β W X)(hX:X q=eBk bk ps fb)(hX':X q'=F)(hu:(atV us i).contains q=true)(hu':(atV us i).contains q'=true)(hne:q≠q'):BkU F.fp W bk ps:=by
 subst hX'
 refine BkU.of (CtxV.holdF cx hX hu) fun k hk=>⟨CtxV.ltF cx hX hu k hk,fun hm=>?_⟩
 exact cx.ap q q' hu hu' hne k (by rw[hX];exact hk) hm
theorem xW{t:TypeId}{x:Operand}{b:Nat}{p:PuT}{fp:List Nat}{q:Nat}{d:Tmp}(h:o.op= .load t x)(hx:ρ x= .pointer (some ⟨b,3,none⟩))(ha:ko P t=some false)(cx:CtxV ops L a0 w0 bor X0 us D i ρ β W X)(hX:X q=ePu b p fp)(hu:(atV us i).contains q=true)(hd:o.dst=some d)(hc:atV cr i=[])(hk:atV kl i=[])
  (hD:∀(f a:Tmp->Value) (X':Nat->Ent),(∀t,t≠d->f t=ρ (.tmp t))->(∀t,t≠d->a t=β t)->f d= .slice (sA (a d)) p.left.length (sC (a d))->D i f a X'):aC P o ρ W (cQ cr kl D i o.dst ρ β W X):=by
 obtain⟨A,c,g,_,_,_,_,_,hB,_⟩:=CtxV.holdF cx hX hu
 have hr:(execOp ρ o).run P W= .ok (.value (.slice A p.left.length c)) W:=ae h ha hx (hB.cell 3)
 refine aC.value hr ⟨[],by rw[hc];rfl,⟨Upd.refl _ _,(fun e he=>nomatch he),List.Pairwise.nil⟩,fun f a X' hs hv hb hbv hx' hN=>hD f a X' (fun t ht=>hs t (by rw[hd];simpa using ht.symm)) (fun t ht=>hb t (by rw[hd];simpa using ht.symm)) ?_⟩
 rw[hv d hd,hbv d hd];rfl
end
def Ip(p:PuT)(w:World)(e:Ending)(w':World):Prop:=∃b fp,e= .returned (.pointer (some ⟨b,0,none⟩))/\St w [] [ePu b p fp] w'
theorem Hj{w W:World}{b:Nat}{p:PuT}{A:Option Addr}{c:Nat}(h:St w [] [eB b 73 (puC p A c),eO 145 3 (.slice A p.left.length c) p.left.length (p.left.flatMap tkC)] W):∃fp,St w [] [ePu b p fp] W:=by
 have h1:=h.ok (eB b 73 (puC p A c)) (by simp)
 have h3:=h.ok (eO 145 3 (.slice A p.left.length c) p.left.length (p.left.flatMap tkC)) (by simp)
 have hp:=List.pairwise_pair.1 h.apart
 have hB:Blk W b 73 (puC p A c):=h1.holds
 have hO:W.ownsRow 0 145 3 (.slice A p.left.length c) p.left.length (p.left.flatMap tkC):=h3.holds
 refine⟨b::(Value.slice A p.left.length c).ownBlock.toList,h.upd,fun x hx=>?_,List.pairwise_singleton _ _⟩
 rw[List.mem_singleton] at hx
 subst hx
 refine⟨⟨A,c,_,rfl,fun hm=>hp b (by simp[eB]) hm,ft hO,fun ad e hl=>?_,fun k hk=>(h3.own k hk).2,hB,At.of_ownN hO⟩,tH _ _ _,fun k hk=>?_⟩
 subst e
 rcases hO.2 with ⟨hv,hm⟩|⟨g',cap,cur,hv,_⟩
 injection hv with h5;cases h5
 injection hv with h5;injection h5 with h5;subst h5;simp[Value.ownBlock]
 rcases List.mem_cons.1 hk with e|hk
 rw[e];exact h1.own b (by simp[eB])
 exact h3.own k hk
theorem Gc(n:Int):0<=qq n/\qq n<200:=⟨Int.emod_nonneg _ (by decide),Int.emod_lt_of_pos _ (by decide)⟩
theorem ng(n:Int)(w:World):
  Calls Tryz.prog 10 #[.int .i64 n] w (Ret (.string (d9 n)) w):=by
 have h1_:=Int.lt_tmod_of_pos n (b:=200) (by decide)
 have h2_:=Int.tmod_lt_of_pos n (b:=200) (by decide)
 go_enter Tryz.func10,Tryz.ntmps10
 have ar:=St.start w
 refine wp_seq (sqr (sqp [.k 2 (.string ⟨#[]⟩)] ?_))
 refine aa (wp_seq (sqr (sqp [.m 4 0,sRe 5 .i64 n 200 (n.tmod 200) (rfl),sI 6 ((n.tmod 200)+200) (by omega),sRe 7 .i64 ((n.tmod 200)+200) 200 (((n.tmod 200)+200) % 200) (Int.tmod_eq_emod_of_nonneg (by omega)),.m 0 7] ?_)))
 refine aa (wp_seq ?_)
 obtain⟨m,Js⟩:∃z,((n.tmod 200)+200) % 200=z:=⟨_,rfl⟩
 rw[Js]
 have hm_:qq n=m:=Js
 have hmb:=Gc n
 rw[hm_] at hmb
 refine sqr (sqp [.m 8 0,sRe 9 .i64 m 26 (m % 26) (Int.tmod_eq_emod_of_nonneg (by omega)),sI 10 (97+(m % 26)) (by omega),sW 11 .u8 (97+(m % 26)) (97+(m % 26)) (IntWalk.u8_in _ (by omega))] ?_)
 refine kW (fun x_=>sA x_) (fun sQ=> .slice sQ 1 1) (fun sQ=>eO 5 1 (.slice sQ 1 1) 1 ([.int .u8 (97+(m % 26))])) ar (by
   refine svA fun a c W X cx=>?_
   have Eu:a (.tmp 11)= .int .u8 (97+(m % 26)):=(cx.ou 11)
   exact bV (e:=5) (xs:=[.int .u8 (97+(m % 26))]) rfl (by simp[go_sem,Eu]) rfl (by decide) rfl rfl (fun _ _ _ _ _=> .intro)) fun sQ oK bY=>?_
 refine sql (.string (strOfNums ([(97+(m % 26))]))) bY (fun cx=>ca (e:=5) rfl (by kernel_rfl) (by kernel_rfl) (by kernel_rfl) (cx.ou 12) (cx.ri 0 rfl)) ?_
 refine sqp [.m 3 13] ?_
 refine aa (wp_seq (wp_seq (sqr (sqp [.m 14 0,sRe 15 .i64 m 3 (m % 3) (Int.tmod_eq_emod_of_nonneg (by omega)),.k 16 (.bool (decide (0<m % 3)))] ?_))))
 refine aa (wds (fun iu lO=>?_) fun iu lO=>?_)
 refine sqr (sqp [.m 17 3,.m 18 0,sQu 19 .i64 m 26 (m / 26) (by rw[Int.tdiv_eq_ediv_of_nonneg (by omega)];exact IntWalk.i64_in _ (by omega)),sI 20 (97+(m / 26)) (by omega),sW 21 .u8 (97+(m / 26)) (97+(m / 26)) (IntWalk.u8_in _ (by omega))] ?_)
 refine kW (fun x_=>sA x_) (fun sR=> .slice sR 1 1) (fun sR=>eO 5 1 (.slice sR 1 1) 1 ([.int .u8 (97+(m / 26))])) bY (by
   refine svA fun a c W X cx=>?_
   have Ev:a (.tmp 21)= .int .u8 (97+(m / 26)):=(cx.ou 21)
   exact bV (e:=5) (xs:=[.int .u8 (97+(m / 26))]) rfl (by simp[go_sem,Ev]) rfl (by decide) rfl rfl (fun _ _ _ _ _=> .intro)) fun sR uL cE=>?_
 refine sql (.string (strOfNums ([(97+(m / 26))]))) cE (fun cx=>ca (e:=5) rfl (by kernel_rfl) (by kernel_rfl) (by kernel_rfl) (cx.ou 22) (cx.ri 1 rfl)) ?_
 refine sqp [sS 24 (strOfNums ([(97+(m % 26))])) (strOfNums ([(97+(m / 26))])) (by rw[strOfNums_size,strOfNums_size];exact Nat.le_of_ble_eq_true rfl),.m 3 24] ?_
 refine aa (wp_seq (sqr (sqp [.m 25 3,.m 2 25] ?_)))
 refine aa (wp_ret ?_)
 refine bpr (.string ((strOfNums ([(97+(m % 26))]))++(strOfNums ([(97+(m / 26))])))) (ai Tryz.results10 rpt) ?_
 exact Ret.of (by rw[d9,hm_,if_pos (by omega)]) cE.ext
 refine wp_skip (aa (wp_seq (sqr (sqp [.m 25 3,.m 2 25] ?_))))
 refine aa (wp_ret ?_)
 refine bpr (.string (strOfNums ([(97+(m % 26))]))) (ai Tryz.results10 rpt) ?_
 exact Ret.of (by rw[d9,hm_,if_neg (by omega)]) bY.ext
theorem zD(root:Int)(key:ByteArray)(pg sl:Int)(w:World)(hk:key.size<=1000000):
  Calls Tryz.prog 29 #[.int .i64 root,.string key,.agg #[.int .i64 pg,.int .i64 sl]] w (Ip (gR root key pg sl) w):=by
 go_enter Tryz.func29,Tryz.ntmps29
 have ar:=St.start w
 refine wp_seq (sqr ?_)
 refine bZ #[vi pg,vi sl] ar fun bv W1 aE=>?_
 refine sqp [.k 6 (.pointer none)] ?_
 refine aa (wp_seq (sqr (sqp [.m 7 0,.m 8 0,.m 9 1] ?_)))
 refine dz 0 2 aE ?_
 refine sqk (.string (bz key pg sl)) aE (fun cx=>⟨_,nk key pg sl _ (by omega),(aI (cx.ou 9) (cx.ou 10))⟩) fun W7 bD=>?_
 refine sqp [.k 12 (.agg #[.string (bz key pg sl),vi 0,vi 0])] ?_
 refine ql 145 3 1 [.string (bz key pg sl),vi 0,vi 0] bD (@fun a b W X cx=>by have MY:a (.tmp 12)= .agg #[.string (bz key pg sl),vi 0,vi 0]:=(cx.ou 12);simp[go_sem,MY]) fun Fh W9 be=>?_
 refine sqp [.k 14 (.agg #[vi root,vi root,vi (-1),.slice ((some ⟨Fh,0,none⟩)) 1 1,vi 0,vi 0,.bool false])] ?_
 refine bZ #[vi root,vi root,vi (-1),.slice ((some ⟨Fh,0,none⟩)) 1 1,vi 0,vi 0,.bool false] be fun Jt oK bY=>?_
 refine sqp [.m 6 15] ?_
 refine aa (wp_ret ?_)
 refine bpr (vp Jt) (ai Tryz.results29 rpt) ?_
 obtain⟨fp_,hgw_⟩:=Hj (p:=gR root key pg sl) (bY.pick [2,1] (by decide) rfl)
 exact⟨_,_,rfl,hgw_⟩
theorem CO:∀w,Calls Tryz.prog 27 #[.int .i64 60] w (wS (dE 60) w):=fun w=>se 60 w (by decide)
theorem zR(A:Option Addr)(n c:Nat)(l:List Int)(w:World)(hA:At w A (l.map (Value.int .i64)))(hn:l.length=n):
  Calls Tryz.prog 6 #[.slice A n c] w (wS (gY l) w):=by
 go_enter Tryz.func6,Tryz.ntmps6
 have ar:=St.start w
 refine wp_seq (sqr (sqp [.k 2 (.pointer none)] ?_))
 refine aa (wp_seq (sqr ?_))
 refine sh (fun cN=>vp cN) (fun cN qT=>eBk cN (dE 60) qT) ar (fun cx=>⟨_,(CO _).mono (by rintro e W1 ⟨B4,fp4,rfl,aM⟩;exact⟨_,_,rfl,aM⟩),(bp (cx.co _))⟩) fun cN qT W2 aN=>?_
 refine sqp [.m 3 9] ?_
 refine aa (wp_seq (sqr (sqp [.k 4 (vi 1)] ?_)))
 refine aa (wp_seq (wp_seq (sqr (sqp [.k 5 (vi 0)] ?_))))
 refine aa (wp_block ?_)
 refine aL (fun t_ mz az W=>∃i:Nat,∃ps0:List PgS,∃nx0:Int,∃fb0:List Nat,i<=min n 90/\fh l i=(ps0,nx0)/\BdM (16+600*i) ps0/\ps0.length=60/\(1<=nx0/\nx0<=1+60*i)/\mz=min n 90-i/\az=⟨(ovr (jv az) [(4,4,0,[vi nx0,vi ((i:Int))]),(0,6,3,[]),(1,10,47,[])] t_).toArray,[]⟩/\St w [] [eBk cN ps0 fb0] W) (min n 90-0) ?_ ?_
 exact⟨0,(dE 60),1,qT,Nat.zero_le _,rfl,(iq 60).1,(iq 60).2,by omega,rfl,(by kernel_rfl),aN.pk [0]⟩
 rintro n6 a6 W6 ⟨i,ps0,nx0,fb0,hi,hg,hb0,hl0,hn0,rfl,hj_,cM⟩
 refine ovz hj_ fun Ir=>?_
 refine wp_seq (wp_seq (sqr (sqp [.m 10 5,.m 11 0,.k 12 (vi ((n:Int))),.k 13 (.bool (decide ((i:Int)<(n:Int)))),.m 14 13] ?_)))
 refine sqw 14 [15,16] rfl (fun _=>sqp [.m 15 5,.k 16 (.bool (decide ((i:Int)<90)))] sqe) ?_
 refine sqp [sPa 17 (decide ((i:Int)<(n:Int))) (decide ((i:Int)<90))] ?_
 refine aa (wbs (fun cH=>?_) fun cH=>?_)
 have dB:=cH
 simp only[zB] at dB
 obtain⟨Cj,Ck⟩:=dB
 refine wp_skip (aa (wp_seq (wp_block (wp_seq (sqr (sqp [.m 20 0,.m 21 5] ?_))))))
 refine sql (.pointer (some ((ad A).add i))) cM (fun cx=>ay (e:=3) (m:=i) rfl (by kernel_rfl) (by kernel_rfl) (cx.ou 20) (cx.ou 21) (by omega) (by omega) (hA.ext cx.upd.to_ext) (by rw[List.length_map];omega)) ?_
 refine sql (vi (l.getD i 0)) cM (fun cx=>ae rfl (by kernel_rfl) (cx.ou 22) (At.cellAd (hA.ext cx.upd.to_ext) (bX (by omega)))) ?_
 refine sqk (.string (d9 (l.getD i 0))) cM (fun cx=>⟨_,ng (l.getD i 0) _,(bp (cx.ou 23))⟩) fun qj cb=>?_
 refine sqp [.m 25 5,sQu 26 .i64 (i:Int) 8 ((i:Int) / 8) (by rw[Int.tdiv_eq_ediv_of_nonneg (by omega)];exact IntWalk.i64_in _ (by omega)),sI 27 (1+((i:Int) / 8)) (by omega),.m 28 5,sRe 29 .i64 (i:Int) 8 ((i:Int) % 8) (Int.tmod_eq_emod_of_nonneg (by omega)),sI 30 (1+((i:Int) % 8)) (by omega),.k 31 (.agg #[vi (1+((i:Int) / 8)),vi (1+((i:Int) % 8))])] ?_
 refine sh (fun fj=>vp fj) (fun fj Ad=>ePu fj (gR 0 (d9 (l.getD i 0)) (1+((i:Int) / 8)) (1+((i:Int) % 8))) Ad) cb (fun cx=>⟨_,(zD 0 (d9 (l.getD i 0)) (1+((i:Int) / 8)) (1+((i:Int) % 8)) _ (Nat.le_trans (fo _) (by decide))).mono (by rintro e W1 ⟨B4,fp4,rfl,aM⟩;exact⟨_,_,rfl,aM⟩),(dH (cx.co _) (cx.ou 24) (cx.ou 31))⟩) fun fj Ad Fa gG=>?_
 refine sqp [.m 6 32] ?_
 refine aa (wp_seq (sqr (sqp [.k 7 (vi 0)] ?_)))
 refine aa (wp_block ?_)
 obtain⟨p0,mI⟩:∃z,(gR 0 (d9 (l.getD i 0)) (1+((i:Int) / 8)) (1+((i:Int) % 8)))=z:=⟨_,rfl⟩
 rw[mI] at gG
 have hpu0:PuM (16+600*i) 1 p0:=by rw[<-mI];exact⟨fun t ht=>by rw[gR,List.mem_singleton] at ht;subst ht;have:=fo (l.getD i 0);exact⟨by rw[dx];omega,Int.le_refl 0,by show (0:Int)<= _;omega⟩,Nat.le_refl _⟩
 have hrun0:fh l (i+1)=gv 60 ps0 nx0 p0:=by rw[fh,hg,<-mI]
 refine aL (fun t_ mz az W=>∃k:Nat,∃ps:List PgS,∃nx:Int,∃p:PuT,∃fb:List Nat,∃fpu:List Nat,k<=60/\fh l (i+1)=gv (60-k) ps nx p/\BdM (16+600*i+10*k) ps/\ps.length=60/\(1<=nx/\nx<=1+60*i+k)/\PuM (16+600*i+10*k) (k+1) p/\mz=60-k/\az=⟨(ovr (jv az) [(4,4,0,[vi nx]),(2,7,0,[vi ((k:Int))]),(0,8,1,[]),(24,33,24,[])] t_).toArray,[]⟩/\St w [] [eBk cN ps fb,ePu fj p fpu] W) (60-0) ?_ ?_
 exact⟨0,ps0,nx0,p0,fb0,Ad,Nat.zero_le _,hrun0,hb0,hl0,by omega,hpu0,rfl,(by kernel_rfl),gG.pk [0,1]⟩
 rintro Rn a31 Fi ⟨k,ps,nx,p,fb,fpu,hk,hrun,hpb,nA,hnx,hpu,rfl,hj_,gJ⟩
 refine ovz hj_ fun QH=>?_
 refine wp_seq (wp_seq ?_)
 rcases Bool.eq_false_or_eq_true (decide ((k:Int)<60)) with jD|jD
 have sK:=of_decide_eq_true jD
 refine ak [0,1,3,7,15,31,63,127,255,511] [[],[],[],[],[],[],[1]] [] [] [.k 33 (vi ((k:Int))),.e 34 (.bool (decide ((k:Int)<60))) (.bool true) (congrArg Value.bool jD),.k 35 (.bool true),.k 36 (vp fj),.k 37 (vp fj),.k 38 (.pointer (some ⟨fj,3,none⟩)),.a 39,.c 40 (vi ((p.left.length:Int))),.k 41 (.bool (decide (0<(p.left.length:Int)))),.k 42 (.bool (decide (0<(p.left.length:Int))))] (fun ix d b X=>match ix with|0|1|2|3|4|5=>True|6=>d 39= .slice (sA (b 39)) p.left.length (sC (b 39))|_=>True) [0,1] [6,7] [(33,0,10,43)] gJ ?_ ?_ ?_
 exact fun ix _ _ _ _ _ _ hs hb hx h=>match ix,h with
 |6,h=>by dsimp only;rw[<-hs 39 rfl,<-hb 39 rfl];exact h
 |0,_|1,_|2,_|3,_|4,_|5,_|_+7,_=>trivial
 refine⟨?_,?_,trivial⟩
 refine t8 rfl rfl rfl (fun _ _ _ _ cx=>(cx.an 2)) fun f b W X cx=>?_
 exact xW rfl (cx.an 5) (by kernel_rfl) cx (cx.init 1 _ rfl) rfl rfl rfl rfl (fun d g X' hs hb hv=>hv)
 exact xs5 rfl id (fun cx=>(cx.an 2)) fun cx=>uj (e:=145) rfl (by kernel_rfl) (dTn (cx.an 6))
 intro d b X Fg hD hZ fr ag
 simp only[ed 39 ((dTn (hD 6 lq)))] at ag
 generalize sA (b 39)=Ox,sC (b 39)=Oy at ag
 clear hD;subst ag;clear d b X
 refine aa (wds (fun MZ Ld=>?_) fun MZ Ld=>?_)
 refine wp_skip (aa (wp_seq (wp_block (wp_seq ?_))))
 have hpn:p.left≠[]:=List.ne_nil_of_length_pos (by omega)
 have hok:=hpb.ok (by omega) (by omega)
 have hpl:=hpu.len
 have hte:∀t∈p.left,t.1.size<=900000/\0<=t.2.1/\t.2.1<=90000:=fun t ht=>by have h_:=hpu.left t ht;omega
 have hss:=yl (fresh:=nx) hpb hpu
 have hed9:=Bd (fresh:=nx) (p:=p) hok
 obtain⟨R,hR⟩:∃z,bg ps p nx=z:=⟨_,rfl⟩
 rw[hR] at hss hed9
 have hedm:=hss.1
 have hpu2:=hss.2
 have hedl:R.2.eds.length<=100000:=by omega
 refine ak [0,0,0,7,0,31] [[],[],[],[1,0],[],[4]] [[],[],[],[2,3],[4],[5]] [[],[],[],[1],[],[4]] [.k 45 (vp fj),.k 46 (vp cN),.k 47 (vi nx),.a 48,.a 8,.n] (fun ix d b X=>match ix with|0|1|2=>True|3=>d 48= .agg #[.slice (sA (tg (b 48) 0)) R.2.eds.length (sC (tg (b 48) 0)),.bool R.2.used,vi R.2.err]/\X 2=ePu fj R.1 ((X 2).fp)/\X 3=eO 67 3 (.slice (sA (tg (b 48) 0)) R.2.eds.length (sC (tg (b 48) 0))) R.2.eds.length (R.2.eds.flatMap edC)|4=>d 8=vp (pb (b 8))/\X 4=eB (pb (b 8)) 75 #[.slice none 0 0,.bool false,vi 0]|5=>X 5=eB (pb (b 8)) 75 #[.slice (sA (tg (b 48) 0)) R.2.eds.length (sC (tg (b 48) 0)),.bool R.2.used,vi R.2.err]|_=>True) [0,2,3,5] [3,4,5] [(8,4,1,9),(36,0,4,40)] hZ ?_ ?_ ?_
 exact fun ix _ _ _ _ _ _ hs hb hx h=>match ix,h with
 |3,h=>by dsimp only;rw[<-hs 48 rfl,<-hb 48 rfl,<-hx 2 rfl,<-hx 3 rfl];exact h
 |4,h=>by dsimp only;rw[<-hs 8 rfl,<-hb 8 rfl,<-hx 4 rfl];exact h
 |5,h=>by dsimp only;rw[<-hb 8 rfl,<-hb 48 rfl,<-hx 5 rfl];exact h
 |0,_|1,_|2,_|_+6,_=>trivial
 refine⟨?_,?_,?_,trivial⟩
 refine svA fun f b W X cx=>?_
 refine aC.call (aB (args:=#[vp fj,vp cN,vi nx]) rfl cx.sees rfl (by kernel_rfl) (dH (cx.an 0) (cx.an 1) (cx.an 2))) ?_
 refine(Dt hR (DQ (CtxV.holdF cx (cx.init 1 _ rfl) rfl) (CtxV.bkU cx (cx.init 0 _ rfl) (cx.init 1 _ rfl) rfl rfl (by decide)) hpn hok (by omega) hte (by omega))).mono ?_
 rintro e W1 ⟨A4,c4,rfl,fp4,aM⟩
 refine⟨_,rfl,bJ (E:=ePu fj p fpu) [ePu fj R.1 fp4,eO 67 3 (.slice A4 R.2.eds.length c4) R.2.eds.length (R.2.eds.flatMap edC)] (cx.init 1 _ rfl) rfl rfl aM (fun d g X' hs hb hv hN=>?_)⟩
 have aW:=(hv 48 rfl).1;have aG:=(hv 48 rfl).2
 exact⟨aW.trans (by rw[aG];rfl),wD ((List.cons.inj hN).1),(by rw[aG];exact(List.cons.inj (List.cons.inj hN).2).1)⟩
 refine svA fun f b W X cx=>?_
 exact aX (cs:=#[.slice none 0 0,.bool false,vi 0]) rfl (by kernel_rfl) rfl rfl (fun _ _ _ _ _=> .intro)
 refine svA fun f b W X cx=>?_
 exact aw (n:=3) rfl (dTn (cx.an 4)).1 (dTn (cx.an 3)).1 (by kernel_rfl) (by kernel_rfl) (by kernel_rfl) cx (dTn (cx.an 4)).2 rfl (nle rfl) (by kernel_rfl) rfl rfl rfl (fun d g X' hs hb hx=>by rw[hb 8,hb 48];exact hx)
 intro d b X IR hD e6 fr ag
 obtain⟨Cu,oY⟩:∃z,sA (tg (b 48) 0)=z:=⟨_,rfl⟩
 obtain⟨Cv,oZ⟩:∃z,sC (tg (b 48) 0)=z:=⟨_,rfl⟩
 obtain⟨Ae,qU⟩:∃z,pb (b 8)=z:=⟨_,rfl⟩
 have Ju:X 2= _:=(dTn (hD 3 lq)).2.1
 obtain⟨Fj,xv⟩:∃z,(X 2).fp=z:=⟨_,rfl⟩
 rw[xv] at Ju
 clear xv
 simp only[Ju,exq 3 ((dTn (hD 3 lq)).2.2),exq 5 ((dTn (hD 5 lq))),oY,oZ,qU] at e6
 simp only[ed 48 ((dTn (hD 3 lq)).1),ed 8 ((dTn (hD 4 lq)).1),oY,oZ,qU] at ag
 clear hD Ju oY oZ qU;subst ag;clear d b X
 refine aa (wp_seq (wp_seq (sqr (sqp [.k 49 (.pointer (some ⟨Ae,1,none⟩))] ?_))))
 refine am 3 e6 ?_
 refine aa (wbs (fun ee=>?_) fun ee=>?_)
 refine sqr (sqp [.m 51 4,sI 52 (nx+1) (by omega),.m 4 52] ?_)
 refine aa (sqr (sqp [.m 53 3,.k 54 (vp Ae)] ?_))
 refine am 3 e6 ?_
 refine ry (fun X_=>X_.fp) (.tuple #[]) (fun Af=>eBk cN (doB ps R.2.eds) Af) 0 e6 (by
   refine svA fun f b W X cx=>?_
   refine aC.call (aB (args:=#[vp cN,.slice Cu R.2.eds.length Cv]) rfl cx.sees rfl (by kernel_rfl) (aI (cx.ou 53) (cx.ou 55))) ?_
   refine(mx cN ps _ 60 _ _ R.2.eds _ (CtxV.holdF cx (cx.init 0 _ rfl) rfl) (CtxV.ltF cx (cx.init 0 _ rfl) rfl) (CtxV.keepAt cx (cx.init 2 _ rfl) (cx.init 0 _ rfl) rfl rfl (by decide)) hedl nA (by decide) hpb.its).mono ?_
   rintro e W1 ⟨rfl,fp4,aM⟩
   refine⟨_,rfl,bJ (E:=eBk cN ps fb) [eBk cN (doB ps R.2.eds) fp4] (cx.init 0 _ rfl) rfl rfl aM (fun d g X' hs hb hv hN=>?_)⟩
   have aW:=(hv 56 rfl).1;have aG:=(hv 56 rfl).2
   exact⟨aW.trans rfl,kO ((List.cons.inj hN).1)⟩) fun Af LN fA=>?_
 refine ax (aa (sqr (sqp [.m 43 7,sI 44 ((k:Int)+1) (by omega),.m 7 44] ?_)))
 refine aa ?_
 refine⟨60-((k+1)),by omega,?_⟩
 exact⟨(k+1),(doB ps R.2.eds),(nx+1),R.1,Af,Fj,by omega,by rw[hrun,show 60-k=60-(k+1)+1 by omega,ka hpn,hR,ee];rfl,(hpb.mono (by omega)).do hedm,by rw[ct];exact nA,by omega,hpu2,rfl,(by kernel_rfl),fA.pk [0,1]⟩
 refine wp_skip (aa (sqr (sqp [.m 53 3,.k 54 (vp Ae)] ?_)))
 refine am 3 e6 ?_
 refine ry (fun X_=>X_.fp) (.tuple #[]) (fun Ag=>eBk cN (doB ps R.2.eds) Ag) 0 e6 (by
   refine svA fun f b W X cx=>?_
   refine aC.call (aB (args:=#[vp cN,.slice Cu R.2.eds.length Cv]) rfl cx.sees rfl (by kernel_rfl) (aI (cx.ou 53) (cx.ou 55))) ?_
   refine(mx cN ps _ 60 _ _ R.2.eds _ (CtxV.holdF cx (cx.init 0 _ rfl) rfl) (CtxV.ltF cx (cx.init 0 _ rfl) rfl) (CtxV.keepAt cx (cx.init 2 _ rfl) (cx.init 0 _ rfl) rfl rfl (by decide)) hedl nA (by decide) hpb.its).mono ?_
   rintro e W1 ⟨rfl,fp4,aM⟩
   refine⟨_,rfl,bJ (E:=eBk cN ps fb) [eBk cN (doB ps R.2.eds) fp4] (cx.init 0 _ rfl) rfl rfl aM (fun d g X' hs hb hv hN=>?_)⟩
   have aW:=(hv 56 rfl).1;have aG:=(hv 56 rfl).2
   exact⟨aW.trans rfl,kO ((List.cons.inj hN).1)⟩) fun Ag IX nw=>?_
 refine ax (aa (sqr (sqp [.m 43 7,sI 44 ((k:Int)+1) (by omega),.m 7 44] ?_)))
 refine aa ?_
 refine⟨60-((k+1)),by omega,?_⟩
 exact⟨(k+1),(doB ps R.2.eds),nx,R.1,Ag,Fj,by omega,by rw[hrun,show 60-k=60-(k+1)+1 by omega,ka hpn,hR,ee];rfl,(hpb.mono (by omega)).do hedm,by rw[ct];exact nA,by omega,hpu2,rfl,(by kernel_rfl),nw.pk [0,1]⟩
 refine wp_exit (aj (aj (aO (ax (aa ?_)))))
 have hrun2:fh l (i+1)=(ps,nx):=by
  by_cases hk60:k=60
  rw[hrun,hk60];rfl
  rw[hrun];exact mZ _ _ _ (List.eq_nil_of_length_eq_zero (by omega))
 refine sqr (sqp [.m 18 5,sI 19 ((i:Int)+1) (by omega),.m 5 19] ?_)
 refine aa ?_
 refine⟨min n 90-((i+1)),by omega,?_⟩
 exact⟨(i+1),ps,nx,fb,by omega,hrun2,hpb.mono (by omega),nA,by omega,rfl,(by kernel_rfl),hZ.pk [0]⟩
 have sK:=of_decide_eq_false jD
 refine sqr (sqp [.m 33 7,.e 34 (.bool (decide ((k:Int)<60))) (.bool false) (congrArg Value.bool jD),.k 35 (.bool false)] ?_)
 refine tm 35 [36,37,38,39,40,41] rfl rfl ?_
 refine sqp [.k 42 (.bool false)] ?_
 refine aa (wcf rfl (wp_exit (aj (aj (aO (ax (aa ?_)))))))
 have hrun2:fh l (i+1)=(ps,nx):=by
  by_cases hk60:k=60
  rw[hrun,hk60];rfl
  rw[hrun];exact mZ _ _ _ (List.eq_nil_of_length_eq_zero (by omega))
 refine sqr (sqp [.m 18 5,sI 19 ((i:Int)+1) (by omega),.m 5 19] ?_)
 refine aa ?_
 refine⟨min n 90-((i+1)),by omega,?_⟩
 exact⟨(i+1),ps,nx,fb,by omega,hrun2,hpb.mono (by omega),nA,by omega,rfl,(by kernel_rfl),gJ.pk [0]⟩
 have dB:=cH
 simp only[zB] at dB
 refine wp_exit (aj (aj (aO (aa (wp_seq (sqr (sqp [.m 57 3,.m 2 57] ?_)))))))
 refine aa (wp_ret ?_)
 refine bpr (vp cN) (ai Tryz.results6 rpt) ?_
 have hfin:gY l=ps0:=by rw[gY,hn,show min n 90=i by omega,hg]
 rw[hfin]
 exact⟨_,_,rfl,cM.pick [0] (by decide) rfl⟩
end
section
open Go.RowKit
def cj{α:Type}(p:α->Bool)(k:Int):List α->Int
 | []=> -1
 |x::l=>if p x then k else cj p (k+1) l
theorem pO{α:Type}{p:α->Bool}{l:List α}{x:α}{k:Nat}(h:l[k]? =some x):cj p (k:Int) (l.drop k)=if p x then (k:Int) else cj p ((k+1:Nat):Int) (l.drop (k+1)):=by
 obtain⟨hk,rfl⟩:=List.getElem?_eq_some_iff.1 h
 rw[List.drop_eq_getElem_cons hk,cj];rfl
theorem DV{α:Type}(p:α->Bool)(l:List α):∀k:Int,0<=k->decide (0<=cj p k l)=l.any p:=by
 induction l with
 |nil=>intro k _;rfl
 |cons x l ih=>
  intro k hk
  rw[cj,List.any_cons]
  cases p x with
  |true=>rw[if_pos rfl,Bool.true_or];exact decide_eq_true hk
  |false=>rw[if_neg (by decide),Bool.false_or];exact ih (k+1) (by omega)
theorem EY{l:List EnD}{k:Nat}(h:k<l.length):∃x y z,l[k]? =some (x,y,z):=⟨l[k].1,l[k].2.1,l[k].2.2,List.getElem?_eq_getElem h⟩
theorem zJ(pg:Int)(np lv rt fr:Int)(hg:ByteArray)(EA:Option Addr)(ec n:Nat)(es:List EnD)(w:World)(hE:At w EA (es.flatMap enC))(hn:es.length=n)(hez:∀e∈es,e.1.size<=1000000)(hnb:n<=1000)(hlv:0<=lv/\lv<=256)(hrt: -1<=rt/\rt<=1000000)(hhi:hg.size<=1000000):
  Calls Tryz.prog 49 #[.int .i64 pg,.agg #[.int .i64 np,.int .i64 lv,.int .i64 rt,.string hg,.bool false,.slice EA n ec,.int .i64 fr]] w (ot (cD pg lv rt hg es) w):=by
 go_enter Tryz.func49,Tryz.ntmps49
 have ar:=St.start w
 refine wp_seq (sqr ?_)
 refine bZ #[vi np,vi lv,vi rt,.string hg,.bool false,.slice EA n ec,vi fr] ar fun dK W1 aE=>?_
 refine sqp [.k 4 (.slice none 0 0)] ?_
 refine aa (wp_seq (ak [0,0,2,7,0,0,32,112,255,511] [[],[],[1],[],[],[0]] [[],[1],[],[],[],[],[],[],[2]] [] [.k 8 (vi pg),.a 9,.c 10 (.string (strOfNums ([2]))),.k 11 (.agg #[vi pg,vi (-1),.string (strOfNums ([2]))]),.k 12 (vi pg),.c 13 (.agg #[vi np,vi lv,vi rt,.string hg,.bool false,.slice EA n ec,vi fr]),.c 14 (.string (hdB lv rt false hg)),.k 15 (.agg #[vi pg,vi 0,.string (hdB lv rt false hg)]),.a 16,.a 5] (fun ix g b X=>match ix with|0=>True|1=>g 9= .slice (sA (b 9)) 1 1/\X 1=eO 5 1 (.slice (sA (b 9)) 1 1) 1 ([.int .u8 2])|2|3|4|5|6|7=>True|8=>g 16= .slice ((some ⟨(pb' (b 16)),0,none⟩)) 2 2/\X 2=eO 67 3 (.slice ((some ⟨(pb' (b 16)),0,none⟩)) 2 2) 2 ([vi pg,vi (-1),.string (strOfNums ([2])),vi pg,vi 0,.string (hdB lv rt false hg)])|9=>g 5= .slice ((some ⟨(pb' (b 16)),0,none⟩)) 2 2|_=>True) [0,1,2] [1,2,5,6,8,9] [(5,9,1,6),(2,0,9,11)] aE ?_ ?_ ?_))
 exact fun ix _ _ _ _ _ _ hs hb hx h=>match ix,h with
 |1,h=>by dsimp only;rw[<-hs 9 rfl,<-hb 9 rfl,<-hx 1 rfl];exact h
 |8,h=>by dsimp only;rw[<-hs 16 rfl,<-hb 16 rfl,<-hx 2 rfl];exact h
 |9,h=>by dsimp only;rw[<-hs 5 rfl,<-hb 16 rfl];exact h
 |0,_|2,_|3,_|4,_|5,_|6,_|7,_|_+10,_=>trivial
 refine⟨?_,?_,?_,?_,?_,?_,trivial⟩
 refine svA fun d b W X cx=>?_
 exact bV (e:=5) (xs:=[.int .u8 2]) rfl (by simp[go_sem,cx.sees.const]) rfl (by decide) rfl rfl (fun _ _ _ _ _=> .intro)
 exact xs4 rfl id fun cx=>ca (e:=5) rfl (by kernel_rfl) (by kernel_rfl) (by kernel_rfl) (dTn (cx.an 1)).1 (cx.row (dTn (cx.an 1)).2 rfl)
 exact xs4 rfl id fun cx=>aV (n:=7) rfl (by kernel_rfl) (by kernel_rfl) (cx.ou 3) (cx.bi 0 rfl) (nle rfl) rfl
 exact xsc rfl id rfl rfl fun cx=>⟨_,nl np lv rt fr hg false _ _ _ _ (by omega) (by omega) (by first|omega|decide),(bp (cx.an 5))⟩
 refine svA fun d b W X cx=>?_
 have Eu:d (.tmp 11)= .agg #[vi pg,vi (-1),.string (strOfNums ([2]))]:=(cx.an 3)
 have M0:d (.tmp 15)= .agg #[vi pg,vi 0,.string (hdB lv rt false hg)]:=(cx.an 7)
 exact bS (e:=67) (sz:=3) (xs:=[vi pg,vi (-1),.string (strOfNums ([2])),vi pg,vi 0,.string (hdB lv rt false hg)]) rfl (by simp[go_sem,Eu,M0]) rfl (by decide) rfl rfl (fun _ _ _ _ _=> .intro)
 exact sv rfl rfl rfl rfl rfl _ (fun _ _ _ h=>h) (fun b j h=>by rw[h 16 (by decide)]) fun d b W X cx=>bt rfl (dTn (cx.an 8)).1
 intro g b X W3 hD bB fr ag
 simp only[exq 1 ((dTn (hD 1 lq)).2),exq 2 ((dTn (hD 8 lq)).2)] at bB
 simp only[ed 9 ((dTn (hD 1 lq)).1),ed 16 ((dTn (hD 8 lq)).1),ed 5 ((dTn (hD 9 lq)))] at ag
 generalize sA (b 9)=M1,pb' (b 16)=Lf at bB ag
 clear hD;subst ag;clear g b X
 refine aa (wp_seq (wp_seq (sqr (sqp [.k 17 (.pointer (some ⟨dK,5,none⟩))] ?_))))
 refine am 0 bB ?_
 refine sqp [.k 19 (vi ((n:Int))),.k 20 (vi 0)] ?_
 refine aa (wp_block ?_)
 rw[show [vi pg,vi (-1),.string (strOfNums ([2])),vi pg,vi 0,.string (hdB lv rt false hg)]=(li pg lv rt hg).flatMap edC from rfl] at bB
 refine aL (fun t_ mz az W=>∃i:Nat,∃nn:Nat,∃O:List EdT,∃OA:Option Addr,∃OC:Nat,i<=n/\O=li pg lv rt hg++dS pg lv 1 (es.take i)/\O.length=nn/\nn<=10+i/\mz=n-i/\az=⟨(ovr (jv az) [(5,5,0,[.slice OA nn OC]),(0,6,2,[]),(12,20,0,[vi ((i:Int))]),(0,21,15,[])] t_).toArray,[]⟩/\St w [] [eB dK 84 #[vi np,vi lv,vi rt,.string hg,.bool false,.slice EA n ec,vi fr],eO 5 1 (.slice M1 1 1) 1 ([.int .u8 2]),eO 67 3 (.slice OA nn OC) nn (O.flatMap edC)] W) (n-0) ?_ ?_
 exact⟨0,2,(li pg lv rt hg),(some ⟨Lf,0,none⟩),2,Nat.zero_le _,rfl,rfl,by omega,rfl,(by kernel_rfl),bB.pk [0,1,2]⟩
 rintro n8 a8 W8 ⟨i,nn,O,OA,OC,hi,hO,hOl,hnn,rfl,hj_,bj⟩
 refine ovz hj_ fun Iz=>?_
 refine wp_seq (sqr (sqp [.k 21 (.bool (decide ((i:Int)<(n:Int))))] ?_))
 refine aa (wp_seq (wds (fun ey fT=>?_) fun ey fT=>?_))
 refine wp_skip (aa (wp_seq (wp_block (wp_seq (sqr (sqp [.m 22 20] ?_))))))
 refine sql (.pointer (some ((ad EA).add (i*3)))) bj (fun cx=>aH (e:=89) (m:=i) (sz:=3) rfl (by kernel_rfl) (by kernel_rfl) (cx.ou 18) (cx.ou 20) (by omega) (by omega) (hE.ext cx.upd.to_ext) (bq (sz:=3) aQ (by decide) (by omega))) ?_
 refine sql (.agg #[.string ((es.getD i en0).1),vi (((es.getD i en0).2.1:Int)),vi ((es.getD i en0).2.2)]) bj (fun cx=>aZ (f:=enC) (m:=i) (sz:=3) (off:=0) (n:=3) rfl (by kernel_rfl) (by kernel_rfl) (cx.ou 23) rfl aQ (hE.ext cx.upd.to_ext) (cR (by omega)) (fun k hk=>match k,hk with|0,_=>rfl|1,_=>rfl|2,_=>rfl|k+3,hk=>absurd hk (by omega))) ?_
 refine bF #[.string ByteArray.empty,vi 0,vi 0] bj fun PK kb bm=>?_
 refine sqp [.m 6 22] ?_
 refine aD (n:=3) 3 #[.string ((es.getD i en0).1),vi (((es.getD i en0).2.1:Int)),vi ((es.getD i en0).2.2)] bm fun nS bM=>?_
 refine aa (sqr (sqp [.m 25 5,.m 26 0,.m 27 6,sI 28 ((i:Int)+1) (by omega)] ?_))
 refine dz 0 7 bM ?_
 refine dz 3 3 bM ?_
 refine sqk (.string (itB lv ((es.getD i en0).2.2) ((es.getD i en0).1))) bM (fun cx=>⟨_,oz np lv rt fr hg false _ _ _ ((es.getD i en0).1) ((es.getD i en0).2.1:Int) ((es.getD i en0).2.2) _ (b7 hez _),(aI (cx.ou 29) (cx.ou 30))⟩) fun uL cE=>?_
 refine sqp [.k 32 (.agg #[vi pg,vi ((i:Int)+1),.string (itB lv ((es.getD i en0).2.2) ((es.getD i en0).1))])] ?_
 refine ql 67 3 1 (edC (pg,(i:Int)+1,itB lv ((es.getD i en0).2.2) ((es.getD i en0).1))) cE (@fun d b W X cx=>by have M2:d (.tmp 32)= .agg #[vi pg,vi ((i:Int)+1),.string (itB lv ((es.getD i en0).2.2) ((es.getD i en0).1))]:=(cx.ou 32);simp[go_sem,M2,edC]) fun Oz Ch ej=>?_
 refine zG (nn+1) ((O++[(pg,(i:Int)+1,itB lv ((es.getD i en0).2.2) ((es.getD i en0).1))]).flatMap edC) 2 ej Tryz.infoEdit (fun cx=>(At.of_ownN (cx.ri 4 rfl))) (h1:=by simp[edC,Value.oneCell']) (iL:=dw _ _) fun Jv Jw Fd fW=>?_
 refine sqp [.m 5 34] ?_
 refine ax (aa (sqr (sqp [sI 35 ((i:Int)+1) (by omega),.m 20 35] ?_)))
 refine aa ?_
 refine⟨n-((i+1)),by omega,?_⟩
 exact⟨(i+1),(nn+1),(O++[(pg,(i:Int)+1,itB lv ((es.getD i en0).2.2) ((es.getD i en0).1))]),Jv,Jw,by omega,by rw[hO,nT (by omega),<-List.append_assoc];(first|rfl|(congr 4;omega)|simp),by rw[List.length_append,hOl];rfl,by omega,rfl,(by kernel_rfl),fW.pk [0,1,2]⟩
 refine wp_exit (aj (aj (aO (aa (wp_seq (sqr (sqp [.m 36 5,.m 4 36] ?_)))))))
 refine aa (wp_ret ?_)
 refine bpr (.slice OA nn OC) (ai Tryz.results49 rpt) ?_
 rw[oy (by omega)] at hO
 rw[hO] at bj hOl
 rw[<-hOl] at bj |-
 have ho_:=bj.own' 2 rfl
 exact⟨_,_,rfl,ho_,bj.ext⟩
theorem DK(pg:Int)(w:World):Calls Tryz.prog 49 #[.int .i64 pg,.agg #[.int .i64 0,.int .i64 0,.int .i64 (-1),.string ⟨#[]⟩,.bool false,.slice none 0 0,.int .i64 0]] w (ot (dW pg) w):=zJ pg 0 0 (-1) 0 ⟨#[]⟩ none 0 0 [] w (At.nil _ _) rfl (fun e he=>nomatch he) (by decide) (by decide) (by decide) (by decide)
theorem rX(n:Int)(w:World):
  Calls Tryz.prog 18 #[.int .i64 n] w (ot (dW n) w):=by
 go_enter Tryz.func18,Tryz.ntmps18
 have ar:=St.start w
 refine wp_seq (sqr (sqp [.k 2 (.slice none 0 0)] ?_))
 refine aa (wp_seq (sqr (sqp [.m 3 0,.k 4 (.agg #[vi 0,vi 0,vi (-1),.string ByteArray.empty,.bool false,.slice none 0 0,vi 0])] ?_)))
 refine ff (fun xw xy=> .slice xw 2 xy) (fun xw xy=>eO 67 3 (.slice xw 2 xy) 2 ((dW n).flatMap edC)) ar (fun cx=>⟨_,(DK n _).mono (by rintro e W1 ⟨A4,c4,rfl,ho_,hx⟩;exact⟨_,_,rfl,St.one hx (j9 (n:=2) (xs:=(dW n).flatMap edC) ho_)⟩),(aI (cx.ou 3) (cx.ou 4))⟩) fun xw xy W4 bR=>?_
 refine sqp [.m 2 5] ?_
 refine aa (wp_ret ?_)
 refine bpr (.slice xw 2 xy) (ai Tryz.results18 rpt) ?_
 have ho_:=bR.own' 0 rfl
 exact⟨_,_,rfl,ho_,bR.ext⟩
theorem wo(FA:Option Addr)(fc:Nat)(ks:List EnD)(f0:FuncId)(cap:Array Value)(p:EnD->Bool)(w:World)(hF:At w FA (ks.flatMap enC))(hl:ks.length<=100000)(hcf:dV Tryz.prog f0=true)(hf:∀(W:World) (k:EnD),Ext w W->Calls Tryz.prog f0 (#[.agg #[.string k.1,.int .i64 (k.2.1:Int),.int .i64 k.2.2]]++cap) W (Ret (.bool (p k)) W)):
  Calls Tryz.prog 76 #[.slice FA ks.length fc,.func (.func f0) #[] cap] w (Ret (.int .i64 (cj p 0 ks)) w):=by
 go_enter Tryz.func76,Tryz.ntmps76
 have ar:=St.start w
 refine wp_seq (sqr (sqp [.k 4 (vi 0)] ?_))
 refine aa (wp_seq (wp_seq (sqr (sqp [.m 6 0,.k 7 (vi ((ks.length:Int))),.k 8 (vi 0)] ?_))))
 refine aa (wp_block ?_)
 refine aL (fun t_ mz az W=>∃k:Nat,k<=ks.length/\cj p 0 ks=cj p (k:Int) (ks.drop k)/\mz=ks.length-k/\az=⟨(ovr (jv az) [(4,4,2,[]),(2,8,0,[vi ((k:Int))]),(0,9,10,[])] t_).toArray,[]⟩/\St w [] [] W) (ks.length-0) ?_ ?_
 exact⟨0,Nat.zero_le _,rfl,rfl,(by kernel_rfl),ar.pk []⟩
 rintro n5 a5 W5 ⟨k,hk,hkr,rfl,hj_,bw⟩
 refine ovz hj_ fun Cf=>?_
 refine wp_seq (sqr (sqp [.k 9 (.bool (decide ((k:Int)<(ks.length:Int))))] ?_))
 refine aa (wp_seq (wds (fun w8 qO=>?_) fun w8 qO=>?_))
 refine wp_skip (aa (wp_seq (wp_block (wp_seq (sqr (sqp [.m 10 8,.m 5 10] ?_))))))
 refine aa (wp_seq ?_)
 obtain⟨kx,ky,kz,hkj⟩:=EY (l:=ks) (k:=k) (by omega)
 refine sqr (sqp [.m 11 1,.m 12 0,.m 13 5] ?_)
 refine sql (.pointer (some ((ad FA).add (k*3)))) bw (fun cx=>aH (e:=89) (m:=k) (sz:=3) rfl (by kernel_rfl) (by kernel_rfl) (cx.ou 12) (cx.ou 13) (by omega) (by omega) (hF.ext cx.upd.to_ext) (bq (sz:=3) aQ (by decide) (by omega))) ?_
 refine sql (.agg #[.string kx,vi ((ky:Int)),vi kz]) bw (fun cx=>aZ (f:=enC) (m:=k) (sz:=3) (off:=0) (n:=3) rfl (by kernel_rfl) (by kernel_rfl) (cx.ou 14) rfl aQ (hF.ext cx.upd.to_ext) hkj (fun k hk=>match k,hk with|0,_=>rfl|1,_=>rfl|2,_=>rfl|k+3,hk=>absurd hk (by omega))) ?_
 refine sqv (.bool ((p (kx,ky,kz)))) bw (gy rfl rfl rfl rfl rfl (fun _ _ _ h=>h) fun a b W X cx=>⟨_,_,iF (f:=f0) (args:=#[.agg #[.string kx,vi ((ky:Int)),vi kz]]) (args':=#[.agg #[.string kx,vi ((ky:Int)),vi kz]]++cap) rfl rfl (cx.ou 11) hcf (bp (cx.ou 15)) (by rw[Array.empty_append]),(by have h9:=hf W (kx,ky,kz) cx.upd.to_ext;dsimp only at h9;exact h9)⟩) fun oM cc=>?_
 refine aa (wbs (fun nB=>?_) fun nB=>?_)
 refine wp_seq (sqr (sqp [.m 17 5,.m 4 17] ?_))
 refine aa (wp_ret (aq (af (af (aq (af ?_))))))
 refine bpr (vi ((k:Int))) (ai Tryz.results76 rpt) ?_
 exact Ret.of (by rw[hkr,pO hkj,nB];rfl) cc.ext
 refine wp_skip (ax (aa (sqr (sqp [sI 18 ((k:Int)+1) (by omega),.m 8 18] ?_))))
 refine aa ?_
 refine⟨ks.length-((k+1)),by omega,?_⟩
 exact⟨(k+1),by omega,by rw[hkr,pO hkj,nB];rfl,rfl,(by kernel_rfl),cc.pk []⟩
 refine wp_exit (aj (aj (aO (aa (wp_seq (sqr (sqp [.k 4 (vi (-1))] ?_)))))))
 refine aa (wp_ret ?_)
 refine bpr (vi (-1)) (ai Tryz.results76 rpt) ?_
 exact Ret.of (by rw[hkr,List.drop_of_length_le (by omega)];rfl) bw.ext
theorem DP(FA:Option Addr)(fc:Nat)(ks:List EnD)(f0:FuncId)(cap:Array Value)(p:EnD->Bool)(w:World)(hF:At w FA (ks.flatMap enC))(hl:ks.length<=100000)(hcf:dV Tryz.prog f0=true)(hf:∀(W:World) (k:EnD),Ext w W->Calls Tryz.prog f0 (#[.agg #[.string k.1,.int .i64 (k.2.1:Int),.int .i64 k.2.2]]++cap) W (Ret (.bool (p k)) W)):
  Calls Tryz.prog 54 #[.slice FA ks.length fc,.func (.func f0) #[] cap] w (Ret (.bool (ks.any p)) w):=by
 go_enter Tryz.func54,Tryz.ntmps54
 have ar:=St.start w
 refine wp_seq (sqr (sqp [.k 4 (.bool false)] ?_))
 refine aa (wp_seq (sqr (sqp [.m 5 0,.m 6 1] ?_)))
 refine sqv (vi ((cj p 0 ks))) ar (gy rfl rfl rfl rfl rfl (fun _ _ _ h=>h) fun a b W X cx=>⟨_,_,aB (args:=#[.slice FA ks.length fc,.func (.func f0) #[] cap]) rfl cx.sees rfl (by kernel_rfl) (aI (cx.ou 5) (cx.ou 6)),wo _ _ ks _ _ p _ (hF.ext cx.upd.to_ext) hl hcf (fun W k hW=>hf W k (cx.upd.to_ext.trans hW))⟩) fun W4 bR=>?_
 refine sqp [.k 8 (.bool (decide (0<=(cj p 0 ks)))),.m 4 8] ?_
 refine aa (wp_ret ?_)
 refine bpr (.bool (decide (0<=(cj p 0 ks)))) (ai Tryz.results54 rpt) ?_
 exact Ret.of (by rw[<-DV _ _ 0 (by omega)]) bR.ext
theorem AU(x:ByteArray)(y z:Int)(tb:Nat)(te:ByteArray)(t1 tk tl:Int)(w:World)(h1:Blk w tb 120 #[.string te,.int .i64 t1,.int .i64 tk,.int .i64 tl]):
  Calls Tryz.prog 97 #[.agg #[.string x,.int .i64 y,.int .i64 z],.pointer (some ⟨tb,0,none⟩)] w (Ret (.bool (x.toList==te.toList)) w):=by
 go_enter Tryz.func97,Tryz.ntmps97
 have ar:=St.start w
 refine wp_seq (sqr ?_)
 refine bZ #[.string x,vi y,vi z] ar fun bW W1 aE=>?_
 refine sqp [.k 3 (.bool false)] ?_
 refine aa (wp_seq (sqr (sqp [.k 4 (vp bW)] ?_)))
 refine am 0 aE ?_
 refine sqp [.k 6 (vp tb),.k 7 (vp tb)] ?_
 refine sql (.string te) aE (fun cx=>ae rfl (by kernel_rfl) (cx.ou 7) ((Blk.ext h1 cx.upd.to_ext).cell 0)) ?_
 refine sqp [.k 9 (.bool (x.toList==te.toList)),.m 3 9] ?_
 refine aa (wp_ret ?_)
 refine bpr (.bool (x.toList==te.toList)) (ai Tryz.results97 rpt) ?_
 exact Ret.bool rfl aE.ext
theorem B7{A:Option Addr}{c:Nat}{es:List EnD}{w:World}{tb:Nat}{te:ByteArray}{t1 tk tl:Int}(hE:At w A (es.flatMap enC))(hl:es.length<=100000)(h1:Blk w tb 120 #[.string te,.int .i64 t1,.int .i64 tk,.int .i64 tl]):
  Calls Tryz.prog 54 #[.slice A es.length c,.func (.func 97) #[] #[.pointer (some ⟨tb,0,none⟩)]] w (Ret (.bool (dU es te)) w):=
 DP A c es 97 #[.pointer (some ⟨tb,0,none⟩)] (fun e=>e.1.toList==te.toList) w hE hl (by kernel_rfl) (fun W k hW=>AU k.1 _ k.2.2 tb te t1 tk tl W (h1.ext hW))
end
section
open Go.RowKit
def tkK(t:TaT):List Value:=[.string t.1,.int .i64 0,.int .i64 t.2.2,.int .i64 t.2.1]
theorem pQ(t:TaT):(tkK t).length=4:=rfl
def ePk(b:Nat)(p:PuT)(fp:List Nat):Ent:=⟨fp,fun W=>∃A c g,fp=b::g/\b∉g/\p.left.length<=c/\(∀ad,A=some ad->p.left≠[]->ad.block∈g)/\(∀k∈g,k<W.heap.size)/\Blk W b 123 (puC p A c)/\At W A (p.left.flatMap tkK)⟩
theorem Dj{e:Ent}{b:Nat}{p:PuT}{fp:List Nat}(h:e=ePk b p fp):e=ePk b p e.fp:=by subst h;rfl
theorem yB(b:Nat)(p:PuT)(fp:List Nat):(ePk b p fp).loc:=fun W W' hk h=>by
 obtain⟨A,c,g,rfl,h2,h3,h4,h5,h6,h7⟩:=h
 refine⟨A,c,g,rfl,h2,h3,h4,fun k hkg=>?_,(hk b (by simp[ePk])).trans h6,eC h7 fun ad e hl=>hk _ (by simp[ePk,h4 ad e hl])⟩
 have h8:=hk k (by simp[ePk,hkg])
 rcases Nat.lt_or_ge k W'.heap.size with h9|h9
 exact h9
 rw[Array.getElem?_eq_none h9,Array.getElem?_eq_getElem (h5 k hkg)] at h8;cases h8
theorem k6{w W:World}{b:Nat}{g fp:List Nat}{p:PuT}{A:Option Addr}{c:Nat}{E:Ent}(h:St w [b] [eB b 123 (puC p A c),E] W)(hfp:fp=b::g)(hbg:b∉g)(hlt:∀k∈g,k<w.heap.size)(hc:p.left.length<=c)(hA:At W A (p.left.flatMap tkK))(hAg:∀ad,A=some ad->p.left≠[]->ad.block∈g):∃fp',St w fp [ePk b p fp',E] W:=by
 subst hfp
 have h1:=h.ok _ (List.mem_cons_self ..)
 have h2:=h.ok E (by simp)
 have ha:=List.pairwise_pair.1 h.apart
 have hB:Blk W b 123 (puC p A c):=h1.holds
 have hnew:∀k∈E.fp,w.heap.size<=k:=fun k hk=>by
  rcases(h2.own k hk).1 with h3|h3
  exact absurd hk (ha k (by simpa[eB] using h3))
  exact h3
 refine⟨b::g,h.upd.mono (fun k _ hk=>by simp at hk;simp[hk]),fun x hx=>?_,List.pairwise_pair.2 fun k hk hk'=>?_⟩
 simp only[List.mem_cons,List.not_mem_nil,or_false] at hx
 rcases hx with rfl|rfl
 refine⟨⟨A,c,g,rfl,hbg,hc,hAg,fun k hk=>Nat.lt_of_lt_of_le (hlt k hk) h.upd.size,hB,hA⟩,yB _ _ _,fun k hk=>⟨.inl hk,?_⟩⟩
 rcases List.mem_cons.1 hk with e|hk
 rw[e];exact hB.lt
 exact Nat.lt_of_lt_of_le (hlt k hk) h.upd.size
 exact⟨h2.holds,h2.loc,fun k hk=>⟨.inr (hnew k hk),(h2.own k hk).2⟩⟩
 have h4:=hnew k hk'
 rcases List.mem_cons.1 hk with e|hk
 exact ha k (by simp[eB,e]) hk'
 exact absurd (hlt k hk) (by omega)
theorem Iq{w W:World}{b:Nat}{p:PuT}{A:Option Addr}{c:Nat}(h:St w [] [eB b 123 (puC p A c),eO 120 4 (.slice A p.left.length c) p.left.length (p.left.flatMap tkK)] W):∃fp,St w [] [ePk b p fp] W:=by
 have h1:=h.ok (eB b 123 (puC p A c)) (by simp)
 have h3:=h.ok (eO 120 4 (.slice A p.left.length c) p.left.length (p.left.flatMap tkK)) (by simp)
 have hp:=List.pairwise_pair.1 h.apart
 have hB:Blk W b 123 (puC p A c):=h1.holds
 have hO:W.ownsRow 0 120 4 (.slice A p.left.length c) p.left.length (p.left.flatMap tkK):=h3.holds
 refine⟨b::(Value.slice A p.left.length c).ownBlock.toList,h.upd,fun x hx=>?_,List.pairwise_singleton _ _⟩
 rw[List.mem_singleton] at hx
 subst hx
 refine⟨⟨A,c,_,rfl,fun hm=>hp b (by simp[eB]) hm,ft hO,fun ad e hl=>?_,fun k hk=>(h3.own k hk).2,hB,At.of_ownN hO⟩,yB _ _ _,fun k hk=>?_⟩
 subst e
 rcases hO.2 with ⟨hv,hm⟩|⟨g',cap,cur,hv,_⟩
 injection hv with h5;cases h5
 injection hv with h5;injection h5 with h5;subst h5;simp[Value.ownBlock]
 rcases List.mem_cons.1 hk with e|hk
 rw[e];exact h1.own b (by simp[eB])
 exact h3.own k hk
theorem uC{lc:Nat}{la ad:Addr}(h:(if lc=1 then some la else (some la).map (·.add (1*4)))=some ad):ad.block=la.block:=by
 split at h
 rw[<-Option.some.inj h]
 have h2:=Option.some.inj h;rw[<-h2,gp]
def H5(p:PuT)(w:World)(e:Ending)(w':World):Prop:=∃b fp,e= .returned (.pointer (some ⟨b,0,none⟩))/\St w [] [ePk b p fp] w'
def Hx(b:Nat)(cells:Array Value)(eds:List EdT)(w:World)(e:Ending)(w':World):Prop:=∃A c,e= .returned (.slice A eds.length c)/\St w [b] [eB b 123 cells,eO 67 3 (.slice A eds.length c) eds.length (eds.flatMap edC)] w'
def rW(b:Nat)(r:PuT×GoT)(fp:List Nat)(w:World)(e:Ending)(w':World):Prop:=∃A c,e= .returned (.tuple #[.slice A r.2.eds.length c,.bool r.2.used,.int .i64 r.2.err])/\∃fp',St w fp [ePk b r.1 fp',eO 67 3 (.slice A r.2.eds.length c) r.2.eds.length (r.2.eds.flatMap edC)] w'
theorem zk(root:Int)(key:ByteArray)(pg sl:Int)(w:World)(hk:key.size<=1000000):
  Calls Tryz.prog 19 #[.int .i64 root,.string key,.agg #[.int .i64 pg,.int .i64 sl]] w (H5 (gR root key pg sl) w):=by
 go_enter Tryz.func19,Tryz.ntmps19
 have ar:=St.start w
 refine wp_seq (sqr ?_)
 refine bZ #[vi pg,vi sl] ar fun bv W1 aE=>?_
 refine sqp [.k 6 (.pointer none)] ?_
 refine aa (wp_seq (sqr (sqp [.m 7 0,.m 8 0,.m 9 1] ?_)))
 refine dz 0 2 aE ?_
 refine sqk (.string (bz key pg sl)) aE (fun cx=>⟨_,gD key pg sl _ (by omega),(aI (cx.ou 9) (cx.ou 10))⟩) fun W7 bD=>?_
 refine sqp [.k 12 (.agg #[.string (bz key pg sl),vi 0,vi 0]),.k 13 (.agg #[.string (bz key pg sl),vi 0,vi 0,vi 0])] ?_
 refine ql 120 4 1 [.string (bz key pg sl),vi 0,vi 0,vi 0] bD (@fun a b W X cx=>by have qS:a (.tmp 13)= .agg #[.string (bz key pg sl),vi 0,vi 0,vi 0]:=(cx.ou 13);simp[go_sem,qS]) fun Cw so cF=>?_
 refine sqp [.k 15 (.agg #[vi root,vi root,vi (-1),.slice ((some ⟨Cw,0,none⟩)) 1 1,vi 0,vi 0,.bool false])] ?_
 refine bZ #[vi root,vi root,vi (-1),.slice ((some ⟨Cw,0,none⟩)) 1 1,vi 0,vi 0,.bool false] cF fun Jx mH bU=>?_
 refine sqp [.m 6 16] ?_
 refine aa (wp_ret ?_)
 refine bpr (vp Jx) (ai Tryz.results19 rpt) ?_
 obtain⟨fp_,hgw_⟩:=Iq (p:=gR root key pg sl) (bU.pick [2,1] (by decide) rfl)
 exact⟨_,_,rfl,hgw_⟩
theorem G1(b:Nat)(root pos leaf fro to:Int)(spl:Bool)(LA:Option Addr)(ln lc:Nat)(w:World)(hb:Blk w b 123 #[.int .i64 root,.int .i64 pos,.int .i64 leaf,.slice LA ln lc,.int .i64 fro,.int .i64 to,.bool spl]):
  Calls Tryz.prog 20 #[.pointer (some ⟨b,0,none⟩)] w (Ret (.bool ((ln:Int)==0)) w):=by
 go_enter Tryz.func20,Tryz.ntmps20
 have ar:=St.start w
 refine wp_seq (sqr (sqp [.k 2 (.bool false)] ?_))
 refine aa (wp_seq (sqr (sqp [.m 3 0] ?_)))
 refine sqv (.bool false) ar (by
   exact sv0 rfl rfl rfl rfl rfl (fun _ _ _ h=>h) fun a c W X cx=>by
    have Cx:a (.tmp 3)=vp b:=(cx.ou 3)
    simp[go_sem,cx.sees.const,Cx]) fun W3 bB=>?_
 refine sqp [.k 5 (.bool false)] ?_
 refine il 5 [6,7,8,9,10,11] rfl rfl ?_
 refine sqp [.m 6 0,.k 7 (vp b),.k 8 (.pointer (some ⟨b,3,none⟩))] ?_
 refine sql (.slice LA ln lc) bB (fun cx=>ae rfl (by kernel_rfl) (cx.ou 8) ((Blk.ext hb cx.upd.to_ext).cell 3)) ?_
 refine sqp [.k 10 (vi ((ln:Int))),.k 11 (.bool ((ln:Int)==0))] ?_
 refine sqp [.k 12 (.bool ((ln:Int)==0)),.m 2 12] ?_
 refine aa (wp_ret ?_)
 refine bpr (.bool ((ln:Int)==0)) (ai Tryz.results20 rpt) ?_
 exact Ret.bool (by simp) bB.ext
theorem GG(b:Nat)(root pos leaf fro to:Int)(spl:Bool)(LA:Option Addr)(ln lc:Nat)(w:World)(hb:Blk w b 123 #[.int .i64 root,.int .i64 pos,.int .i64 leaf,.slice LA ln lc,.int .i64 fro,.int .i64 to,.bool spl]):
  Calls Tryz.prog 28 #[.pointer (some ⟨b,0,none⟩)] w (Ret (.int .i64 leaf) w):=by
 go_enter Tryz.func28,Tryz.ntmps28
 have ar:=St.start w
 refine wp_seq (sqr (sqp [.k 2 (vi 0)] ?_))
 refine aa (wp_seq (wp_seq (sqr (sqp [.m 3 0] ?_))))
 refine sqv (.bool false) ar (by
   exact sv0 rfl rfl rfl rfl rfl (fun _ _ _ h=>h) fun a c W X cx=>by
    have Cx:a (.tmp 3)=vp b:=(cx.ou 3)
    simp[go_sem,cx.sees.const,Cx]) fun W3 bB=>?_
 refine aa (wcf rfl (wp_skip (aa (wp_seq (sqr (sqp [.m 5 0,.k 6 (vp b),.k 7 (.pointer (some ⟨b,2,none⟩))] ?_))))))
 refine sql (vi leaf) bB (fun cx=>ae rfl (by kernel_rfl) (cx.ou 7) ((Blk.ext hb cx.upd.to_ext).cell 2)) ?_
 refine sqp [.m 2 8] ?_
 refine aa (wp_ret ?_)
 refine bpr (vi leaf) (ai Tryz.results28 rpt) ?_
 exact Ret.of rfl bB.ext
theorem Da{b:Nat}{p:PuT}{fp:List Nat}{w:World}(h:(ePk b p fp).holds w):Calls Tryz.prog 20 #[.pointer (some ⟨b,0,none⟩)] w (Ret (.bool ((p.left.length:Int)==0)) w):=by
 obtain⟨A,c,g,_,_,_,_,_,hB,_⟩:=h
 exact G1 b p.root p.pos p.leaf p.fro p.to p.spl A p.left.length c w hB
theorem C3{b:Nat}{p:PuT}{fp:List Nat}{w:World}(h:(ePk b p fp).holds w):Calls Tryz.prog 28 #[.pointer (some ⟨b,0,none⟩)] w (Ret (.int .i64 p.leaf) w):=by
 obtain⟨A,c,g,_,_,_,_,_,hB,_⟩:=h
 exact GG b p.root p.pos p.leaf p.fro p.to p.spl A p.left.length c w hB
theorem vj(b:Nat)(root pos leaf fro to:Int)(spl:Bool)(la:Addr)(ln lc:Nat)(nd:NoD)(np:Int)(EA:Option Addr)(ec:Nat)(te:ByteArray)(t1 tk tl:Int)(q:Bool)(w:World)(hb:Blk w b 123 #[.int .i64 root,.int .i64 pos,.int .i64 leaf,.slice ((some la)) ln lc,.int .i64 fro,.int .i64 to,.bool spl])(hE:∀W,Upd [b] w W->At W EA (nd.es.flatMap enC))(hel:nd.es.length<=1000)(hln:1<=ln)(hlc:ln<=lc)(hte:te.size<=1000000)(hq:dU nd.es te=q):
  Calls Tryz.prog 55 #[.pointer (some ⟨b,0,none⟩),.agg #[.int .i64 np,.int .i64 nd.lv,.int .i64 nd.right,.string nd.high,.bool nd.dead,.slice EA nd.es.length ec,.int .i64 ((nd.free:Int))],.agg #[.string te,.int .i64 t1,.int .i64 tk,.int .i64 tl]] w (Hx b #[.int .i64 root,.int .i64 root,.int .i64 ((if tl=0 then np else leaf)),.slice ((if lc=1 then some la else (some la).map (·.add (1*4)))) ((ln-1)) ((lc-1)),.int .i64 fro,.int .i64 to,.bool spl] (if q=true then [] else [(np,(nd.free:Int),itB nd.lv tk te)]) w):=by
 have st0:=St.lend (E:=eB b 123 #[.int .i64 root,.int .i64 pos,.int .i64 leaf,.slice ((some la)) ln lc,.int .i64 fro,.int .i64 to,.bool spl]) hb (eH _ _ _) (fun k hk=>by simp[eB] at hk;subst hk;exact hb.lt)
 go_enter Tryz.func55,Tryz.ntmps55
 have ar:=st0
 refine wp_seq (sqr ?_)
 refine bZ #[vi np,vi nd.lv,vi nd.right,.string nd.high,.bool nd.dead,.slice EA nd.es.length ec,vi ((nd.free:Int))] ar fun bx W1 aE=>?_
 refine bZ #[.string te,vi t1,vi tk,vi tl] aE fun eX W2 aN=>?_
 refine sqp [.k 6 (.slice none 0 0)] ?_
 refine aa (wp_seq (sqr (sqp [.k 7 (.slice none 0 0)] ?_)))
 refine aa (wp_seq (wp_seq (sqr (sqp [.k 8 (.pointer (some ⟨bx,5,none⟩))] ?_))))
 refine am 1 aN ?_
 refine sqv (.func (.func 97) #[] #[vp eX]) aN (by
   exact sv0 rfl rfl rfl rfl rfl (fun _ _ _ h=>h) fun g d W X cx=>by
    have Jy:g (.tmp 5)=vp eX:=(cx.ou 5)
    simp[go_sem,Instr.makeFunc,Jy]) fun W7 bD=>?_
 refine sqk (.bool ((dU nd.es te))) bD (fun cx=>⟨_,B7 (hE _ cx.upd) (by omega) (cx.bi 2 rfl),(aI (cx.ou 9) (cx.ou 10))⟩) fun W8 bj=>?_
 refine sqp [.k 12 (.bool (!((dU nd.es te))))] ?_
 refine aa ?_
 rcases Bool.eq_false_or_eq_true ((dU nd.es te)) with ey|ey
 refine wp_cond_false (show Act.eval _ _= .bool false from(congrArg Value.bool (by rw[ey];rfl))) (wp_skip (aa (wp_seq (wp_seq (sqr (sqp [.k 23 (.pointer (some ⟨eX,3,none⟩))] ?_))))))
 refine am 2 bj ?_
 refine sqp [.k 25 (.bool (tl==0))] ?_
 refine aa (wbs (fun dQ=>?_) fun dQ=>?_)
 have fC:=beq_iff_eq.1 dQ
 refine sqr (sqp [.m 26 0,.k 27 (vp bx)] ?_)
 refine am 1 bj ?_
 refine sqp [.k 29 (vp b),.k 30 (.pointer (some ⟨b,2,none⟩))] ?_
 refine aD (n:=1) 0 #[vi root,vi pos,vi np,.slice ((some la)) ln lc,vi fro,vi to,.bool spl] bj fun qj cb=>?_
 refine aa (wp_seq (ak [0,0,0,4,12,28,60,0,128,384,896,2045,4093,8189,16383,32767,65535] [[],[],[],[],[],[0],[],[],[],[],[0],[],[],[0],[],[],[3]] [[],[],[],[],[],[],[],[],[],[],[],[],[],[3],[],[],[4]] [[],[],[],[],[],[],[],[],[],[],[],[],[],[0],[],[],[3]] [.k 31 (vp b),.k 32 (vp b),.k 33 (vp b),.k 34 (vp b),.k 35 (.pointer (some ⟨b,3,none⟩)),.c 36 (.slice ((some la)) ln lc),.c 37 (.slice ((if lc=1 then (some la) else ((some la)).map (·.add (1*4)))) ((ln-1)) ((lc-1))),.k 38 (vp b),.k 39 (vp b),.k 40 (vp b),.c 41 (vi root),.k 42 (vp b),.k 43 (.pointer (some ⟨b,3,none⟩)),.n,.k 44 (vp b),.k 45 (.pointer (some ⟨b,1,none⟩)),.n] (fun ix f d X=>match ix with|0|1|2|3|4|5|6|7|8|9|10|11|12=>True|13=>X 3=eB b 123 #[vi root,vi pos,vi np,.slice ((if lc=1 then (some la) else ((some la)).map (·.add (1*4)))) ((ln-1)) ((lc-1)),vi fro,vi to,.bool spl]|14|15=>True|16=>X 4=eB b 123 #[vi root,vi root,vi np,.slice ((if lc=1 then (some la) else ((some la)).map (·.add (1*4)))) ((ln-1)) ((lc-1)),vi fro,vi to,.bool spl]|_=>True) [1,2,4] [5,6,10,13,16] [(31,0,16,46)] cb ?_ ?_ ?_))
 exact fun ix _ _ _ _ _ _ hs hb hx h=>match ix,h with
 |13,h=>by dsimp only;rw[<-hx 3 rfl];exact h
 |16,h=>by dsimp only;rw[<-hx 4 rfl];exact h
 |0,_|1,_|2,_|3,_|4,_|5,_|6,_|7,_|8,_|9,_|10,_|11,_|12,_|14,_|15,_|_+17,_=>trivial
 refine⟨?_,?_,?_,?_,?_,trivial⟩
 exact xs4 rfl id fun cx=>ae rfl (by kernel_rfl) (cx.an 4) ((cx.bi 0 rfl).cell 3)
 exact xs4 rfl id fun cx=>ce (e:=120) (sz:=4) (l:=1) rfl (by kernel_rfl) (by kernel_rfl) (cx.an 5) (cx.co _) (by omega) (by omega)
 exact xs4 rfl id fun cx=>ae rfl (by kernel_rfl) (cx.an 9) ((cx.bi 0 rfl).cell 0)
 refine svA fun g d W X cx=>?_
 exact aw (n:=1) rfl (cx.an 12) (cx.an 6) (by kernel_rfl) (by kernel_rfl) (by kernel_rfl) cx (cx.init 0 _ rfl) rfl (nle rfl) (by kernel_rfl) rfl rfl rfl (fun _ _ _ _ _=>id)
 refine svA fun g d W X cx=>?_
 exact aw (n:=1) rfl (cx.an 15) (cx.an 10) (by kernel_rfl) (by kernel_rfl) (by kernel_rfl) cx (dTn (cx.an 13)) rfl (nle rfl) (by kernel_rfl) rfl rfl rfl (fun _ _ _ _ _=>id)
 intro f d X y2 hD eI fr ag
 simp only[exq 4 ((dTn (hD 16 lq)))] at eI
 clear hD;subst ag;clear f d X
 refine aa (wp_seq (sqr (sqp [.m 46 7,.m 6 46] ?_)))
 refine aa (wp_ret ?_)
 refine bpr (.slice none 0 0) (ai Tryz.results55 rpt) ?_
 have hqq:q=true:=hq.symm.trans ey
 have htl0:tl=0:=by have h_:=dQ;simpa using h_
 rw[if_pos htl0,hqq]
 have hn24:=bT eI 67 3
 simp only[List.cons_append,List.nil_append] at hn24
 exact⟨_,_,rfl,hn24.pick [2,3] (by decide) rfl⟩
 have fC:=beq_eq_false_iff_ne.1 dQ
 refine wp_skip (aa (wp_seq (ak [0,0,0,4,12,28,60,0,128,384,896,2045,4093,8189,16383,32767,65535] [[],[],[],[],[],[0],[],[],[],[],[0],[],[],[0],[],[],[3]] [[],[],[],[],[],[],[],[],[],[],[],[],[],[3],[],[],[4]] [[],[],[],[],[],[],[],[],[],[],[],[],[],[0],[],[],[3]] [.k 31 (vp b),.k 32 (vp b),.k 33 (vp b),.k 34 (vp b),.k 35 (.pointer (some ⟨b,3,none⟩)),.c 36 (.slice ((some la)) ln lc),.c 37 (.slice ((if lc=1 then (some la) else ((some la)).map (·.add (1*4)))) ((ln-1)) ((lc-1))),.k 38 (vp b),.k 39 (vp b),.k 40 (vp b),.c 41 (vi root),.k 42 (vp b),.k 43 (.pointer (some ⟨b,3,none⟩)),.n,.k 44 (vp b),.k 45 (.pointer (some ⟨b,1,none⟩)),.n] (fun ix f d X=>match ix with|0|1|2|3|4|5|6|7|8|9|10|11|12=>True|13=>X 3=eB b 123 #[vi root,vi pos,vi leaf,.slice ((if lc=1 then (some la) else ((some la)).map (·.add (1*4)))) ((ln-1)) ((lc-1)),vi fro,vi to,.bool spl]|14|15=>True|16=>X 4=eB b 123 #[vi root,vi root,vi leaf,.slice ((if lc=1 then (some la) else ((some la)).map (·.add (1*4)))) ((ln-1)) ((lc-1)),vi fro,vi to,.bool spl]|_=>True) [1,2,4] [5,6,10,13,16] [(31,0,16,46)] bj ?_ ?_ ?_)))
 exact fun ix _ _ _ _ _ _ hs hb hx h=>match ix,h with
 |13,h=>by dsimp only;rw[<-hx 3 rfl];exact h
 |16,h=>by dsimp only;rw[<-hx 4 rfl];exact h
 |0,_|1,_|2,_|3,_|4,_|5,_|6,_|7,_|8,_|9,_|10,_|11,_|12,_|14,_|15,_|_+17,_=>trivial
 refine⟨?_,?_,?_,?_,?_,trivial⟩
 exact xs4 rfl id fun cx=>ae rfl (by kernel_rfl) (cx.an 4) ((cx.bi 0 rfl).cell 3)
 exact xs4 rfl id fun cx=>ce (e:=120) (sz:=4) (l:=1) rfl (by kernel_rfl) (by kernel_rfl) (cx.an 5) (cx.co _) (by omega) (by omega)
 exact xs4 rfl id fun cx=>ae rfl (by kernel_rfl) (cx.an 9) ((cx.bi 0 rfl).cell 0)
 refine svA fun g d W X cx=>?_
 exact aw (n:=1) rfl (cx.an 12) (cx.an 6) (by kernel_rfl) (by kernel_rfl) (by kernel_rfl) cx (cx.init 0 _ rfl) rfl (nle rfl) (by kernel_rfl) rfl rfl rfl (fun _ _ _ _ _=>id)
 refine svA fun g d W X cx=>?_
 exact aw (n:=1) rfl (cx.an 15) (cx.an 10) (by kernel_rfl) (by kernel_rfl) (by kernel_rfl) cx (dTn (cx.an 13)) rfl (nle rfl) (by kernel_rfl) rfl rfl rfl (fun _ _ _ _ _=>id)
 intro f d X Ch hD ej fr ag
 simp only[exq 4 ((dTn (hD 16 lq)))] at ej
 clear hD;subst ag;clear f d X
 refine aa (wp_seq (sqr (sqp [.m 46 7,.m 6 46] ?_)))
 refine aa (wp_ret ?_)
 refine bpr (.slice none 0 0) (ai Tryz.results55 rpt) ?_
 have hqq:q=true:=hq.symm.trans ey
 have htl0:¬tl=0:=by have h_:=dQ;simpa using h_
 rw[if_neg htl0,hqq]
 have hn28:=bT ej 67 3
 simp only[List.cons_append,List.nil_append] at hn28
 exact⟨_,_,rfl,hn28.pick [2,3] (by decide) rfl⟩
 refine wp_cond_true (show Act.eval _ _= .bool true from(congrArg Value.bool (by rw[ey];rfl))) (ak [0,1,0,4,0,0,32,112,255,511,1023] [[],[1],[],[1],[1],[],[2]] [[],[],[],[],[],[],[],[],[],[3]] [] [.k 13 (vp bx),.c 14 (vi np),.k 15 (.pointer (some ⟨bx,6,none⟩)),.c 16 (vi ((nd.free:Int))),.c 17 (.agg #[vi np,vi nd.lv,vi nd.right,.string nd.high,.bool nd.dead,.slice EA nd.es.length ec,vi ((nd.free:Int))]),.k 18 (vp eX),.c 19 (.agg #[.string te,vi t1,vi tk]),.c 20 (.string (itB nd.lv tk te)),.k 21 (.agg #[vi np,vi ((nd.free:Int)),.string (itB nd.lv tk te)]),.a 22,.a 7] (fun ix f d X=>match ix with|0|1|2|3|4|5|6|7|8=>True|9=>f 22= .slice ((some ⟨(pb' (d 22)),0,none⟩)) 1 1/\X 3=eO 67 3 (.slice ((some ⟨(pb' (d 22)),0,none⟩)) 1 1) 1 ([vi np,vi ((nd.free:Int)),.string (itB nd.lv tk te)])|10=>f 7= .slice ((some ⟨(pb' (d 22)),0,none⟩)) 1 1|_=>True) [0,1,2,3] [1,3,4,6,7,9,10] [(7,10,1,8),(5,0,10,15)] bj ?_ ?_ ?_)
 exact fun ix _ _ _ _ _ _ hs hb hx h=>match ix,h with
 |9,h=>by dsimp only;rw[<-hs 22 rfl,<-hb 22 rfl,<-hx 3 rfl];exact h
 |10,h=>by dsimp only;rw[<-hs 7 rfl,<-hb 22 rfl];exact h
 |0,_|1,_|2,_|3,_|4,_|5,_|6,_|7,_|8,_|_+11,_=>trivial
 refine⟨?_,?_,?_,?_,?_,?_,?_,trivial⟩
 exact xs4 rfl id fun cx=>ae rfl (by kernel_rfl) (cx.an 0) ((cx.bi 1 rfl).cell 0)
 exact xs4 rfl id fun cx=>ae rfl (by kernel_rfl) (cx.an 2) ((cx.bi 1 rfl).cell 6)
 exact xs4 rfl id fun cx=>aV (n:=7) rfl (by kernel_rfl) (by kernel_rfl) (cx.ou 4) (cx.bi 1 rfl) (nle rfl) rfl
 exact xs4 rfl id fun cx=>aV (n:=3) rfl (by kernel_rfl) (by kernel_rfl) (cx.an 5) (cx.bi 2 rfl) (nle rfl) rfl
 exact xsc rfl id rfl rfl fun cx=>⟨_,oz np nd.lv nd.right (nd.free:Int) nd.high nd.dead _ _ _ te t1 tk _ (by omega),(aI (cx.an 4) (cx.an 6))⟩
 refine svA fun g d W X cx=>?_
 have Ev:g (.tmp 21)= .agg #[vi np,vi ((nd.free:Int)),.string (itB nd.lv tk te)]:=(cx.an 8)
 exact bS (e:=67) (sz:=3) (xs:=[vi np,vi ((nd.free:Int)),.string (itB nd.lv tk te)]) rfl (by simp[go_sem,Ev]) rfl (by decide) rfl rfl (fun _ _ _ _ _=> .intro)
 exact sv rfl rfl rfl rfl rfl _ (fun _ _ _ h=>h) (fun d i h=>by rw[h 22 (by decide)]) fun g d W X cx=>bt rfl (dTn (cx.an 9)).1
 intro f d X Ci hD dO fr ag
 simp only[exq 3 ((dTn (hD 9 lq)).2)] at dO
 simp only[ed 22 ((dTn (hD 9 lq)).1),ed 7 ((dTn (hD 10 lq)))] at ag
 generalize pb' (d 22)=Cy at dO ag
 clear hD;subst ag;clear f d X
 refine aa (wp_seq (wp_seq (sqr (sqp [.k 23 (.pointer (some ⟨eX,3,none⟩))] ?_))))
 refine am 2 dO ?_
 refine sqp [.k 25 (.bool (tl==0))] ?_
 refine aa (wbs (fun jD=>?_) fun jD=>?_)
 have sK:=beq_iff_eq.1 jD
 refine sqr (sqp [.m 26 0,.k 27 (vp bx)] ?_)
 refine am 1 dO ?_
 refine sqp [.k 29 (vp b),.k 30 (.pointer (some ⟨b,2,none⟩))] ?_
 refine aD (n:=1) 0 #[vi root,vi pos,vi np,.slice ((some la)) ln lc,vi fro,vi to,.bool spl] dO fun qk c7=>?_
 refine aa (wp_seq (ak [0,0,0,4,12,28,60,0,128,384,896,2045,4093,8189,16383,32767,65535] [[],[],[],[],[],[0],[],[],[],[],[0],[],[],[0],[],[],[4]] [[],[],[],[],[],[],[],[],[],[],[],[],[],[4],[],[],[5]] [[],[],[],[],[],[],[],[],[],[],[],[],[],[0],[],[],[4]] [.k 31 (vp b),.k 32 (vp b),.k 33 (vp b),.k 34 (vp b),.k 35 (.pointer (some ⟨b,3,none⟩)),.c 36 (.slice ((some la)) ln lc),.c 37 (.slice ((if lc=1 then (some la) else ((some la)).map (·.add (1*4)))) ((ln-1)) ((lc-1))),.k 38 (vp b),.k 39 (vp b),.k 40 (vp b),.c 41 (vi root),.k 42 (vp b),.k 43 (.pointer (some ⟨b,3,none⟩)),.n,.k 44 (vp b),.k 45 (.pointer (some ⟨b,1,none⟩)),.n] (fun ix f d X=>match ix with|0|1|2|3|4|5|6|7|8|9|10|11|12=>True|13=>X 4=eB b 123 #[vi root,vi pos,vi np,.slice ((if lc=1 then (some la) else ((some la)).map (·.add (1*4)))) ((ln-1)) ((lc-1)),vi fro,vi to,.bool spl]|14|15=>True|16=>X 5=eB b 123 #[vi root,vi root,vi np,.slice ((if lc=1 then (some la) else ((some la)).map (·.add (1*4)))) ((ln-1)) ((lc-1)),vi fro,vi to,.bool spl]|_=>True) [1,2,3,5] [5,6,10,13,16] [(31,0,16,46)] c7 ?_ ?_ ?_))
 exact fun ix _ _ _ _ _ _ hs hb hx h=>match ix,h with
 |13,h=>by dsimp only;rw[<-hx 4 rfl];exact h
 |16,h=>by dsimp only;rw[<-hx 5 rfl];exact h
 |0,_|1,_|2,_|3,_|4,_|5,_|6,_|7,_|8,_|9,_|10,_|11,_|12,_|14,_|15,_|_+17,_=>trivial
 refine⟨?_,?_,?_,?_,?_,trivial⟩
 exact xs4 rfl id fun cx=>ae rfl (by kernel_rfl) (cx.an 4) ((cx.bi 0 rfl).cell 3)
 exact xs4 rfl id fun cx=>ce (e:=120) (sz:=4) (l:=1) rfl (by kernel_rfl) (by kernel_rfl) (cx.an 5) (cx.co _) (by omega) (by omega)
 exact xs4 rfl id fun cx=>ae rfl (by kernel_rfl) (cx.an 9) ((cx.bi 0 rfl).cell 0)
 refine svA fun g d W X cx=>?_
 exact aw (n:=1) rfl (cx.an 12) (cx.an 6) (by kernel_rfl) (by kernel_rfl) (by kernel_rfl) cx (cx.init 0 _ rfl) rfl (nle rfl) (by kernel_rfl) rfl rfl rfl (fun _ _ _ _ _=>id)
 refine svA fun g d W X cx=>?_
 exact aw (n:=1) rfl (cx.an 15) (cx.an 10) (by kernel_rfl) (by kernel_rfl) (by kernel_rfl) cx (dTn (cx.an 13)) rfl (nle rfl) (by kernel_rfl) rfl rfl rfl (fun _ _ _ _ _=>id)
 intro f d X Cd hD eL fr ag
 simp only[exq 5 ((dTn (hD 16 lq)))] at eL
 clear hD;subst ag;clear f d X
 refine aa (wp_seq (sqr (sqp [.m 46 7,.m 6 46] ?_)))
 refine aa (wp_ret ?_)
 refine bpr (.slice ((some ⟨Cy,0,none⟩)) 1 1) (ai Tryz.results55 rpt) ?_
 have hqq:q=false:=hq.symm.trans ey
 have htl0:tl=0:=by have h_:=jD;simpa using h_
 rw[if_pos htl0,hqq]
 exact⟨_,_,rfl,eL.pick [3,2] (by decide) rfl⟩
 have sK:=beq_eq_false_iff_ne.1 jD
 refine wp_skip (aa (wp_seq (ak [0,0,0,4,12,28,60,0,128,384,896,2045,4093,8189,16383,32767,65535] [[],[],[],[],[],[0],[],[],[],[],[0],[],[],[0],[],[],[4]] [[],[],[],[],[],[],[],[],[],[],[],[],[],[4],[],[],[5]] [[],[],[],[],[],[],[],[],[],[],[],[],[],[0],[],[],[4]] [.k 31 (vp b),.k 32 (vp b),.k 33 (vp b),.k 34 (vp b),.k 35 (.pointer (some ⟨b,3,none⟩)),.c 36 (.slice ((some la)) ln lc),.c 37 (.slice ((if lc=1 then (some la) else ((some la)).map (·.add (1*4)))) ((ln-1)) ((lc-1))),.k 38 (vp b),.k 39 (vp b),.k 40 (vp b),.c 41 (vi root),.k 42 (vp b),.k 43 (.pointer (some ⟨b,3,none⟩)),.n,.k 44 (vp b),.k 45 (.pointer (some ⟨b,1,none⟩)),.n] (fun ix f d X=>match ix with|0|1|2|3|4|5|6|7|8|9|10|11|12=>True|13=>X 4=eB b 123 #[vi root,vi pos,vi leaf,.slice ((if lc=1 then (some la) else ((some la)).map (·.add (1*4)))) ((ln-1)) ((lc-1)),vi fro,vi to,.bool spl]|14|15=>True|16=>X 5=eB b 123 #[vi root,vi root,vi leaf,.slice ((if lc=1 then (some la) else ((some la)).map (·.add (1*4)))) ((ln-1)) ((lc-1)),vi fro,vi to,.bool spl]|_=>True) [1,2,3,5] [5,6,10,13,16] [(31,0,16,46)] dO ?_ ?_ ?_)))
 exact fun ix _ _ _ _ _ _ hs hb hx h=>match ix,h with
 |13,h=>by dsimp only;rw[<-hx 4 rfl];exact h
 |16,h=>by dsimp only;rw[<-hx 5 rfl];exact h
 |0,_|1,_|2,_|3,_|4,_|5,_|6,_|7,_|8,_|9,_|10,_|11,_|12,_|14,_|15,_|_+17,_=>trivial
 refine⟨?_,?_,?_,?_,?_,trivial⟩
 exact xs4 rfl id fun cx=>ae rfl (by kernel_rfl) (cx.an 4) ((cx.bi 0 rfl).cell 3)
 exact xs4 rfl id fun cx=>ce (e:=120) (sz:=4) (l:=1) rfl (by kernel_rfl) (by kernel_rfl) (cx.an 5) (cx.co _) (by omega) (by omega)
 exact xs4 rfl id fun cx=>ae rfl (by kernel_rfl) (cx.an 9) ((cx.bi 0 rfl).cell 0)
 refine svA fun g d W X cx=>?_
 exact aw (n:=1) rfl (cx.an 12) (cx.an 6) (by kernel_rfl) (by kernel_rfl) (by kernel_rfl) cx (cx.init 0 _ rfl) rfl (nle rfl) (by kernel_rfl) rfl rfl rfl (fun _ _ _ _ _=>id)
 refine svA fun g d W X cx=>?_
 exact aw (n:=1) rfl (cx.an 15) (cx.an 10) (by kernel_rfl) (by kernel_rfl) (by kernel_rfl) cx (dTn (cx.an 13)) rfl (nle rfl) (by kernel_rfl) rfl rfl rfl (fun _ _ _ _ _=>id)
 intro f d X Jg hD em fr ag
 simp only[exq 5 ((dTn (hD 16 lq)))] at em
 clear hD;subst ag;clear f d X
 refine aa (wp_seq (sqr (sqp [.m 46 7,.m 6 46] ?_)))
 refine aa (wp_ret ?_)
 refine bpr (.slice ((some ⟨Cy,0,none⟩)) 1 1) (ai Tryz.results55 rpt) ?_
 have hqq:q=false:=hq.symm.trans ey
 have htl0:¬tl=0:=by have h_:=jD;simpa using h_
 rw[if_neg htl0,hqq]
 exact⟨_,_,rfl,em.pick [3,2] (by decide) rfl⟩
theorem uF(np lv rt fr:Int)(hg:ByteArray)(dead:Bool)(EA:Option Addr)(ec n:Nat)(x:ByteArray)(es:List EnD)(w:World)(hE:At w EA (es.flatMap enC))(hn:es.length=n)(hez:∀e∈es,e.1.size<=1000000)(hnb:n<=100000)(hx:x.size<=1000000):
  Calls Tryz.prog 53 #[.agg #[.int .i64 np,.int .i64 lv,.int .i64 rt,.string hg,.bool dead,.slice EA n ec,.int .i64 fr],.string x] w (Ret (.int .i64 (cm x es (-1))) w):=by
 go_enter Tryz.func53,Tryz.ntmps53
 have ar:=St.start w
 refine wp_seq (sqr ?_)
 refine bZ #[vi np,vi lv,vi rt,.string hg,.bool dead,.slice EA n ec,vi fr] ar fun bW W1 aE=>?_
 refine sqp [.k 4 (vi 0)] ?_
 refine aa (wp_seq (sqr (sqp [.k 5 (vi (-1))] ?_)))
 refine aa (wp_seq (wp_seq (sqr (sqp [.k 8 (.pointer (some ⟨bW,5,none⟩))] ?_))))
 refine am 0 aE ?_
 refine sqp [.k 10 (vi ((n:Int))),.k 11 (vi 0)] ?_
 refine aa (wp_block ?_)
 refine aL (fun t_ mz az W=>∃j:Nat,∃d:Int,j<=n/\cm x es (-1)=cm x (es.drop j) d/\mz=n-j/\az=⟨(ovr (jv az) [(5,5,0,[vi d]),(1,7,1,[]),(3,11,0,[vi ((j:Int))]),(0,12,15,[])] t_).toArray,[]⟩/\St w [] [eB bW 84 #[vi np,vi lv,vi rt,.string hg,.bool dead,.slice EA n ec,vi fr]] W) (n-0) ?_ ?_
 exact⟨0,(-1),Nat.zero_le _,rfl,rfl,(by kernel_rfl),aE.pk [0]⟩
 rintro n8 a8 W8 ⟨j,d,hj,hI,rfl,hj_,bj⟩
 refine ovz hj_ fun Iz=>?_
 refine wp_seq (sqr (sqp [.k 12 (.bool (decide ((j:Int)<(n:Int))))] ?_))
 refine aa (wp_seq (wds (fun ey fT=>?_) fun ey fT=>?_))
 ·refine wp_skip (aa (wp_seq (wp_block (wp_seq (sqr ?_)))))
  refine sql (.pointer (some ((ad EA).add (j*3)))) bj (fun cx=>aH (e:=89) (m:=j) (sz:=3) rfl (by kernel_rfl) (by kernel_rfl) (cx.ou 9) (cx.ou 11) (by omega) (by omega) (hE.ext cx.upd.to_ext) (bq (sz:=3) aQ (by decide) (by omega))) ?_
  refine sql (.agg #[.string ((es.getD j en0).1),vi (((es.getD j en0).2.1:Int)),vi ((es.getD j en0).2.2)]) bj (fun cx=>aZ (f:=enC) (m:=j) (sz:=3) (off:=0) (n:=3) rfl (by kernel_rfl) (by kernel_rfl) (cx.ou 13) rfl aQ (hE.ext cx.upd.to_ext) (cR (by omega)) (fun k hk=>match k,hk with|0,_=>rfl|1,_=>rfl|2,_=>rfl|k+3,hk=>absurd hk (by omega))) ?_
  refine bF #[.string ByteArray.empty,vi 0,vi 0] bj fun Fk lk bH=>?_
  refine aD (n:=3) 1 #[.string ((es.getD j en0).1),vi (((es.getD j en0).2.1:Int)),vi ((es.getD j en0).2.2)] bH fun kb bm=>?_
  refine aa (wp_seq (sqr (sqp [.m 15 5,.k 16 (.bool (decide (d<0))),.m 17 16] ?_)))
  refine ii 17 [18,19,20,21,22] ?_ bm rfl (fun hq=>?_) fun uL cE=>?_
  rotate_left
  have hq_:=of_decide_eq_false hq
  refine sqp [.m 18 1,.k 19 (vp Fk)] ?_
  refine am 1 bm ?_
  refine sqk (.bool (al x ((es.getD j en0).1))) bm (fun cx=>⟨_,gh x ((es.getD j en0).1) _ (by omega) (b7 hez _),(aI (cx.ou 18) (cx.ou 20))⟩) fun y2 eI=>?_
  refine sqp [.k 22 (.bool (!(al x ((es.getD j en0).1))))] ?_
  exact sqE eI
  refine bQ ?_
  refine sqp [sPo 23 (decide (d<0)) (!(al x ((es.getD j en0).1)))] ?_
  refine aa (wbs (fun nC=>?_) fun nC=>?_)
  have kG:=nC
  simp only[zB] at kG
  refine sqr (sqp [.k 24 (.pointer (some ⟨Fk,2,none⟩))] ?_)
  refine am 1 cE ?_
  refine sqp [.m 5 25] ?_
  refine ax (aa (sqr (sqp [sI 26 ((j:Int)+1) (by omega),.m 11 26] ?_)))
  refine aa ?_
  refine⟨n-((j+1)),by omega,?_⟩
  exact⟨(j+1),((es.getD j en0).2.2),by omega,by rw[hI,nr (by omega),if_pos (AR nC)],rfl,(by kernel_rfl),cE.pk [0]⟩
  have kG:=nC
  simp only[zB] at kG
  obtain⟨Jz,JA⟩:=kG
  refine wp_skip (ax (aa (sqr (sqp [sI 26 ((j:Int)+1) (by omega),.m 11 26] ?_))))
  refine aa ?_
  refine⟨n-((j+1)),by omega,?_⟩
  exact⟨(j+1),d,by omega,by rw[hI,nr (by omega),if_neg (EV nC)],rfl,(by kernel_rfl),cE.pk [0]⟩
 refine wp_exit (aj (aj (aO (aa (wp_seq (sqr (sqp [.m 27 5,.m 4 27] ?_)))))))
 refine aa (wp_ret ?_)
 refine bpr (vi d) (ai Tryz.results53 rpt) ?_
 exact Ret.of (by rw[hI,List.drop_of_length_le (by omega)];rfl) bj.ext
theorem FU(b:Nat)(tt:TypeId)(tv:Value)(root pos leaf fro to:Int)(spl:Bool)(la:Addr)(ln lc:Nat)(te:ByteArray)(tl tk:Int)(lf:List TaT)(ps:List PgS)(fresh:Int)(fp g:List Nat)(w:World)(hb:Blk w b 123 #[.int .i64 root,.int .i64 pos,.int .i64 leaf,.slice ((some la)) ln lc,.int .i64 fro,.int .i64 to,.bool spl])(hL:∀W,Upd [b] w W->At W (some la) (((te,tl,tk)::lf).flatMap tkK))(hln:((te,tl,tk)::lf).length=ln)(hlc:((te,tl,tk)::lf).length<=lc)(hlnb:ln<=10000)(hS:∀W,Upd [b] w W->PgsOk W tt tv ps)(hok:OkS ps)(hoc:OkC ps)(hfp:fp=b::g)(hbg:b∉g)(hlt:∀k∈g,k<w.heap.size)(hla:la.block∈g)(hte:te.size<=900000)(htl:0<=tl/\tl<=90000)(h8:∀nd,av ps pos=some nd->nd.es.length<8):
  Calls Tryz.prog 21 #[.pointer (some ⟨b,0,none⟩),.iface tt (tv),.int .i64 fresh] w (rW b (bg ps ⟨root,pos,leaf,(te,tl,tk)::lf,fro,to,spl⟩ fresh) fp w):=by
 have st0:=St.lend (E:=eB b 123 #[.int .i64 root,.int .i64 pos,.int .i64 leaf,.slice ((some la)) ln lc,.int .i64 fro,.int .i64 to,.bool spl]) hb (eH _ _ _) (fun k hk=>by simp[eB] at hk;subst hk;exact hb.lt)
 have hln1:1<=ln:=by rw[<-hln];simp
 have hlc1:lf.length+1<=lc:=hlc
 have hln2:lf.length+1=ln:=hln
 go_enter Tryz.func21,Tryz.ntmps21
 have ar:=st0
 refine wp_seq (sqr (sqp [.k 6 (.slice none 0 0),.k 7 (.bool false),.k 8 (vi 0)] ?_))
 refine aa (wp_seq (wp_seq (sqr (sqp [.m 14 0] ?_))))
 refine sqv (.bool false) ar (by
   exact sv0 rfl rfl rfl rfl rfl (fun _ _ _ h=>h) fun j d W X cx=>by
    have M3:j (.tmp 14)=vp b:=(cx.ou 14)
    simp[go_sem,cx.sees.const,M3]) fun W5 bw=>?_
 refine aa (wcf rfl (wp_skip (aa (wp_seq (sqr (sqp [.m 16 0,.m 17 0,.m 18 0,.k 19 (vp b),.k 20 (.pointer (some ⟨b,4,none⟩))] ?_))))))
 refine aD (n:=1) 0 #[vi root,vi pos,vi leaf,.slice ((some la)) ln lc,vi 0,vi to,.bool spl] bw fun oK bY=>?_
 refine sqp [.k 21 (vp b),.k 22 (.pointer (some ⟨b,5,none⟩))] ?_
 refine aD (n:=1) 0 #[vi root,vi pos,vi leaf,.slice ((some la)) ln lc,vi 0,vi 0,.bool spl] bY fun kb bm=>?_
 refine sqp [.k 23 (vp b),.k 24 (.pointer (some ⟨b,6,none⟩))] ?_
 refine aD (n:=1) 0 #[vi root,vi pos,vi leaf,.slice ((some la)) ln lc,vi 0,vi 0,.bool false] bm fun su b6=>?_
 refine aa (wp_seq (wp_seq (sqr (sqp [.m 25 0,.k 26 (vp b),.k 27 (.pointer (some ⟨b,3,none⟩))] ?_))))
 refine am 0 b6 ?_
 have hd24:((ln:Int)==0)=false:=(by rw[beq_eq_false_iff_ne];omega)
 refine sqp [.k 29 (vi ((ln:Int))),.e 30 (.bool ((ln:Int)==0)) (.bool false) (congrArg Value.bool hd24)] ?_
 refine aa (wcf rfl (wp_skip (aa (wp_seq (sqr (sqp [.m 31 0,.k 32 (vp b),.k 33 (.pointer (some ⟨b,3,none⟩))] ?_))))))
 refine am 0 b6 ?_
 refine sql (.pointer (some ((ad ((some la))).add (0*4)))) b6 (fun cx=>aH (e:=120) (m:=0) (sz:=4) rfl (by kernel_rfl) (by kernel_rfl) (cx.ou 34) (cx.co _) (by omega) (by omega) (hL _ cx.upd) (bq (sz:=4) pQ (by decide) (by omega))) ?_
 refine sql (.agg #[.string te,vi 0,vi tk,vi tl]) b6 (fun cx=>aZ (f:=tkK) (m:=0) (sz:=4) (off:=0) (n:=4) rfl (by kernel_rfl) (by kernel_rfl) (cx.ou 35) rfl pQ (hL _ cx.upd) rfl (fun k hk=>match k,hk with|0,_=>rfl|1,_=>rfl|2,_=>rfl|3,_=>rfl|k+4,hk=>absurd hk (by omega))) ?_
 refine bF #[.string ByteArray.empty,vi 0,vi 0,vi 0] b6 fun jP Fi gJ=>?_
 refine aD (n:=4) 1 #[.string te,vi 0,vi tk,vi tl] gJ fun JB eo=>?_
 refine aa (wp_seq ?_)
 rcases hnd:av ps pos with _|nd
 refine ak [0,0,2,6,14,31,63,127,127,0,767,2047] [[],[],[],[],[0],[],[],[],[],[],[2]] [[],[],[],[],[],[],[],[],[],[2],[3]] [[],[],[],[],[],[],[],[],[],[],[2]] [.k 38 (.iface tt (tv)),.k 39 (vp b),.k 40 (vp b),.k 41 (.pointer (some ⟨b,1,none⟩)),.c 42 (vi pos),.a 43,.a 37,.a 44,.c 45 (.bool false),.a 10,.n,.k 11 (.bool false)] (fun ix i d X=>match ix with|0|1|2|3|4=>True|5=>i 43= .tuple #[.agg #[vi (iv (tg (tg (d 43) 0) 0)),vi 0,vi 0,.string ((⟨#[]⟩:ByteArray)),.bool false,.slice none 0 0,vi 0],.bool false]|6=>i 37= .tuple #[.agg #[vi (iv (tg (tg (d 43) 0) 0)),vi 0,vi 0,.string ((⟨#[]⟩:ByteArray)),.bool false,.slice none 0 0,vi 0],.bool false]|7=>i 44= .agg #[vi (iv (tg (tg (d 43) 0) 0)),vi 0,vi 0,.string ((⟨#[]⟩:ByteArray)),.bool false,.slice none 0 0,vi 0]|8=>True|9=>i 10=vp (pb (d 10))/\X 2=eB (pb (d 10)) 84 #[vi 0,vi 0,vi 0,.string ByteArray.empty,.bool false,.slice none 0 0,vi 0]|10=>X 3=eB (pb (d 10)) 84 #[vi (iv (tg (tg (d 43) 0) 0)),vi 0,vi 0,.string ((⟨#[]⟩:ByteArray)),.bool false,.slice none 0 0,vi 0]|_=>True) [0,1,3] [4,5,6,7,8,9,10] [(10,9,3,12),(25,6,1,26),(0,0,6,6),(0,7,2,2)] eo ?_ ?_ ?_
 exact fun ix _ _ _ _ _ _ hs hb hx h=>match ix,h with
 |5,h=>by dsimp only;rw[<-hs 43 rfl,<-hb 43 rfl];exact h
 |6,h=>by dsimp only;rw[<-hs 37 rfl,<-hb 43 rfl];exact h
 |7,h=>by dsimp only;rw[<-hs 44 rfl,<-hb 43 rfl];exact h
 |9,h=>by dsimp only;rw[<-hs 10 rfl,<-hb 10 rfl,<-hx 2 rfl];exact h
 |10,h=>by dsimp only;rw[<-hb 10 rfl,<-hb 43 rfl,<-hx 3 rfl];exact h
 |0,_|1,_|2,_|3,_|4,_|8,_|_+11,_=>trivial
 refine⟨?_,?_,?_,?_,?_,?_,?_,trivial⟩
 exact xs4 rfl id fun cx=>ae rfl (by kernel_rfl) (cx.an 3) ((cx.bi 0 rfl).cell 1)
 refine svA fun j d W X cx=>?_
 refine aC.call (aB (args:=#[.iface tt (tv),vi pos]) rfl cx.sees rfl (by kernel_rfl) (aI (cx.an 0) (cx.an 4))) ?_
 refine(uV hnd (js _ _ ps pos _ (hS _ cx.upd) hok hoc)).mono ?_
 rintro e W1 ⟨p4,rfl,hx⟩
 refine⟨_,rfl,d3 [] rfl rfl hx (by simp) List.Pairwise.nil (fun i l X' hs hb hv hN=>?_)⟩
 have aW:=(hv 43 rfl).1;have aG:=(hv 43 rfl).2
 exact aW.trans (by rw[aG];rfl)
 exact sv rfl rfl rfl rfl rfl _ (fun _ _ _ h=>h) (fun d l h=>by rw[h 43 (by decide)]) fun j d W X cx=>cL rfl (dTn (cx.an 5))
 exact sv rfl rfl rfl rfl rfl _ (fun _ _ _ h=>h) (fun d l h=>by rw[h 43 (by decide)]) fun j d W X cx=>aU rfl (dTn (cx.an 6)) rfl
 exact xs4 rfl id fun cx=>aU rfl (dTn (cx.an 6)) rfl
 refine svA fun j d W X cx=>?_
 exact aX (cs:=#[vi 0,vi 0,vi 0,.string ByteArray.empty,.bool false,.slice none 0 0,vi 0]) rfl (by kernel_rfl) rfl rfl (fun _ _ _ _ _=> .intro)
 refine svA fun j d W X cx=>?_
 exact aw (n:=7) rfl (dTn (cx.an 9)).1 (dTn (cx.an 7)) (by kernel_rfl) (by kernel_rfl) (by kernel_rfl) cx (dTn (cx.an 9)).2 rfl (nle rfl) (by kernel_rfl) rfl rfl rfl (fun i l X' hs hb hx=>by rw[hb 10,hb 43];exact hx)
 intro i d X Fb hD fV fr ag
 simp only[exq 3 ((dTn (hD 10 lq)))] at fV
 simp only[ed 43 ((dTn (hD 5 lq))),ed 37 ((dTn (hD 6 lq))),ed 44 ((dTn (hD 7 lq))),ed 10 ((dTn (hD 9 lq)).1)] at ag
 generalize iv (tg (tg (d 43) 0) 0)=pg43_33,pb (d 10)=OB at fV ag
 clear hD;subst ag;clear i d X
 refine aa (wp_seq (sqr ?_))
 refine sqv (.func (.func 51) #[] #[vp jP]) fV (by
   exact sv0 rfl rfl rfl rfl rfl (fun _ _ _ h=>h) fun j d W X cx=>by
    have Cz:j (.tmp 9)=vp jP:=(cx.ou 9)
    simp[go_sem,Instr.makeFunc,Cz]) fun Fg hZ=>?_
 refine sqp [.m 12 46] ?_
 refine aa (wp_seq (wp_block (wp_seq (sqr (sqp [.k 48 (.bool false),.k 49 (.bool true),.k 47 (.bool true)] ?_)))))
 refine aa (wct rfl (wp_seq (sqr (sqp [.k 6 (.slice none 0 0),.k 7 (.bool false),.k 8 (vi 22)] ?_))))
 refine aa (wp_ret (aq (af ?_)))
 refine bpr (.tuple #[.slice none 0 0,.bool false,vi 22]) (b9 Tryz.results21 rpt rpt rpt) ?_
 rw[tn hnd]
 have hn42:=bT hZ 67 3
 simp only[List.cons_append,List.nil_append] at hn42
 have hup_:=hn42.upd
 have hpk_:=hn42.pick [0,3] (by decide) rfl
 subst hln
 exact⟨_,_,rfl,k6 hpk_ hfp hbg hlt hlc (hL _ hup_) (fun ad e _=>by rw[<-Option.some.inj e];exact hla)⟩
 have hN0:=cO hok hnd
 have hN:NdQ nd:=⟨hN0.lv,fun e he=>Nat.le_trans (hN0.es e he) (by decide)⟩
 have hN1:=hN0.len
 have hN2:=hN0.rt
 have hN3:=hN0.hi
 have hN4:=hN0.lv
 have hN5:=hN0.fr
 have hN7:=hN0.es
 have hn8:=h8 nd hnd
 refine sqr (sqp [.m 38 1,.m 39 0,.k 40 (vp b),.k 41 (.pointer (some ⟨b,1,none⟩))] ?_)
 refine am 0 eo ?_
 refine ff (fun EA43_48 ec43_48=> .tuple #[.agg #[vi pos,vi nd.lv,vi nd.right,.string nd.high,.bool nd.dead,.slice EA43_48 nd.es.length ec43_48,vi ((nd.free:Int))],.bool true]) (fun EA43_48 ec43_48=>eO 89 3 (.slice EA43_48 nd.es.length ec43_48) nd.es.length (nd.es.flatMap enC)) eo (fun cx=>⟨_,(rY hnd (js _ _ ps pos _ (hS _ cx.upd) hok hoc)).mono (by rintro e W1 ⟨EA4,ec4,rfl,aM⟩;exact⟨_,_,rfl,aM⟩),(aI (cx.ou 38) (cx.ou 42))⟩) fun EA43_48 ec43_48 OD Ah=>?_
 refine sqp [.m 37 43,.k 44 (.agg #[vi pos,vi nd.lv,vi nd.right,.string nd.high,.bool nd.dead,.slice EA43_48 nd.es.length ec43_48,vi ((nd.free:Int))]),.k 45 (.bool true)] ?_
 refine bF #[vi 0,vi 0,vi 0,.string ByteArray.empty,.bool false,.slice none 0 0,vi 0] Ah fun o4 IW lW=>?_
 refine aD (n:=7) 3 #[vi pos,vi nd.lv,vi nd.right,.string nd.high,.bool nd.dead,.slice EA43_48 nd.es.length ec43_48,vi ((nd.free:Int))] lW fun IX nw=>?_
 refine sqp [.k 11 (.bool true)] ?_
 refine aa (wp_seq (sqr ?_))
 refine sqv (.func (.func 51) #[] #[vp jP]) nw (by
   exact sv0 rfl rfl rfl rfl rfl (fun _ _ _ h=>h) fun j d W X cx=>by
    have Cz:j (.tmp 9)=vp jP:=(cx.ou 9)
    simp[go_sem,Instr.makeFunc,Cz]) fun Jf gH=>?_
 refine sqp [.m 12 46] ?_
 refine aa (wp_seq (wp_block (wp_seq (sqr (sqp [.k 48 (.bool true),.k 49 (.bool false),.k 47 (.bool false)] ?_)))))
 refine aa (wcf rfl (wp_seq (sqr ?_)))
 refine dz 3 7 gH ?_
 refine sqp [.k 52 (vp jP),.k 53 (vp jP)] ?_
 refine am 1 gH ?_
 refine sqk (.bool (da nd.dead nd.high te)) gH (fun cx=>⟨_,sj pos nd.lv nd.right (nd.free:Int) nd.high nd.dead _ _ _ te _ (by omega) (by omega),(aI (cx.ou 51) (cx.ou 54))⟩) fun IY c8=>?_
 refine sqp [.m 50 55] ?_
 refine aa (wbs (fun nD=>?_) fun nD=>?_)
 refine wp_seq (wp_seq (sqr (sqp [.k 56 (.pointer (some ⟨o4,2,none⟩))] ?_)))
 refine am 3 c8 ?_
 refine sqp [.k 58 (.bool (decide (nd.right<0)))] ?_
 refine aa (wds (fun gw jM=>?_) fun gw jM=>?_)
 refine wp_seq (sqr (sqp [.k 6 (.slice none 0 0),.k 7 (.bool false),.k 8 (vi 11)] ?_))
 refine aa (wp_ret (af (aq (af ?_))))
 refine bpr (.tuple #[.slice none 0 0,.bool false,vi 11]) (b9 Tryz.results21 rpt rpt rpt) ?_
 rw[tq hnd nD (by omega)]
 have hn74:=bT c8 67 3
 simp only[List.cons_append,List.nil_append] at hn74
 have hup_:=hn74.upd
 have hpk_:=hn74.pick [0,4] (by decide) rfl
 subst hln
 exact⟨_,_,rfl,k6 hpk_ hfp hbg hlt hlc (hL _ hup_) (fun ad e _=>by rw[<-Option.some.inj e];exact hla)⟩
 refine wp_skip (aa (wp_seq (sqr (sqp [.m 59 0,.k 60 (.pointer (some ⟨o4,2,none⟩))] ?_))))
 refine am 3 c8 ?_
 refine sqp [.k 62 (vp b),.k 63 (.pointer (some ⟨b,1,none⟩))] ?_
 refine aD (n:=1) 0 #[vi root,vi nd.right,vi leaf,.slice ((some la)) ln lc,vi 0,vi 0,.bool false] c8 fun y5 dv=>?_
 refine aa (wp_seq (sqr (sqp [.k 6 (.slice none 0 0),.k 7 (.bool false),.k 8 (vi 0)] ?_)))
 refine aa (wp_ret (aq (af ?_)))
 refine bpr (.tuple #[.slice none 0 0,.bool false,vi 0]) (b9 Tryz.results21 rpt rpt rpt) ?_
 rw[m6 hnd nD (by omega)]
 have hn84:=bT dv 67 3
 simp only[List.cons_append,List.nil_append] at hn84
 have hup_:=hn84.upd
 have hpk_:=hn84.pick [0,4] (by decide) rfl
 subst hln
 exact⟨_,_,rfl,k6 hpk_ hfp hbg hlt hlc (hL _ hup_) (fun ad e _=>by rw[<-Option.some.inj e];exact hla)⟩
 refine wp_seq (sqr (sqp [.k 65 (.pointer (some ⟨o4,1,none⟩))] ?_))
 refine am 3 c8 ?_
 refine sqp [.k 67 (.pointer (some ⟨jP,3,none⟩))] ?_
 refine am 1 c8 ?_
 refine sqp [.k 69 (.bool (decide (tl<nd.lv))),.m 64 69] ?_
 refine aa (wds (fun M4 Lg=>?_) fun M4 Lg=>?_)
 refine wp_seq (sqr (sqp [.m 70 0] ?_))
 refine dz 3 7 c8 ?_
 refine sqp [.k 72 (vp jP),.k 73 (vp jP)] ?_
 refine am 1 c8 ?_
 refine sqk (vi (cm te nd.es (-1))) c8 (fun cx=>⟨_,uF _ _ _ _ _ _ _ _ _ _ nd.es _ (At.of_ownN (cx.ri 2 rfl)) rfl hN.es6 (by omega) (by omega),(aI (cx.ou 71) (cx.ou 74))⟩) fun Ro Lh=>?_
 refine sqp [.k 76 (vp b),.k 77 (.pointer (some ⟨b,1,none⟩))] ?_
 refine aD (n:=1) 0 #[vi root,vi (cm te nd.es (-1)),vi leaf,.slice ((some la)) ln lc,vi 0,vi 0,.bool false] Lh fun QI JC=>?_
 refine aa (wp_seq (sqr (sqp [.k 6 (.slice none 0 0),.k 7 (.bool false),.k 8 (vi 0)] ?_)))
 refine aa (wp_ret (aq (af ?_)))
 refine bpr (.tuple #[.slice none 0 0,.bool false,vi 0]) (b9 Tryz.results21 rpt rpt rpt) ?_
 rw[pG hnd nD (by omega)]
 have hn104:=bT JC 67 3
 simp only[List.cons_append,List.nil_append] at hn104
 have hup_:=hn104.upd
 have hpk_:=hn104.pick [0,4] (by decide) rfl
 subst hln
 exact⟨_,_,rfl,k6 hpk_ hfp hbg hlt hlc (hL _ hup_) (fun ad e _=>by rw[<-Option.some.inj e];exact hla)⟩
 refine wp_seq (sqr (sqp [.k 79 (.pointer (some ⟨o4,1,none⟩))] ?_))
 refine am 3 c8 ?_
 refine sqp [.k 81 (.pointer (some ⟨jP,3,none⟩))] ?_
 refine am 1 c8 ?_
 refine sqp [.k 83 (.bool (decide (nd.lv<tl))),.m 78 83] ?_
 refine aa (wds (fun Ai xz=>?_) fun Ai xz=>?_)
 refine wp_seq (sqr (sqp [.k 6 (.slice none 0 0),.k 7 (.bool false),.k 8 (vi 11)] ?_))
 refine aa (wp_ret (aq (af ?_)))
 refine bpr (.tuple #[.slice none 0 0,.bool false,vi 11]) (b9 Tryz.results21 rpt rpt rpt) ?_
 rw[tF hnd nD (by omega) (by omega)]
 have hn115:=bT c8 67 3
 simp only[List.cons_append,List.nil_append] at hn115
 have hup_:=hn115.upd
 have hpk_:=hn115.pick [0,4] (by decide) rfl
 subst hln
 exact⟨_,_,rfl,k6 hpk_ hfp hbg hlt hlc (hL _ hup_) (fun ad e _=>by rw[<-Option.some.inj e];exact hla)⟩
 refine wp_seq (sqr (sqp [.k 85 (.pointer (some ⟨o4,5,none⟩))] ?_))
 refine am 3 c8 ?_
 have hd120:(decide ((nd.es.length:Int)<8))=true:=(decide_eq_true (by omega))
 refine sqp [.k 87 (vi ((nd.es.length:Int))),.e 88 (.bool (decide ((nd.es.length:Int)<8))) (.bool true) (congrArg Value.bool hd120),.k 89 (.bool true)] ?_
 refine tm 89 [90,91,92,93] rfl rfl ?_
 refine sqp [.k 94 (.bool true),.k 84 (.bool true)] ?_
 refine aa (wct rfl (wp_seq ?_))
 rcases hq:dU nd.es te with _|_
 refine ak [0,0,0,7,15,31,63] [[],[3],[1],[0,2]] [[],[],[],[4,5]] [[],[],[],[0]] [.k 95 (vp b),.c 96 (.agg #[vi pos,vi nd.lv,vi nd.right,.string nd.high,.bool nd.dead,.slice EA43_48 nd.es.length ec43_48,vi ((nd.free:Int))]),.c 97 (.agg #[.string te,vi 0,vi tk,vi tl]),.a 98,.a 6,.k 7 (.bool false),.k 8 (vi 0)] (fun ix i d X=>match ix with|0|1|2=>True|3=>i 98= .slice (sA (d 98)) 1 (sC (d 98))/\X 4=eB b 123 #[vi root,vi root,vi ((if tl=0 then pos else leaf)),.slice ((if lc=1 then some la else (some la).map (·.add (1*4)))) ((ln-1)) ((lc-1)),vi 0,vi 0,.bool false]/\X 5=eO 67 3 (.slice (sA (d 98)) 1 (sC (d 98))) 1 ([(pos,(nd.free:Int),itB nd.lv tk te)].flatMap edC)|4=>i 6= .slice (sA (d 98)) 1 (sC (d 98))|_=>True) [1,2,3,4,5] [1,2,3,4] [(6,4,3,9),(86,0,4,90)] c8 ?_ ?_ ?_
 exact fun ix _ _ _ _ _ _ hs hb hx h=>match ix,h with
 |3,h=>by dsimp only;rw[<-hs 98 rfl,<-hb 98 rfl,<-hx 4 rfl,<-hx 5 rfl];exact h
 |4,h=>by dsimp only;rw[<-hs 6 rfl,<-hb 98 rfl];exact h
 |0,_|1,_|2,_|_+5,_=>trivial
 refine⟨?_,?_,?_,?_,trivial⟩
 exact xs4 rfl id fun cx=>aV (n:=7) rfl (by kernel_rfl) (by kernel_rfl) (cx.ou 10) (cx.bi 3 rfl) (nle rfl) rfl
 exact xs4 rfl id fun cx=>aV (n:=4) rfl (by kernel_rfl) (by kernel_rfl) (cx.ou 9) (cx.bi 1 rfl) (nle rfl) rfl
 refine svA fun j d W X cx=>?_
 refine aC.call (aB (args:=#[vp b,.agg #[vi pos,vi nd.lv,vi nd.right,.string nd.high,.bool nd.dead,.slice EA43_48 nd.es.length ec43_48,vi ((nd.free:Int))],.agg #[.string te,vi 0,vi tk,vi tl]]) rfl cx.sees rfl (by kernel_rfl) (dH (cx.an 0) (cx.an 1) (cx.an 2))) ?_
 refine(vj _ _ _ _ _ _ _ _ _ _ nd pos _ _ te 0 tk tl false _ (cx.bi 0 rfl) (CtxV.keepAt cx (cx.init 2 _ rfl) (cx.init 0 _ rfl) rfl rfl (by decide)) (by omega) (by omega) (by omega) (by omega) hq).mono ?_
 rintro e W1 ⟨A4,c4,rfl,aM⟩
 refine⟨_,rfl,bJ (E:=eB b 123 #[vi root,vi pos,vi leaf,.slice ((some la)) ln lc,vi 0,vi 0,.bool false]) [eB b 123 #[vi root,vi root,vi ((if tl=0 then pos else leaf)),.slice ((if lc=1 then some la else (some la).map (·.add (1*4)))) ((ln-1)) ((lc-1)),vi 0,vi 0,.bool false],eO 67 3 (.slice A4 1 c4) 1 ([(pos,(nd.free:Int),itB nd.lv tk te)].flatMap edC)] (cx.init 0 _ rfl) rfl rfl aM (fun i l X' hs hb hv hN=>?_)⟩
 have aW:=(hv 98 rfl).1;have aG:=(hv 98 rfl).2
 exact⟨aW.trans (by rw[aG];rfl),(List.cons.inj hN).1,(by rw[aG];exact(List.cons.inj (List.cons.inj hN).2).1)⟩
 exact sv rfl rfl rfl rfl rfl _ (fun _ _ _ h=>h) (fun d l h=>by rw[h 98 (by decide)]) fun j d W X cx=>bt rfl (dTn (cx.an 3)).1
 intro i d X M5 hD mJ fr ag
 simp only[exq 4 ((dTn (hD 3 lq)).2.1),exq 5 ((dTn (hD 3 lq)).2.2)] at mJ
 simp only[ed 98 ((dTn (hD 3 lq)).1),ed 6 ((dTn (hD 4 lq)))] at ag
 generalize sA (d 98)=Hd,sC (d 98)=He at mJ ag
 clear hD;subst ag;clear i d X
 refine aa (wp_ret (aq (af ?_)))
 refine bpr (.tuple #[.slice Hd 1 He,.bool false,vi 0]) (b9 Tryz.results21 rpt rpt rpt) ?_
 rw[nY hnd nD (by omega) (by omega) hq hn8]
 have hup_:=mJ.upd
 have hpk_:=mJ.pick [3,4] (by decide) rfl
 have hl1_:ln-1=lf.length:=by omega
 have hlv_:nd.lv=tl:=by omega
 rw[hl1_,hlv_] at hpk_
 exact⟨_,_,rfl,k6 hpk_ hfp hbg hlt (by show lf.length<=lc-1;omega) (At.dropF (ts:=(te,tl,tk)::lf) pQ (hL _ hup_) 1 lc hlc) (fun ad e _=>by rw[uC e];exact hla)⟩
 refine ak [0,0,0,7,15,31,63] [[],[3],[1],[0,2]] [[],[],[],[4,5]] [[],[],[],[0]] [.k 95 (vp b),.c 96 (.agg #[vi pos,vi nd.lv,vi nd.right,.string nd.high,.bool nd.dead,.slice EA43_48 nd.es.length ec43_48,vi ((nd.free:Int))]),.c 97 (.agg #[.string te,vi 0,vi tk,vi tl]),.a 98,.a 6,.k 7 (.bool false),.k 8 (vi 0)] (fun ix i d X=>match ix with|0|1|2=>True|3=>i 98= .slice (sA (d 98)) 0 (sC (d 98))/\X 4=eB b 123 #[vi root,vi root,vi ((if tl=0 then pos else leaf)),.slice ((if lc=1 then some la else (some la).map (·.add (1*4)))) ((ln-1)) ((lc-1)),vi 0,vi 0,.bool false]/\X 5=eO 67 3 (.slice (sA (d 98)) 0 (sC (d 98))) 0 (([]:List EdT).flatMap edC)|4=>i 6= .slice (sA (d 98)) 0 (sC (d 98))|_=>True) [1,2,3,4,5] [1,2,3,4] [(6,4,3,9),(86,0,4,90)] c8 ?_ ?_ ?_
 exact fun ix _ _ _ _ _ _ hs hb hx h=>match ix,h with
 |3,h=>by dsimp only;rw[<-hs 98 rfl,<-hb 98 rfl,<-hx 4 rfl,<-hx 5 rfl];exact h
 |4,h=>by dsimp only;rw[<-hs 6 rfl,<-hb 98 rfl];exact h
 |0,_|1,_|2,_|_+5,_=>trivial
 refine⟨?_,?_,?_,?_,trivial⟩
 exact xs4 rfl id fun cx=>aV (n:=7) rfl (by kernel_rfl) (by kernel_rfl) (cx.ou 10) (cx.bi 3 rfl) (nle rfl) rfl
 exact xs4 rfl id fun cx=>aV (n:=4) rfl (by kernel_rfl) (by kernel_rfl) (cx.ou 9) (cx.bi 1 rfl) (nle rfl) rfl
 refine svA fun j d W X cx=>?_
 refine aC.call (aB (args:=#[vp b,.agg #[vi pos,vi nd.lv,vi nd.right,.string nd.high,.bool nd.dead,.slice EA43_48 nd.es.length ec43_48,vi ((nd.free:Int))],.agg #[.string te,vi 0,vi tk,vi tl]]) rfl cx.sees rfl (by kernel_rfl) (dH (cx.an 0) (cx.an 1) (cx.an 2))) ?_
 refine(vj _ _ _ _ _ _ _ _ _ _ nd pos _ _ te 0 tk tl true _ (cx.bi 0 rfl) (CtxV.keepAt cx (cx.init 2 _ rfl) (cx.init 0 _ rfl) rfl rfl (by decide)) (by omega) (by omega) (by omega) (by omega) hq).mono ?_
 rintro e W1 ⟨A4,c4,rfl,aM⟩
 refine⟨_,rfl,bJ (E:=eB b 123 #[vi root,vi pos,vi leaf,.slice ((some la)) ln lc,vi 0,vi 0,.bool false]) [eB b 123 #[vi root,vi root,vi ((if tl=0 then pos else leaf)),.slice ((if lc=1 then some la else (some la).map (·.add (1*4)))) ((ln-1)) ((lc-1)),vi 0,vi 0,.bool false],eO 67 3 (.slice A4 0 c4) 0 (([]:List EdT).flatMap edC)] (cx.init 0 _ rfl) rfl rfl aM (fun i l X' hs hb hv hN=>?_)⟩
 have aW:=(hv 98 rfl).1;have aG:=(hv 98 rfl).2
 exact⟨aW.trans (by rw[aG];rfl),(List.cons.inj hN).1,(by rw[aG];exact(List.cons.inj (List.cons.inj hN).2).1)⟩
 exact sv rfl rfl rfl rfl rfl _ (fun _ _ _ h=>h) (fun d l h=>by rw[h 98 (by decide)]) fun j d W X cx=>bt rfl (dTn (cx.an 3)).1
 intro i d X M6 hD mK fr ag
 simp only[exq 4 ((dTn (hD 3 lq)).2.1),exq 5 ((dTn (hD 3 lq)).2.2)] at mK
 simp only[ed 98 ((dTn (hD 3 lq)).1),ed 6 ((dTn (hD 4 lq)))] at ag
 generalize sA (d 98)=Hf,sC (d 98)=Hg at mK ag
 clear hD;subst ag;clear i d X
 refine aa (wp_ret (aq (af ?_)))
 refine bpr (.tuple #[.slice Hf 0 Hg,.bool false,vi 0]) (b9 Tryz.results21 rpt rpt rpt) ?_
 rw[kS hnd nD (by omega) (by omega) hq]
 have hup_:=mK.upd
 have hpk_:=mK.pick [3,4] (by decide) rfl
 have hl1_:ln-1=lf.length:=by omega
 have hlv_:nd.lv=tl:=by omega
 rw[hl1_] at hpk_
 exact⟨_,_,rfl,k6 hpk_ hfp hbg hlt (by show lf.length<=lc-1;omega) (At.dropF (ts:=(te,tl,tk)::lf) pQ (hL _ hup_) 1 lc hlc) (fun ad e _=>by rw[uC e];exact hla)⟩
end
section
open Go.RowKit
structure WkT where
 pos:Int
 st:Int
 fm:ByteArray
 fin:Bool
inductive WkR where
 |off
 |on
 |at (n:NoD)
def wkN(ps:List PgS)(w:WkT):WkT×WkR:=
 if w.fin=true\/1000<=w.st+1 then (⟨w.pos,w.st+1,w.fm,true⟩,.off) else match av ps w.pos with
 |none=>(⟨w.pos,w.st+1,w.fm,true⟩,.off)
 |some n=>if da n.dead n.high w.fm=true then (⟨n.right,w.st+1,w.fm,decide (n.right<0)⟩,if n.right<0 then .off else .on)
  else if 0<n.lv then (⟨cm w.fm n.es (-1),w.st+1,w.fm,false⟩,.on) else (⟨w.pos,w.st+1,w.fm,false⟩,.at n)
def wkC(w:WkT):Array Value:=#[.int .i64 w.pos,.int .i64 w.st,.string w.fm,.bool w.fin]
def mw(b:Nat)(pos:Int)(r:WkT×WkR)(w:World)(e:Ending)(w':World):Prop:=match r.2 with
 | .off=>e= .returned (.tuple #[kn0 0,.bool false,.bool false])/\St w [b] [eB b 81 (wkC r.1)] w'
 | .on=>e= .returned (.tuple #[kn0 0,.bool false,.bool true])/\St w [b] [eB b 81 (wkC r.1)] w'
 | .at n=>∃EA ec,e= .returned (.tuple #[knV pos n EA ec,.bool true,.bool true])/\St w [b] [eB b 81 (wkC r.1),eO 89 3 (.slice EA n.es.length ec) n.es.length (n.es.flatMap enC)] w'
section
variable{ps:List PgS}{pos st:Int}{fm:ByteArray}{fin:Bool}{nd:NoD}
theorem jX(h:fin=true\/1000<=st+1):wkN ps ⟨pos,st,fm,fin⟩=(⟨pos,st+1,fm,true⟩,.off):=if_pos h
theorem jx(h:av ps pos=none):wkN ps ⟨pos,st,fm,fin⟩=(⟨pos,st+1,fm,true⟩,.off):=by
 by_cases h0:fin=true\/1000<=st+1
 exact jX h0
 rw[wkN,if_neg h0];dsimp only;rw[h]
theorem fO(h0:¬(fin=true\/1000<=st+1))(h:av ps pos=some nd):wkN ps ⟨pos,st,fm,fin⟩=if da nd.dead nd.high fm=true then (⟨nd.right,st+1,fm,decide (nd.right<0)⟩,if nd.right<0 then .off else .on) else if 0<nd.lv then (⟨cm fm nd.es (-1),st+1,fm,false⟩,.on) else (⟨pos,st+1,fm,false⟩,.at nd):=by
 rw[wkN,if_neg h0];dsimp only;rw[h]
end
theorem iR(b:Nat)(tt:TypeId)(tv:Value)(pos st:Int)(fm:ByteArray)(fin:Bool)(ps:List PgS)(w:World)(hb:Blk w b 81 #[.int .i64 pos,.int .i64 st,.string fm,.bool fin])(hS:∀W,Upd [b] w W->PgsOk W tt tv ps)(hok:OkS ps)(hoc:OkC ps)(aP:0<=st/\st<=100000)(hfm:fm.size<=900000):
  Calls Tryz.prog 31 #[.pointer (some ⟨b,0,none⟩),.iface tt (tv)] w (mw b pos (wkN ps ⟨pos,st,fm,fin⟩) w):=by
 have st0:=St.lend (E:=eB b 81 #[.int .i64 pos,.int .i64 st,.string fm,.bool fin]) hb (eH _ _ _) (fun k hk=>by simp[eB] at hk;subst hk;exact hb.lt)
 go_enter Tryz.func31,Tryz.ntmps31
 have ar:=st0
 refine wp_seq (sqr (bF #[vi 0,vi 0,vi 0,.string ByteArray.empty,.bool false,.slice none 0 0,vi 0] ar fun bx W1 aE=>?_))
 refine sqp [.k 5 (.bool false),.k 6 (.bool false)] ?_
 refine aa (wp_seq (wp_seq (sqr (sqp [.m 8 0] ?_))))
 refine sqv (.bool false) aE (by
   exact sv0 rfl rfl rfl rfl rfl (fun _ _ _ h=>h) fun g d W X cx=>by
    have ke:g (.tmp 8)=vp b:=(cx.ou 8)
    simp[go_sem,cx.sees.const,ke]) fun W5 bw=>?_
 refine aa (wcf rfl (wp_skip (aa (wp_seq (sqr (sqp [.m 11 0,.k 12 (vp b),.k 13 (.pointer (some ⟨b,1,none⟩))] ?_))))))
 refine am 0 bw ?_
 refine sqp [sI 15 (st+1) (by omega),.k 16 (vp b),.k 17 (.pointer (some ⟨b,1,none⟩))] ?_
 refine aD (n:=1) 0 #[vi pos,vi (st+1),.string fm,.bool fin] bw fun lk bH=>?_
 refine aa (wp_seq ?_)
 rcases hnd:av ps pos with _|nd
 refine ak [0,0,2,6,14,31,63,127,127,255,1023] [[],[],[],[],[0],[],[],[],[],[1]] [[],[],[],[],[],[],[],[],[],[2]] [[],[],[],[],[],[],[],[],[],[1]] [.k 19 (.iface tt (tv)),.k 20 (vp b),.k 21 (vp b),.k 22 (vp b),.c 23 (vi pos),.a 24,.a 18,.a 25,.c 26 (.bool false),.n,.k 7 (.bool false)] (fun ix f d X=>match ix with|0|1|2|3|4=>True|5=>f 24= .tuple #[.agg #[vi (iv (tg (tg (d 24) 0) 0)),vi 0,vi 0,.string ((⟨#[]⟩:ByteArray)),.bool false,.slice none 0 0,vi 0],.bool false]|6=>f 18= .tuple #[.agg #[vi (iv (tg (tg (d 24) 0) 0)),vi 0,vi 0,.string ((⟨#[]⟩:ByteArray)),.bool false,.slice none 0 0,vi 0],.bool false]|7=>f 25= .agg #[vi (iv (tg (tg (d 24) 0) 0)),vi 0,vi 0,.string ((⟨#[]⟩:ByteArray)),.bool false,.slice none 0 0,vi 0]|8=>True|9=>X 2=eB bx 84 #[vi (iv (tg (tg (d 24) 0) 0)),vi 0,vi 0,.string ((⟨#[]⟩:ByteArray)),.bool false,.slice none 0 0,vi 0]|_=>True) [0,2] [4,5,6,7,8,9] [(7,10,1,8),(10,6,1,11),(0,0,6,6),(0,7,2,2)] bH ?_ ?_ ?_
 exact fun ix _ _ _ _ _ _ hs hb hx h=>match ix,h with
 |5,h=>by dsimp only;rw[<-hs 24 rfl,<-hb 24 rfl];exact h
 |6,h=>by dsimp only;rw[<-hs 18 rfl,<-hb 24 rfl];exact h
 |7,h=>by dsimp only;rw[<-hs 25 rfl,<-hb 24 rfl];exact h
 |9,h=>by dsimp only;rw[<-hb 24 rfl,<-hx 2 rfl];exact h
 |0,_|1,_|2,_|3,_|4,_|8,_|_+10,_=>trivial
 refine⟨?_,?_,?_,?_,?_,?_,trivial⟩
 exact xs4 rfl id fun cx=>ae rfl (by kernel_rfl) (cx.an 3) ((cx.bi 0 rfl).cell 0)
 refine svA fun g d W X cx=>?_
 refine aC.call (aB (args:=#[.iface tt (tv),vi pos]) rfl cx.sees rfl (by kernel_rfl) (aI (cx.an 0) (cx.an 4))) ?_
 refine(uV hnd (js _ _ ps pos _ (hS _ cx.upd) hok hoc)).mono ?_
 rintro e W1 ⟨p4,rfl,hx⟩
 refine⟨_,rfl,d3 [] rfl rfl hx (by simp) List.Pairwise.nil (fun f i X' hs hb hv hN=>?_)⟩
 have aW:=(hv 24 rfl).1;have aG:=(hv 24 rfl).2
 exact aW.trans (by rw[aG];rfl)
 exact sv rfl rfl rfl rfl rfl _ (fun _ _ _ h=>h) (fun d i h=>by rw[h 24 (by decide)]) fun g d W X cx=>cL rfl (dTn (cx.an 5))
 exact sv rfl rfl rfl rfl rfl _ (fun _ _ _ h=>h) (fun d i h=>by rw[h 24 (by decide)]) fun g d W X cx=>aU rfl (dTn (cx.an 6)) rfl
 exact xs4 rfl id fun cx=>aU rfl (dTn (cx.an 6)) rfl
 refine svA fun g d W X cx=>?_
 exact aw (n:=7) rfl (cx.ou 4) (dTn (cx.an 7)) (by kernel_rfl) (by kernel_rfl) (by kernel_rfl) cx (cx.init 1 _ rfl) rfl (nle rfl) (by kernel_rfl) rfl rfl rfl (fun f i X' hs hb hx=>by rw[hb 24];exact hx)
 intro f d X kb hD bm fr ag
 simp only[exq 2 ((dTn (hD 9 lq)))] at bm
 simp only[ed 24 ((dTn (hD 5 lq))),ed 18 ((dTn (hD 6 lq))),ed 25 ((dTn (hD 7 lq)))] at ag
 generalize iv (tg (tg (d 24) 0) 0)=pg24_14 at bm ag
 clear hD;subst ag;clear f d X
 refine aa (wp_seq (wp_seq (sqr (sqp [.m 27 0,.k 28 (vp b),.k 29 (.pointer (some ⟨b,3,none⟩))] ?_))))
 refine am 0 bm ?_
 refine sqp [.m 31 30] ?_
 refine sqw 31 [32,33] rfl (fun _=>sqp [.k 32 (.bool false),.k 33 (.bool true)] sqe) ?_
 have hd23:(fin||true)=true:=(Bool.or_true _)
 refine sqp [zh 34 fin true true hd23,.k 35 (.bool true)] ?_
 refine tm 35 [36,37,38,39,40] rfl rfl ?_
 refine sqp [.k 41 (.bool true)] ?_
 refine aa (wct rfl (wp_seq (sqr (sqp [.m 42 0,.k 43 (vp b),.k 44 (.pointer (some ⟨b,3,none⟩))] ?_))))
 refine aD (n:=1) 0 #[vi pos,vi (st+1),.string fm,.bool true] bm fun Ci dO=>?_
 refine aa (wp_seq (sqr (sqp [.k 45 (.agg #[vi 0,vi 0,vi 0,.string ByteArray.empty,.bool false,.slice none 0 0,vi 0])] ?_)))
 refine aD (n:=7) 1 #[vi 0,vi 0,vi 0,.string ByteArray.empty,.bool false,.slice none 0 0,vi 0] dO fun Fi gJ=>?_
 refine sqp [.k 5 (.bool false),.k 6 (.bool false)] ?_
 refine aa (wp_ret (af ?_))
 refine bpr (.tuple #[.agg #[vi 0,vi 0,vi 0,.string ByteArray.empty,.bool false,.slice none 0 0,vi 0],.bool false,.bool false]) (b9 Tryz.results31 (rpa (gJ.blk 1 rfl) 0 7) rpt rpt) ?_
 rw[jx hnd]
 exact⟨rfl,gJ.pick [0] (by decide) rfl⟩
 ·have hN0:=cO hok hnd
  have hN:NdQ nd:=⟨hN0.lv,fun e he=>Nat.le_trans (hN0.es e he) (by decide)⟩
  have hN1:=hN0.len
  have hN2:=hN0.rt
  have hN3:=hN0.hi
  have hN4:=hN0.lv
  have hN5:=hN0.fr
  have hN7:=hN0.es
  refine sqr (sqp [.m 19 1,.m 20 0,.k 21 (vp b),.k 22 (vp b)] ?_)
  refine am 0 bH ?_
  refine ff (fun EA24_39 ec24_39=> .tuple #[.agg #[vi pos,vi nd.lv,vi nd.right,.string nd.high,.bool nd.dead,.slice EA24_39 nd.es.length ec24_39,vi ((nd.free:Int))],.bool true]) (fun EA24_39 ec24_39=>eO 89 3 (.slice EA24_39 nd.es.length ec24_39) nd.es.length (nd.es.flatMap enC)) bH (fun cx=>⟨_,(rY hnd (js _ _ ps pos _ (hS _ cx.upd) hok hoc)).mono (by rintro e W1 ⟨EA4,ec4,rfl,aM⟩;exact⟨_,_,rfl,aM⟩),(aI (cx.ou 19) (cx.ou 23))⟩) fun EA24_39 ec24_39 qk c7=>?_
  refine sqp [.m 18 24,.k 25 (.agg #[vi pos,vi nd.lv,vi nd.right,.string nd.high,.bool nd.dead,.slice EA24_39 nd.es.length ec24_39,vi ((nd.free:Int))]),.k 26 (.bool true)] ?_
  refine aD (n:=7) 1 #[vi pos,vi nd.lv,vi nd.right,.string nd.high,.bool nd.dead,.slice EA24_39 nd.es.length ec24_39,vi ((nd.free:Int))] c7 fun Jg em=>?_
  refine sqp [.k 7 (.bool true)] ?_
  refine aa (wp_seq (wp_seq (sqr (sqp [.m 27 0,.k 28 (vp b),.k 29 (.pointer (some ⟨b,3,none⟩))] ?_))))
  refine am 0 em ?_
  refine sqp [.m 31 30] ?_
  refine sqw 31 [32,33] rfl (fun _=>sqp [.k 32 (.bool true),.k 33 (.bool false)] sqe) ?_
  refine sqp [sPo 34 fin false,.m 35 34] ?_
  refine cv 35 [36,37,38,39,40] ?_ rfl (fun hq=>?_) ?_
  rotate_left
  refine sqp [.m 36 0,.k 37 (vp b),.k 38 (.pointer (some ⟨b,1,none⟩))] ?_
  refine am 0 em ?_
  refine sqp [.k 40 (.bool (decide (1000<=st+1)))] ?_
  exact sqe
  refine bQ ?_
  refine sqp [sPo 41 (fin||false) (decide (1000<=st+1))] ?_
  refine aa (wbs (fun fk=>?_) fun fk=>?_)
  have jc:=fk
  simp only[zB] at jc
  refine wp_seq (sqr (sqp [.m 42 0,.k 43 (vp b),.k 44 (.pointer (some ⟨b,3,none⟩))] ?_))
  refine aD (n:=1) 0 #[vi pos,vi (st+1),.string fm,.bool true] em fun IY c8=>?_
  refine aa (wp_seq (sqr (sqp [.k 45 (.agg #[vi 0,vi 0,vi 0,.string ByteArray.empty,.bool false,.slice none 0 0,vi 0])] ?_)))
  refine aD (n:=7) 1 #[vi 0,vi 0,vi 0,.string ByteArray.empty,.bool false,.slice none 0 0,vi 0] c8 fun IB e5=>?_
  refine sqp [.k 5 (.bool false),.k 6 (.bool false)] ?_
  refine aa (wp_ret (af ?_))
  refine bpr (.tuple #[.agg #[vi 0,vi 0,vi 0,.string ByteArray.empty,.bool false,.slice none 0 0,vi 0],.bool false,.bool false]) (b9 Tryz.results31 (rpa (e5.blk 1 rfl) 0 7) rpt rpt) ?_
  rw[jX (by have h_:=fk;simpa using h_)]
  exact⟨rfl,e5.pick [0] (by decide) rfl⟩
  have jc:=fk
  simp only[zB] at jc
  obtain⟨⟨sT,JD⟩,JE⟩:=jc
  refine wp_skip (aa (wp_seq (wp_block (wp_seq (br [0,0,2,6,14,31,63] [[1],[],[],[],[0]] [.c 47 (.agg #[vi pos,vi nd.lv,vi nd.right,.string nd.high,.bool nd.dead,.slice EA24_39 nd.es.length ec24_39,vi ((nd.free:Int))]),.k 48 (vp b),.k 49 (vp b),.k 50 (.pointer (some ⟨b,2,none⟩)),.c 51 (.string fm),.c 52 (.bool (da nd.dead nd.high fm)),.k 46 (.bool (da nd.dead nd.high fm))] [0,1,2] [0,4,5] [(46,6,1,47),(0,0,6,6)] em ?_ fun OE nF=>?_)))))
  refine⟨?_,?_,?_,trivial⟩
  exact xs4 rfl id fun cx=>aV (n:=7) rfl (by kernel_rfl) (by kernel_rfl) (cx.ou 4) (cx.bi 1 rfl) (nle rfl) rfl
  exact xs4 rfl id fun cx=>ae rfl (by kernel_rfl) (cx.an 3) ((cx.bi 0 rfl).cell 2)
  exact xsc rfl id rfl rfl fun cx=>⟨_,sj pos nd.lv nd.right (nd.free:Int) nd.high nd.dead _ _ _ fm _ (by omega) (by omega),(aI (cx.an 0) (cx.an 4))⟩
  refine aa (wbs (fun gw=>?_) fun gw=>?_)
  refine wp_seq (ak [0,0,0,4,0,16,48,13,141,397,1023,2047,4095] [[],[],[],[1],[],[1],[],[],[],[0],[],[],[3]] [[],[],[],[],[],[],[],[],[],[3],[],[],[4]] [[],[],[],[],[],[],[],[],[],[0],[],[],[3]] [.k 53 (vp b),.k 54 (vp b),.k 55 (.pointer (some ⟨bx,2,none⟩)),.c 56 (vi nd.right),.k 57 (.pointer (some ⟨bx,2,none⟩)),.c 58 (vi nd.right),.k 59 (.bool (decide (nd.right<0))),.k 60 (vp b),.k 61 (vp b),.n,.k 62 (vp b),.k 63 (.pointer (some ⟨b,3,none⟩)),.n] (fun ix f d X=>match ix with|0|1|2|3|4|5|6|7|8=>True|9=>X 3=eB b 81 #[vi nd.right,vi (st+1),.string fm,.bool fin]|10|11=>True|12=>X 4=eB b 81 #[vi nd.right,vi (st+1),.string fm,.bool (decide (nd.right<0))]|_=>True) [1,2,4] [3,5,9,12] [(53,0,12,64)] nF ?_ ?_ ?_)
  exact fun ix _ _ _ _ _ _ hs hb hx h=>match ix,h with
  |9,h=>by dsimp only;rw[<-hx 3 rfl];exact h
  |12,h=>by dsimp only;rw[<-hx 4 rfl];exact h
  |0,_|1,_|2,_|3,_|4,_|5,_|6,_|7,_|8,_|10,_|11,_|_+13,_=>trivial
  refine⟨?_,?_,?_,?_,trivial⟩
  exact xs4 rfl id fun cx=>ae rfl (by kernel_rfl) (cx.an 2) ((cx.bi 1 rfl).cell 2)
  exact xs4 rfl id fun cx=>ae rfl (by kernel_rfl) (cx.an 4) ((cx.bi 1 rfl).cell 2)
  refine svA fun g d W X cx=>?_
  exact aw (n:=1) rfl (cx.an 8) (cx.an 3) (by kernel_rfl) (by kernel_rfl) (by kernel_rfl) cx (cx.init 0 _ rfl) rfl (nle rfl) (by kernel_rfl) rfl rfl rfl (fun _ _ _ _ _=>id)
  refine svA fun g d W X cx=>?_
  exact aw (n:=1) rfl (cx.an 11) (cx.an 6) (by kernel_rfl) (by kernel_rfl) (by kernel_rfl) cx (dTn (cx.an 9)) rfl (nle rfl) (by kernel_rfl) rfl rfl rfl (fun _ _ _ _ _=>id)
  intro f d X LO hD pS fr ag
  simp only[exq 4 ((dTn (hD 12 lq)))] at pS
  clear hD;subst ag;clear f d X
  refine aa (wp_seq (ak [0,0,2,6,14,30,1,65,255] [[],[],[],[],[2],[],[0]] [[],[],[],[],[],[],[3]] [[],[],[],[],[],[],[0]] [.k 64 (.agg #[vi 0,vi 0,vi 0,.string ByteArray.empty,.bool false,.slice none 0 0,vi 0]),.k 65 (vp b),.k 66 (vp b),.k 67 (.pointer (some ⟨b,3,none⟩)),.c 68 (.bool (decide (nd.right<0))),.k 69 (.bool (!(decide (nd.right<0)))),.n,.k 5 (.bool false),.k 6 (.bool (!(decide (nd.right<0))))] (fun ix f d X=>match ix with|0|1|2|3|4|5=>True|6=>X 3=eB bx 84 #[vi 0,vi 0,vi 0,.string ByteArray.empty,.bool false,.slice none 0 0,vi 0]|_=>True) [1,2,3] [4,6] [(5,7,2,7),(57,0,6,63)] pS ?_ ?_ ?_))
  exact fun ix _ _ _ _ _ _ hs hb hx h=>match ix,h with
  |6,h=>by dsimp only;rw[<-hx 3 rfl];exact h
  |0,_|1,_|2,_|3,_|4,_|5,_|_+7,_=>trivial
  refine⟨?_,?_,trivial⟩
  exact xs4 rfl id fun cx=>ae rfl (by kernel_rfl) (cx.an 3) ((cx.bi 2 rfl).cell 3)
  refine svA fun g d W X cx=>?_
  exact aw (n:=7) rfl (cx.ou 4) (cx.an 0) (by kernel_rfl) (by kernel_rfl) (by kernel_rfl) cx (cx.init 0 _ rfl) rfl (nle rfl) (by kernel_rfl) rfl rfl rfl (fun _ _ _ _ _=>id)
  intro f d X LW hD lZ fr ag
  simp only[exq 3 ((dTn (hD 6 lq)))] at lZ
  clear hD;subst ag;clear f d X
  refine aa (wp_ret (aq (af ?_)))
  refine bpr (.tuple #[.agg #[vi 0,vi 0,vi 0,.string ByteArray.empty,.bool false,.slice none 0 0,vi 0],.bool false,.bool (!(decide (nd.right<0)))]) (b9 Tryz.results31 (rpa (lZ.blk 2 rfl) 0 7) rpt rpt) ?_
  subst sT
  rw[fO (by have h_:=fk;simpa using h_) hnd,if_pos gw]
  by_cases hrl:nd.right<0
  rw[if_pos hrl];exact⟨by rw[decide_eq_true hrl];rfl,lZ.pick [1] (by decide) rfl⟩
  rw[if_neg hrl];exact⟨by rw[decide_eq_false hrl];rfl,lZ.pick [1] (by decide) rfl⟩
  refine wp_seq (sqr (sqp [.k 71 (.pointer (some ⟨bx,1,none⟩))] ?_))
  refine am 1 nF ?_
  refine sqp [.k 73 (.bool (decide (0<nd.lv))),.m 70 73] ?_
  refine aa (wds (fun Ew Li=>?_) fun Ew Li=>?_)
  refine wp_seq (ak [0,0,0,4,12,28,62,127,255,511] [[],[1],[],[],[],[0],[2],[],[],[0]] [[],[],[],[],[],[],[],[],[],[3]] [[],[],[],[],[],[],[],[],[],[0]] [.k 74 (vp b),.c 75 (.agg #[vi pos,vi nd.lv,vi nd.right,.string nd.high,.bool nd.dead,.slice EA24_39 nd.es.length ec24_39,vi ((nd.free:Int))]),.k 76 (vp b),.k 77 (vp b),.k 78 (.pointer (some ⟨b,2,none⟩)),.c 79 (.string fm),.c 80 (vi (cm fm nd.es (-1))),.k 81 (vp b),.k 82 (vp b),.n] (fun ix f d X=>match ix with|0|1|2|3|4|5|6|7|8=>True|9=>X 3=eB b 81 #[vi (cm fm nd.es (-1)),vi (st+1),.string fm,.bool fin]|_=>True) [1,2,3] [1,5,6,9] [(74,0,9,83)] nF ?_ ?_ ?_)
  exact fun ix _ _ _ _ _ _ hs hb hx h=>match ix,h with
  |9,h=>by dsimp only;rw[<-hx 3 rfl];exact h
  |0,_|1,_|2,_|3,_|4,_|5,_|6,_|7,_|8,_|_+10,_=>trivial
  refine⟨?_,?_,?_,?_,trivial⟩
  exact xs4 rfl id fun cx=>aV (n:=7) rfl (by kernel_rfl) (by kernel_rfl) (cx.ou 4) (cx.bi 1 rfl) (nle rfl) rfl
  exact xs4 rfl id fun cx=>ae rfl (by kernel_rfl) (cx.an 4) ((cx.bi 0 rfl).cell 2)
  exact xsc rfl id rfl rfl fun cx=>⟨_,uF _ _ _ _ _ _ _ _ _ _ nd.es _ (At.of_ownN (cx.ri 2 rfl)) rfl hN.es6 (by omega) (by omega),(aI (cx.an 1) (cx.an 5))⟩
  refine svA fun g d W X cx=>?_
  exact aw (n:=1) rfl (cx.an 8) (cx.an 6) (by kernel_rfl) (by kernel_rfl) (by kernel_rfl) cx (cx.init 0 _ rfl) rfl (nle rfl) (by kernel_rfl) rfl rfl rfl (fun _ _ _ _ _=>id)
  intro f d X E9 hD gF fr ag
  simp only[exq 3 ((dTn (hD 9 lq)))] at gF
  clear hD;subst ag;clear f d X
  refine aa (wp_seq (sqr (sqp [.k 83 (.agg #[vi 0,vi 0,vi 0,.string ByteArray.empty,.bool false,.slice none 0 0,vi 0])] ?_)))
  refine aD (n:=7) 0 #[vi 0,vi 0,vi 0,.string ByteArray.empty,.bool false,.slice none 0 0,vi 0] gF fun y5 dv=>?_
  refine sqp [.k 5 (.bool false),.k 6 (.bool true)] ?_
  refine aa (wp_ret (aq (af ?_)))
  refine bpr (.tuple #[.agg #[vi 0,vi 0,vi 0,.string ByteArray.empty,.bool false,.slice none 0 0,vi 0],.bool false,.bool true]) (b9 Tryz.results31 (rpa (dv.blk 0 rfl) 0 7) rpt rpt) ?_
  subst sT
  rw[fO (by have h_:=fk;simpa using h_) hnd,if_neg (by rw[gw];decide),if_pos (of_decide_eq_true Ew)]
  exact⟨rfl,dv.pick [2] (by decide) rfl⟩
  refine wp_skip (ax (aa (wp_seq (sqr ?_))))
  refine dz 1 7 nF ?_
  refine aD (n:=7) 1 #[vi pos,vi nd.lv,vi nd.right,.string nd.high,.bool nd.dead,.slice EA24_39 nd.es.length ec24_39,vi ((nd.free:Int))] nF fun LX pV=>?_
  refine sqp [.k 5 (.bool true),.k 6 (.bool true)] ?_
  refine aa (wp_ret ?_)
  refine bpr (.tuple #[.agg #[vi pos,vi nd.lv,vi nd.right,.string nd.high,.bool nd.dead,.slice EA24_39 nd.es.length ec24_39,vi ((nd.free:Int))],.bool true,.bool true]) (b9 Tryz.results31 (rpa (pV.blk 1 rfl) 0 7) rpt rpt) ?_
  subst sT
  rw[fO (by have h_:=fk;simpa using h_) hnd,if_neg (by rw[gw];decide),if_neg (of_decide_eq_false Ew)]
  exact⟨_,_,rfl,pV.pick [0,2] (by decide) rfl⟩
end
section
open Go.RowKit
def tqS(e:EnD):Value:= .string (qkF e.1)
def tqR(e:EnD):List Value:=[.int .i64 (opF e.1),.int .i64 (osF e.1)]
theorem kL(e:EnD):(tqR e).length=2:=rfl
theorem lJ{l:List EnD}{i:Nat}(h:i<l.length):l.take (i+1)=l.take i++[l.getD i en0]:=by
 rw[List.take_add_one,List.getD_eq_getElem?_getD,List.getElem?_eq_getElem h];rfl
theorem Tryz.infoTid:(Tryz.prog.info? 33).map (fun i=>(i.zero,i.size,i.bytes))=some (some (.agg #[.int .i64 0,.int .i64 0]),2,16):=by kernel_rfl
end
section
open Go.RowKit
def wkL(w:WkT)(n:NoD):WkT:=⟨n.right,w.st,if n.high.size=0 then w.fm else n.high,decide (n.right<0)⟩
def au(fm:ByteArray)(es:List EnD):List EnD:=es.filter fun e=>!al e.1 fm
theorem rn{fm:ByteArray}{l:List EnD}{i:Nat}(h:i<l.length):au fm (l.take (i+1))=au fm (l.take i)++(if al (l.getD i en0).1 fm then [] else [l.getD i en0]):=by
 rw[au,lJ h,List.filter_append]
 congr 1
 generalize l.getD i en0=x
 cases hq:al x.1 fm<;>simp[hq]
theorem uK{fm:ByteArray}{l:List EnD}{i:Nat}(h:i<l.length)(hq:al (l.getD i en0).1 fm=false):au fm (l.take (i+1))=au fm (l.take i)++[l.getD i en0]:=by rw[rn h,hq];rfl
theorem vf{fm:ByteArray}{l:List EnD}{i:Nat}(h:i<l.length)(hq:al (l.getD i en0).1 fm=true):au fm (l.take (i+1))=au fm (l.take i):=by rw[rn h,hq,if_pos rfl,List.append_nil]
theorem E0{b:Nat}{pos:Int}{R R':WkT×WkR}{f:FuncId}{args:Array Value}{w:World}(hR:R=R')(hc:Calls Tryz.prog f args w (mw b pos R w)):Calls Tryz.prog f args w (mw b pos R' w):=hR ▸ hc
theorem EN{ps:List PgS}{pos st:Int}{fm:ByteArray}{fin:Bool}{nd:NoD}{w1:WkT}(h:wkN ps ⟨pos,st,fm,fin⟩=(w1,.at nd)):av ps pos=some nd/\w1=⟨pos,st+1,fm,false⟩:=by
 by_cases h0:fin=true\/1000<=st+1
 rw[jX h0] at h;cases h
 rcases hn:av ps pos with _|n
 rw[jx hn] at h;cases h
 rw[fO h0 hn] at h
 split at h
 split at h<;>cases h
 split at h<;>cases h
 exact⟨rfl,rfl⟩
def rR(b:Nat)(pos:Int)(r:WkT×WkR)(w:World)(e:Ending)(w':World):Prop:=match r.2 with
 | .off=>e= .returned (.tuple #[.int .i64 (-1),.slice none 0 0,.slice none 0 0,.bool false])/\St w [b] [eB b 81 (wkC r.1)] w'
 | .on=>e= .returned (.tuple #[.int .i64 (-1),.slice none 0 0,.slice none 0 0,.bool true])/\St w [b] [eB b 81 (wkC r.1)] w'
 | .at n=>∃KA kc RA rc,e= .returned (.tuple #[.int .i64 pos,.slice KA (au r.1.fm n.es).length kc,.slice RA (au r.1.fm n.es).length rc,.bool true])/\
   St w [b] [eB b 81 (wkC (wkL r.1 n)),eO 9 1 (.slice KA (au r.1.fm n.es).length kc) (au r.1.fm n.es).length ((au r.1.fm n.es).map tqS),eO 33 2 (.slice RA (au r.1.fm n.es).length rc) (au r.1.fm n.es).length ((au r.1.fm n.es).flatMap tqR)] w'
def Hl(b:Nat)(w1:WkT)(mo:Bool)(w:World)(e:Ending)(w':World):Prop:=e= .returned (.tuple #[kn0 0,.bool false,.bool mo])/\St w [b] [eB b 81 (wkC w1)] w'
theorem KO{b:Nat}{pos:Int}{w1:WkT}{mo:Bool}{f:FuncId}{args:Array Value}{w:World}(hc:Calls Tryz.prog f args w (mw b pos (w1,bif mo then .on else .off) w)):Calls Tryz.prog f args w (Hl b w1 mo w):=by cases mo<;>exact hc
theorem BP(r:WkR):(∃mo,r=bif mo then .on else .off)\/∃n,r= .at n:=by
 rcases r with _|_|n
 exact .inl ⟨false,rfl⟩
 exact .inl ⟨true,rfl⟩
 exact .inr ⟨n,rfl⟩
theorem qu(T:List EnD)(x:EnD):T.map tqS++[.string (qkF x.1)]=(T++[x]).map tqS:=by rw[List.map_append];rfl
theorem qz(T:List EnD)(x:EnD):T.flatMap tqR++[.int .i64 (opF x.1),.int .i64 (osF x.1)]=(T++[x]).flatMap tqR:=by rw[List.flatMap_append];rfl
theorem rq(b:Nat)(tt:TypeId)(tv:Value)(pos st:Int)(fm:ByteArray)(fin:Bool)(ps:List PgS)(w:World)(hb:Blk w b 81 #[.int .i64 pos,.int .i64 st,.string fm,.bool fin])(hS:∀W,Upd [b] w W->PgsOk W tt tv ps)(hok:OkS ps)(hoc:OkC ps)(aP:0<=st/\st<=100000)(hfm:fm.size<=900000):
  Calls Tryz.prog 45 #[.pointer (some ⟨b,0,none⟩),.iface tt (tv)] w (rR b pos (wkN ps ⟨pos,st,fm,fin⟩) w):=by
 have st0:=St.lend (E:=eB b 81 #[.int .i64 pos,.int .i64 st,.string fm,.bool fin]) hb (eH _ _ _) (fun k hk=>by simp[eB] at hk;subst hk;exact hb.lt)
 go_enter Tryz.func45,Tryz.ntmps45
 have ar:=st0
 refine wp_seq (sqr (sqp [.k 4 (vi 0),.k 5 (.slice none 0 0),.k 6 (.slice none 0 0),.k 7 (.bool false)] ?_))
 refine aa (wp_seq ?_)
 rcases hR:wkN ps ⟨pos,st,fm,fin⟩ with ⟨w1,r1⟩
 rcases BP r1 with ⟨mo,rfl⟩|⟨nd,rfl⟩
 refine sqr (sqp [.m 16 0,.m 17 1] ?_)
 refine jh (.tuple #[.agg #[vi 0,vi 0,vi 0,.string ((⟨#[]⟩:ByteArray)),.bool false,.slice none 0 0,vi 0],.bool false,.bool mo]) (eB b 81 #[vi w1.pos,vi w1.st,.string w1.fm,.bool w1.fin]) 0 ar (by
   refine svA fun j d W X cx=>?_
   refine aC.call (aB (args:=#[vp b,.iface tt (tv)]) rfl cx.sees rfl (by kernel_rfl) (aI (cx.ou 16) (cx.ou 17))) ?_
   refine(KO (E0 hR (iR _ _ _ pos st fm fin ps _ (cx.bi 0 rfl) (fun W hW=>hS W (cx.upd.join hW (fun i hi=> .inl hi))) hok hoc aP hfm))).mono ?_
   rintro e W1 ⟨rfl,aM⟩
   refine⟨_,rfl,bJ (E:=eB b 81 #[vi pos,vi st,.string fm,.bool fin]) [eB b 81 #[vi w1.pos,vi w1.st,.string w1.fm,.bool w1.fin]] (cx.init 0 _ rfl) rfl rfl aM (fun g l X' hs hb hv hN=>?_)⟩
   have aW:=(hv 18 rfl).1;have aG:=(hv 18 rfl).2
   exact⟨aW.trans rfl,(List.cons.inj hN).1⟩) fun W7 bD=>?_
 refine sqp [.m 15 18,.k 19 (.agg #[vi 0,vi 0,vi 0,.string ((⟨#[]⟩:ByteArray)),.bool false,.slice none 0 0,vi 0]),.k 20 (.bool false),.k 21 (.bool mo)] ?_
 refine bF #[vi 0,vi 0,vi 0,.string ByteArray.empty,.bool false,.slice none 0 0,vi 0] bD fun PL mH bU=>?_
 refine aD (n:=7) 1 #[vi 0,vi 0,vi 0,.string ((⟨#[]⟩:ByteArray)),.bool false,.slice none 0 0,vi 0] bU fun lk bH=>?_
 refine sqp [.k 9 (.bool false),.m 7 21] ?_
 refine aa (wp_seq (wp_seq (sqr (sqp [.k 22 (.bool false),.k 23 (.bool true)] ?_))))
 refine aa (wct rfl (wp_seq (sqr (sqp [.m 24 7,.k 4 (vi (-1)),.k 5 (.slice none 0 0),.k 6 (.slice none 0 0),.m 7 24] ?_))))
 refine aa (wp_ret (af ?_))
 refine bpr (.tuple #[vi (-1),.slice none 0 0,.slice none 0 0,.bool mo]) (oA Tryz.results45 rpt rpt rpt rpt) ?_
 cases mo<;>exact⟨rfl,bH.pick [0] (by decide) rfl⟩
 obtain⟨hnd,rfl⟩:=EN hR
 have hN0:=cO hok hnd
 have hez:∀e∈nd.es,e.1.size<=1000000:=fun e he=>Nat.le_trans (hN0.es e he) (by decide)
 have hN1:=hN0.len
 have hN2:=hN0.rt
 have hN3:=hN0.hi
 refine ak [0,0,3,7,15,15,15,0,159,447,1023] [[],[],[0],[],[],[],[],[],[3]] [[],[],[1,2],[],[],[],[],[3],[4]] [[],[],[0],[],[],[],[],[],[3]] [.k 16 (vp b),.k 17 (.iface tt (tv)),.a 18,.a 15,.a 19,.c 20 (.bool true),.c 21 (.bool true),.a 8,.n,.k 9 (.bool true),.k 7 (.bool true)] (fun ix g d X=>match ix with|0|1=>True|2=>g 18= .tuple #[.agg #[vi pos,vi nd.lv,vi nd.right,.string nd.high,.bool nd.dead,.slice (sA (tg (tg (d 18) 0) 5)) nd.es.length (sC (tg (tg (d 18) 0) 5)),vi ((nd.free:Int))],.bool true,.bool true]/\X 1=eB b 81 #[vi pos,vi (st+1),.string fm,.bool false]/\X 2=eO 89 3 (.slice (sA (tg (tg (d 18) 0) 5)) nd.es.length (sC (tg (tg (d 18) 0) 5))) nd.es.length (nd.es.flatMap enC)|3=>g 15= .tuple #[.agg #[vi pos,vi nd.lv,vi nd.right,.string nd.high,.bool nd.dead,.slice (sA (tg (tg (d 18) 0) 5)) nd.es.length (sC (tg (tg (d 18) 0) 5)),vi ((nd.free:Int))],.bool true,.bool true]|4=>g 19= .agg #[vi pos,vi nd.lv,vi nd.right,.string nd.high,.bool nd.dead,.slice (sA (tg (tg (d 18) 0) 5)) nd.es.length (sC (tg (tg (d 18) 0) 5)),vi ((nd.free:Int))]|5|6=>True|7=>g 8=vp (pb (d 8))/\X 3=eB (pb (d 8)) 84 #[vi 0,vi 0,vi 0,.string ByteArray.empty,.bool false,.slice none 0 0,vi 0]|8=>X 4=eB (pb (d 8)) 84 #[vi pos,vi nd.lv,vi nd.right,.string nd.high,.bool nd.dead,.slice (sA (tg (tg (d 18) 0) 5)) nd.es.length (sC (tg (tg (d 18) 0) 5)),vi ((nd.free:Int))]|_=>True) [1,2,4] [2,3,4,5,6,7,8] [(7,10,1,8),(0,7,3,2),(5,3,1,6),(0,0,3,3),(0,4,3,3)] ar ?_ ?_ ?_
 exact fun ix _ _ _ _ _ _ hs hb hx h=>match ix,h with
 |2,h=>by dsimp only;rw[<-hs 18 rfl,<-hb 18 rfl,<-hx 1 rfl,<-hx 2 rfl];exact h
 |3,h=>by dsimp only;rw[<-hs 15 rfl,<-hb 18 rfl];exact h
 |4,h=>by dsimp only;rw[<-hs 19 rfl,<-hb 18 rfl];exact h
 |7,h=>by dsimp only;rw[<-hs 8 rfl,<-hb 8 rfl,<-hx 3 rfl];exact h
 |8,h=>by dsimp only;rw[<-hb 8 rfl,<-hb 18 rfl,<-hx 4 rfl];exact h
 |0,_|1,_|5,_|6,_|_+9,_=>trivial
 refine⟨?_,?_,?_,?_,?_,?_,?_,trivial⟩
 refine svA fun j d W X cx=>?_
 refine aC.call (aB (args:=#[vp b,.iface tt (tv)]) rfl cx.sees rfl (by kernel_rfl) (aI (cx.an 0) (cx.an 1))) ?_
 refine(E0 hR (iR _ _ _ pos st fm fin ps _ (cx.bi 0 rfl) (fun W hW=>hS W (cx.upd.join hW (fun i hi=> .inl hi))) hok hoc aP hfm)).mono ?_
 rintro e W1 ⟨EA4,ec4,rfl,aM⟩
 refine⟨_,rfl,bJ (E:=eB b 81 #[vi pos,vi st,.string fm,.bool fin]) [eB b 81 #[vi pos,vi (st+1),.string fm,.bool false],eO 89 3 (.slice EA4 nd.es.length ec4) nd.es.length (nd.es.flatMap enC)] (cx.init 0 _ rfl) rfl rfl aM (fun g l X' hs hb hv hN=>?_)⟩
 have aW:=(hv 18 rfl).1;have aG:=(hv 18 rfl).2
 exact⟨aW.trans (by rw[aG];rfl),(List.cons.inj hN).1,(by rw[aG];exact(List.cons.inj (List.cons.inj hN).2).1)⟩
 exact sv rfl rfl rfl rfl rfl _ (fun _ _ _ h=>h) (fun d l h=>by rw[h 18 (by decide)]) fun j d W X cx=>cL rfl (dTn (cx.an 2)).1
 exact sv rfl rfl rfl rfl rfl _ (fun _ _ _ h=>h) (fun d l h=>by rw[h 18 (by decide)]) fun j d W X cx=>aU rfl (dTn (cx.an 3)) rfl
 exact xs4 rfl id fun cx=>aU rfl (dTn (cx.an 3)) rfl
 exact xs4 rfl id fun cx=>aU rfl (dTn (cx.an 3)) rfl
 refine svA fun j d W X cx=>?_
 exact aX (cs:=#[vi 0,vi 0,vi 0,.string ByteArray.empty,.bool false,.slice none 0 0,vi 0]) rfl (by kernel_rfl) rfl rfl (fun _ _ _ _ _=> .intro)
 refine svA fun j d W X cx=>?_
 exact aw (n:=7) rfl (dTn (cx.an 7)).1 (dTn (cx.an 4)) (by kernel_rfl) (by kernel_rfl) (by kernel_rfl) cx (dTn (cx.an 7)).2 rfl (nle rfl) (by kernel_rfl) rfl rfl rfl (fun g l X' hs hb hx=>by rw[hb 8,hb 18];exact hx)
 intro g d X uL hD cE fr ag
 simp only[exq 1 ((dTn (hD 2 lq)).2.1),exq 2 ((dTn (hD 2 lq)).2.2),exq 4 ((dTn (hD 8 lq)))] at cE
 simp only[ed 18 ((dTn (hD 2 lq)).1),ed 15 ((dTn (hD 3 lq))),ed 19 ((dTn (hD 4 lq))),ed 8 ((dTn (hD 7 lq)).1)] at ag
 generalize sA (tg (tg (d 18) 0) 5)=EA18_23,sC (tg (tg (d 18) 0) 5)=ec18_23,pb (d 8)=jQ at cE ag
 clear hD;subst ag;clear g d X
 refine aa (wp_seq (wp_seq (sqr (sqp [.k 22 (.bool true),.k 23 (.bool false)] ?_))))
 refine aa (wcf rfl (wp_skip (aa (wp_seq (wp_seq (sqr (sqp [.k 25 (.pointer (some ⟨jQ,5,none⟩))] ?_)))))))
 refine am 2 cE ?_
 refine sqp [.k 27 (vi ((nd.es.length:Int))),.k 28 (vi 0)] ?_
 refine aa (wp_block ?_)
 have hn30:=St.nilrow cE 9
 simp only[List.cons_append,List.nil_append] at hn30
 have hn31:=bT hn30 33 2
 simp only[List.cons_append,List.nil_append] at hn31
 refine aL (fun t_ mz az W=>∃i:Nat,∃m:Nat,∃T:List EnD,∃KA:Option Addr,∃kc:Nat,∃RA:Option Addr,∃rc:Nat,i<=nd.es.length/\T=au fm (nd.es.take i)/\T.length=m/\m<=i/\mz=nd.es.length-i/\az=⟨(ovr (jv az) [(5,5,0,[.slice KA m kc,.slice RA m rc]),(4,11,4,[]),(13,28,0,[vi ((i:Int))]),(0,29,27,[])] t_).toArray,[]⟩/\St w [b] [eB b 81 #[vi pos,vi (st+1),.string fm,.bool false],eB jQ 84 #[vi pos,vi nd.lv,vi nd.right,.string nd.high,.bool nd.dead,.slice EA18_23 nd.es.length ec18_23,vi ((nd.free:Int))],eO 89 3 (.slice EA18_23 nd.es.length ec18_23) nd.es.length (nd.es.flatMap enC),eO 9 1 (.slice KA m kc) m (T.map tqS),eO 33 2 (.slice RA m rc) m (T.flatMap tqR)] W) (nd.es.length-0) ?_ ?_
 exact⟨0,0,[],none,0,none,0,Nat.zero_le _,rfl,rfl,Nat.le_refl _,rfl,(by kernel_rfl),hn31.pk [0,2,1,3,4]⟩
 rintro Rp a32 JB ⟨i,m,T,KA,kc,RA,rc,hi,hT,hTl,hmi,rfl,hj_,eo⟩
 refine ovz hj_ fun QJ=>?_
 refine wp_seq (sqr (sqp [.k 29 (.bool (decide ((i:Int)<(nd.es.length:Int))))] ?_))
 refine aa (wp_seq (wds (fun jF jd=>?_) fun jF jd=>?_))
 refine wp_skip (aa (wp_seq (wp_block (wp_seq (sqr ?_)))))
 refine sql (.pointer (some ((ad EA18_23).add (i*3)))) eo (fun cx=>aH (e:=89) (m:=i) (sz:=3) rfl (by kernel_rfl) (by kernel_rfl) (cx.ou 26) (cx.ou 28) (by omega) (by omega) (At.of_ownN (cx.ri 2 rfl)) (bq (sz:=3) aQ (by decide) (by omega))) ?_
 refine sql (.agg #[.string ((nd.es.getD i en0).1),vi (((nd.es.getD i en0).2.1:Int)),vi ((nd.es.getD i en0).2.2)]) eo (fun cx=>aZ (f:=enC) (m:=i) (sz:=3) (off:=0) (n:=3) rfl (by kernel_rfl) (by kernel_rfl) (cx.ou 30) rfl aQ (At.of_ownN (cx.ri 2 rfl)) (cR (by omega)) (fun k hk=>match k,hk with|0,_=>rfl|1,_=>rfl|2,_=>rfl|k+3,hk=>absurd hk (by omega))) ?_
 refine bF #[.string ByteArray.empty,vi 0,vi 0] eo fun CA IV hH=>?_
 refine aD (n:=3) 5 #[.string ((nd.es.getD i en0).1),vi (((nd.es.getD i en0).2.1:Int)),vi ((nd.es.getD i en0).2.2)] hH fun Jd ia=>?_
 refine aa (wp_seq (br [0,1,0,4,12,28,63,127] [[],[5],[],[],[],[0]] [.k 32 (vp CA),.c 33 (.string ((nd.es.getD i en0).1)),.k 34 (vp b),.k 35 (vp b),.k 36 (.pointer (some ⟨b,2,none⟩)),.c 37 (.string fm),.c 38 (.bool (al ((nd.es.getD i en0).1) fm)),.k 39 (.bool (!(al ((nd.es.getD i en0).1) fm)))] [0,1,2,3,4,5] [1,5,6] [(32,0,8,40)] ia ?_ fun qk c7=>?_))
 refine⟨?_,?_,?_,trivial⟩
 exact xs4 rfl id fun cx=>ae rfl (by kernel_rfl) (cx.an 0) ((cx.bi 5 rfl).cell 0)
 exact xs4 rfl id fun cx=>ae rfl (by kernel_rfl) (cx.an 4) ((cx.bi 0 rfl).cell 2)
 exact xsc rfl id rfl rfl fun cx=>⟨_,gh ((nd.es.getD i en0).1) fm _ (b7 hez _) (by omega),(aI (cx.an 1) (cx.an 5))⟩
 refine aa ?_
 rcases Bool.eq_false_or_eq_true (al ((nd.es.getD i en0).1) fm) with iw|iw
 refine wp_cond_false (show Act.eval _ _= .bool false from(congrArg Value.bool (by rw[iw];rfl))) (wp_skip (ax (aa (sqr (sqp [sI 55 ((i:Int)+1) (by omega),.m 28 55] ?_)))))
 refine aa ?_
 refine⟨nd.es.length-((i+1)),by omega,?_⟩
 exact⟨(i+1),m,T,KA,kc,RA,rc,by omega,by rw[vf (by omega) (by have h_:=iw;simpa using h_)];exact hT,hTl,by omega,rfl,(by kernel_rfl),c7.pk [0,1,2,3,4]⟩
 refine wp_cond_true (show Act.eval _ _= .bool true from(congrArg Value.bool (by rw[iw];rfl))) (wp_seq (sqr (sqp [.k 41 (vp CA)] ?_)))
 refine am 5 c7 ?_
 refine sqk (.tuple #[.string (qkF ((nd.es.getD i en0).1)),.agg #[vi (opF ((nd.es.getD i en0).1)),vi (osF ((nd.es.getD i en0).1))],.bool (decide (4<=((nd.es.getD i en0).1).size))]) c7 (fun cx=>⟨_,ol ((nd.es.getD i en0).1) _ (b7 hez _),(bp (cx.ou 42))⟩) fun E6 fU=>?_
 refine sqp [.m 40 43,.k 44 (.string (qkF ((nd.es.getD i en0).1))),.k 45 (.agg #[vi (opF ((nd.es.getD i en0).1)),vi (osF ((nd.es.getD i en0).1))]),.k 46 (.bool (decide (4<=((nd.es.getD i en0).1).size)))] ?_
 refine bF #[vi 0,vi 0] fU fun OF Je dI=>?_
 refine sqp [.m 12 44] ?_
 refine aD (n:=2) 6 #[vi (opF ((nd.es.getD i en0).1)),vi (osF ((nd.es.getD i en0).1))] dI fun IW lW=>?_
 refine sqp [.m 14 46] ?_
 refine aa (ak [0,0,2,7,0,0,32,127,255,511] [[],[],[],[7,3],[],[6],[],[9,4]] [[],[],[7],[8],[],[],[9],[10]] [[],[],[],[3],[],[],[],[4]] [.k 47 (.slice KA m kc),.k 48 (.string (qkF ((nd.es.getD i en0).1))),.a 49,.a 50,.k 51 (.slice RA m rc),.c 52 (.agg #[vi (opF ((nd.es.getD i en0).1)),vi (osF ((nd.es.getD i en0).1))]),.a 53,.a 54,.a 5,.a 6] (fun ix g d X=>match ix with|0|1=>True|2=>g 49= .slice (sA (d 49)) 1 1/\X 7=eO 9 1 (.slice (sA (d 49)) 1 1) 1 ([.string (qkF ((nd.es.getD i en0).1))])|3=>g 50= .slice (sA (d 50)) (m+1) (sC (d 50))/\X 8=eO 9 1 (.slice (sA (d 50)) (m+1) (sC (d 50))) (m+1) ((T++[(nd.es.getD i en0)]).map tqS)|4|5=>True|6=>g 53= .slice ((some ⟨(pb' (d 53)),0,none⟩)) 1 1/\X 9=eO 33 2 (.slice ((some ⟨(pb' (d 53)),0,none⟩)) 1 1) 1 ([vi (opF ((nd.es.getD i en0).1)),vi (osF ((nd.es.getD i en0).1))])|7=>g 54= .slice (sA (d 54)) (m+1) (sC (d 54))/\X 10=eO 33 2 (.slice (sA (d 54)) (m+1) (sC (d 54))) (m+1) ((T++[(nd.es.getD i en0)]).flatMap tqR)|8=>g 5= .slice (sA (d 50)) (m+1) (sC (d 50))|9=>g 6= .slice (sA (d 54)) (m+1) (sC (d 54))|_=>True) [0,1,2,5,6,7,8,9,10] [2,3,5,6,7,8,9] [(5,8,2,7),(40,0,8,48)] lW ?_ ?_ ?_)
 exact fun ix _ _ _ _ _ _ hs hb hx h=>match ix,h with
 |2,h=>by dsimp only;rw[<-hs 49 rfl,<-hb 49 rfl,<-hx 7 rfl];exact h
 |3,h=>by dsimp only;rw[<-hs 50 rfl,<-hb 50 rfl,<-hx 8 rfl];exact h
 |6,h=>by dsimp only;rw[<-hs 53 rfl,<-hb 53 rfl,<-hx 9 rfl];exact h
 |7,h=>by dsimp only;rw[<-hs 54 rfl,<-hb 54 rfl,<-hx 10 rfl];exact h
 |8,h=>by dsimp only;rw[<-hs 5 rfl,<-hb 50 rfl];exact h
 |9,h=>by dsimp only;rw[<-hs 6 rfl,<-hb 54 rfl];exact h
 |0,_|1,_|4,_|5,_|_+10,_=>trivial
 refine⟨?_,?_,?_,?_,?_,?_,?_,trivial⟩
 refine svA fun j d W X cx=>?_
 have M7:j (.tmp 48)= .string (qkF ((nd.es.getD i en0).1)):=(cx.an 1)
 exact bV (e:=9) (xs:=[.string (qkF ((nd.es.getD i en0).1))]) rfl (by simp[go_sem,M7]) rfl (by decide) rfl rfl (fun _ _ _ _ _=> .intro)
 refine svA fun j d W X cx=>?_
 obtain⟨i0,hi0,hz0,hz1,hz2⟩:=info_parts Tryz.infoStr
 refine cq (n:=m) (m:=1) (nm:=m+1) (xs:=T.map tqS) (news:=[.string (qkF ((nd.es.getD i en0).1))]) (xs':=(T++[(nd.es.getD i en0)]).map tqS) rfl (ty:=56) rfl (by kernel_rfl) hi0 hz0 hz1 hz2 rfl (cx.an 0) cx (cx.init 3 _ rfl) rfl (dTn (cx.an 2)).1 (by rfl) (At.of_own (cx.row (dTn (cx.an 2)).2 rfl)) (by simp[Value.oneCell']) (by simp only[maxLen];omega) (by omega) rfl rfl rfl (by omega) (qu _ _) (fun g l X' hs hb hv hx=>?_)
 exact⟨hv,hx⟩
 exact xs4 rfl id fun cx=>aV (n:=2) rfl (by kernel_rfl) (by kernel_rfl) (cx.ou 13) (cx.bi 6 rfl) (nle rfl) rfl
 refine svA fun j d W X cx=>?_
 have M8:j (.tmp 52)= .agg #[vi (opF ((nd.es.getD i en0).1)),vi (osF ((nd.es.getD i en0).1))]:=(cx.an 5)
 exact bS (e:=33) (sz:=2) (xs:=[vi (opF ((nd.es.getD i en0).1)),vi (osF ((nd.es.getD i en0).1))]) rfl (by simp[go_sem,M8]) rfl (by decide) rfl rfl (fun _ _ _ _ _=> .intro)
 refine svA fun j d W X cx=>?_
 obtain⟨i0,hi0,hz0,hz1,hz2⟩:=info_parts Tryz.infoTid
 refine bN (n:=m) (m:=1) (nm:=m+1) (sz:=2) (xs:=T.flatMap tqR) (news:=[vi (opF ((nd.es.getD i en0).1)),vi (osF ((nd.es.getD i en0).1))]) (xs':=(T++[(nd.es.getD i en0)]).flatMap tqR) rfl (ty:=57) rfl (by kernel_rfl) hi0 hz0 hz1 hz2 rfl (by decide) (cx.an 4) cx (cx.init 4 _ rfl) rfl (dTn (cx.an 6)).1 (by rfl) (At.of_ownN (cx.row (dTn (cx.an 6)).2 rfl)) (by simp[Value.oneCell']) (by simp only[maxLen];omega) (by omega) rfl rfl rfl (by omega) (qz _ _) (fun g l X' hs hb hv hx=>?_)
 exact⟨hv,hx⟩
 exact sv rfl rfl rfl rfl rfl _ (fun _ _ _ h=>h) (fun d l h=>by rw[h 50 (by decide)]) fun j d W X cx=>bt rfl (dTn (cx.an 3)).1
 exact sv rfl rfl rfl rfl rfl _ (fun _ _ _ h=>h) (fun d l h=>by rw[h 54 (by decide)]) fun j d W X cx=>bt rfl (dTn (cx.an 7)).1
 intro g d X JF hD fE fr ag
 simp only[exq 7 ((dTn (hD 2 lq)).2),exq 8 ((dTn (hD 3 lq)).2),exq 9 ((dTn (hD 6 lq)).2),exq 10 ((dTn (hD 7 lq)).2)] at fE
 simp only[ed 49 ((dTn (hD 2 lq)).1),ed 50 ((dTn (hD 3 lq)).1),ed 53 ((dTn (hD 6 lq)).1),ed 54 ((dTn (hD 7 lq)).1),ed 5 ((dTn (hD 8 lq))),ed 6 ((dTn (hD 9 lq)))] at ag
 generalize sA (d 49)=OG,sA (d 50)=JG,sC (d 50)=JH,pb' (d 53)=OH,sA (d 54)=JI,sC (d 54)=JJ at fE ag
 clear hD;subst ag;clear g d X
 refine ax (aa (sqr (sqp [sI 55 ((i:Int)+1) (by omega),.m 28 55] ?_)))
 refine aa ?_
 refine⟨nd.es.length-((i+1)),by omega,?_⟩
 exact⟨(i+1),(m+1),(T++[(nd.es.getD i en0)]),JG,JH,JI,JJ,by omega,by rw[uK (by omega) (by have h_:=iw;simpa using h_),hT],by rw[List.length_append,hTl];rfl,by omega,rfl,(by kernel_rfl),fE.pk [0,1,2,6,8]⟩
 refine wp_exit (aj (aj (aO (aa (wp_seq (wp_seq ?_))))))
 have hfin:T=au fm nd.es:=by rw[hT,List.take_of_length_le (by omega)]
 subst hTl
 refine sqr (sqp [.k 56 (.pointer (some ⟨jQ,3,none⟩))] ?_)
 refine am 1 eo ?_
 refine sqp [.k 58 (.bool (!(nd.high.toList==((⟨#[]⟩:ByteArray)).toList)))] ?_
 refine aa ?_
 rcases Bool.eq_false_or_eq_true (nd.high.toList==((⟨#[]⟩:ByteArray)).toList) with fk|fk
 refine wp_cond_false (show Act.eval _ _= .bool false from(congrArg Value.bool (by rw[fk];rfl))) (wp_skip (aa (wp_seq (ak [0,0,0,4,0,16,48,13,141,397,1023,2047,4095] [[],[],[],[1],[],[1],[],[],[],[0],[],[],[5]] [[],[],[],[],[],[],[],[],[],[5],[],[],[6]] [[],[],[],[],[],[],[],[],[],[0],[],[],[5]] [.k 64 (vp b),.k 65 (vp b),.k 66 (.pointer (some ⟨jQ,2,none⟩)),.c 67 (vi nd.right),.k 68 (.pointer (some ⟨jQ,2,none⟩)),.c 69 (vi nd.right),.k 70 (.bool (decide (nd.right<0))),.k 71 (vp b),.k 72 (vp b),.n,.k 73 (vp b),.k 74 (.pointer (some ⟨b,3,none⟩)),.n] (fun ix g d X=>match ix with|0|1|2|3|4|5|6|7|8=>True|9=>X 5=eB b 81 #[vi nd.right,vi (st+1),.string fm,.bool false]|10|11=>True|12=>X 6=eB b 81 #[vi nd.right,vi (st+1),.string fm,.bool (decide (nd.right<0))]|_=>True) [1,2,3,4,6] [3,5,9,12] [(64,0,12,75)] eo ?_ ?_ ?_))))
 exact fun ix _ _ _ _ _ _ hs hb hx h=>match ix,h with
 |9,h=>by dsimp only;rw[<-hx 5 rfl];exact h
 |12,h=>by dsimp only;rw[<-hx 6 rfl];exact h
 |0,_|1,_|2,_|3,_|4,_|5,_|6,_|7,_|8,_|10,_|11,_|_+13,_=>trivial
 refine⟨?_,?_,?_,?_,trivial⟩
 exact xs4 rfl id fun cx=>ae rfl (by kernel_rfl) (cx.an 2) ((cx.bi 1 rfl).cell 2)
 exact xs4 rfl id fun cx=>ae rfl (by kernel_rfl) (cx.an 4) ((cx.bi 1 rfl).cell 2)
 refine svA fun j d W X cx=>?_
 exact aw (n:=1) rfl (cx.an 8) (cx.an 3) (by kernel_rfl) (by kernel_rfl) (by kernel_rfl) cx (cx.init 0 _ rfl) rfl (nle rfl) (by kernel_rfl) rfl rfl rfl (fun _ _ _ _ _=>id)
 refine svA fun j d W X cx=>?_
 exact aw (n:=1) rfl (cx.an 11) (cx.an 6) (by kernel_rfl) (by kernel_rfl) (by kernel_rfl) cx (dTn (cx.an 9)) rfl (nle rfl) (by kernel_rfl) rfl rfl rfl (fun _ _ _ _ _=>id)
 intro g d X LQ hD lX fr ag
 simp only[exq 6 ((dTn (hD 12 lq)))] at lX
 clear hD;subst ag;clear g d X
 refine aa (wp_seq (sqr (sqp [.k 75 (vp jQ)] ?_)))
 refine am 0 lX ?_
 refine sqp [.m 77 5,.m 78 6,.m 4 76,.m 5 77,.m 6 78,.k 7 (.bool true)] ?_
 refine aa (wp_ret ?_)
 refine bpr (.tuple #[vi pos,.slice KA T.length kc,.slice RA T.length rc,.bool true]) (oA Tryz.results45 rpt rpt rpt rpt) ?_
 have hpk_:=lX.pick [4,2,3] (by decide) rfl
 have hsz_:nd.high.size=0:=by have h_:=fk;rw[eV] at h_;simpa using h_
 subst hfin
 exact⟨_,_,_,_,rfl,by rw[wkL];dsimp only;rw[if_pos hsz_];exact hpk_⟩
 refine wp_cond_true (show Act.eval _ _= .bool true from(congrArg Value.bool (by rw[fk];rfl))) (sqr (sqp [.m 59 0,.k 60 (.pointer (some ⟨jQ,3,none⟩))] ?_))
 refine am 1 eo ?_
 refine sqp [.k 62 (vp b),.k 63 (.pointer (some ⟨b,2,none⟩))] ?_
 refine aD (n:=1) 0 #[vi pos,vi (st+1),.string nd.high,.bool false] eo fun LY pW=>?_
 refine aa (wp_seq (ak [0,0,0,4,0,16,48,13,141,397,1023,2047,4095] [[],[],[],[1],[],[1],[],[],[],[0],[],[],[5]] [[],[],[],[],[],[],[],[],[],[5],[],[],[6]] [[],[],[],[],[],[],[],[],[],[0],[],[],[5]] [.k 64 (vp b),.k 65 (vp b),.k 66 (.pointer (some ⟨jQ,2,none⟩)),.c 67 (vi nd.right),.k 68 (.pointer (some ⟨jQ,2,none⟩)),.c 69 (vi nd.right),.k 70 (.bool (decide (nd.right<0))),.k 71 (vp b),.k 72 (vp b),.n,.k 73 (vp b),.k 74 (.pointer (some ⟨b,3,none⟩)),.n] (fun ix g d X=>match ix with|0|1|2|3|4|5|6|7|8=>True|9=>X 5=eB b 81 #[vi nd.right,vi (st+1),.string nd.high,.bool false]|10|11=>True|12=>X 6=eB b 81 #[vi nd.right,vi (st+1),.string nd.high,.bool (decide (nd.right<0))]|_=>True) [1,2,3,4,6] [3,5,9,12] [(64,0,12,75)] pW ?_ ?_ ?_))
 exact fun ix _ _ _ _ _ _ hs hb hx h=>match ix,h with
 |9,h=>by dsimp only;rw[<-hx 5 rfl];exact h
 |12,h=>by dsimp only;rw[<-hx 6 rfl];exact h
 |0,_|1,_|2,_|3,_|4,_|5,_|6,_|7,_|8,_|10,_|11,_|_+13,_=>trivial
 refine⟨?_,?_,?_,?_,trivial⟩
 exact xs4 rfl id fun cx=>ae rfl (by kernel_rfl) (cx.an 2) ((cx.bi 1 rfl).cell 2)
 exact xs4 rfl id fun cx=>ae rfl (by kernel_rfl) (cx.an 4) ((cx.bi 1 rfl).cell 2)
 refine svA fun j d W X cx=>?_
 exact aw (n:=1) rfl (cx.an 8) (cx.an 3) (by kernel_rfl) (by kernel_rfl) (by kernel_rfl) cx (cx.init 0 _ rfl) rfl (nle rfl) (by kernel_rfl) rfl rfl rfl (fun _ _ _ _ _=>id)
 refine svA fun j d W X cx=>?_
 exact aw (n:=1) rfl (cx.an 11) (cx.an 6) (by kernel_rfl) (by kernel_rfl) (by kernel_rfl) cx (dTn (cx.an 9)) rfl (nle rfl) (by kernel_rfl) rfl rfl rfl (fun _ _ _ _ _=>id)
 intro g d X y3 hD dN fr ag
 simp only[exq 6 ((dTn (hD 12 lq)))] at dN
 clear hD;subst ag;clear g d X
 refine aa (wp_seq (sqr (sqp [.k 75 (vp jQ)] ?_)))
 refine am 0 dN ?_
 refine sqp [.m 77 5,.m 78 6,.m 4 76,.m 5 77,.m 6 78,.k 7 (.bool true)] ?_
 refine aa (wp_ret ?_)
 refine bpr (.tuple #[vi pos,.slice KA T.length kc,.slice RA T.length rc,.bool true]) (oA Tryz.results45 rpt rpt rpt rpt) ?_
 have hpk_:=dN.pick [4,2,3] (by decide) rfl
 have hsz_:¬nd.high.size=0:=by have h_:=fk;rw[eV] at h_;simpa using h_
 subst hfin
 exact⟨_,_,_,_,rfl,by rw[wkL];dsimp only;rw[if_neg hsz_];exact hpk_⟩
end
section
open Go.RowKit
def rwN(ps:List PgS)(w:WkT):WkT×WkR:=
 if w.fin=true\/1000<=w.st+1 then (⟨w.pos,w.st+1,w.fm,true⟩,.off) else match av ps w.pos with
 |none=>(⟨w.pos,w.st+1,w.fm,true⟩,.off)
 |some n=>if da n.dead n.high w.fm=true then (if n.right<0 then (⟨w.pos,w.st+1,w.fm,true⟩,.off) else (⟨n.right,w.st+1,w.fm,false⟩,.on))
  else if 0<n.lv then (⟨cm w.fm n.es (-1),w.st+1,w.fm,false⟩,.on) else (⟨w.pos,w.st+1,w.fm,false⟩,.at n)
def rwL(w:WkT)(n:NoD):WkT:=⟨if n.right<0 then w.pos else n.right,w.st,if n.high.size=0 then w.fm else n.high,decide (n.right<0)⟩
def r8(b:Nat)(pos:Int)(r:WkT×WkR)(w:World)(e:Ending)(w':World):Prop:=match r.2 with
 | .off=>e= .returned (.agg #[.int .i64 (-1),.slice none 0 0,.slice none 0 0,.bool false,.bool false,.bool false,.int .i64 0,.int .i64 0,.string ByteArray.empty,.slice none 0 0,.slice none 0 0,.slice none 0 0,.bool false])/\St w [b] [eB b 157 (wkC r.1)] w'
 | .on=>e= .returned (.agg #[.int .i64 (-1),.slice none 0 0,.slice none 0 0,.bool true,.bool false,.bool false,.int .i64 0,.int .i64 0,.string ByteArray.empty,.slice none 0 0,.slice none 0 0,.slice none 0 0,.bool false])/\St w [b] [eB b 157 (wkC r.1)] w'
 | .at n=>∃KA kc RA rc EA ec SA sc DA dc,e= .returned (.agg #[.int .i64 pos,.slice KA (au r.1.fm n.es).length kc,.slice RA (au r.1.fm n.es).length rc,.bool true,
       .bool true,.bool n.dead,.int .i64 n.lv,.int .i64 n.right,.string n.high,.slice EA n.es.length ec,.slice SA n.es.length sc,.slice DA n.es.length dc,.bool true])/\
   St w [b] [eB b 157 (wkC (rwL r.1 n)),eO 9 1 (.slice KA (au r.1.fm n.es).length kc) (au r.1.fm n.es).length ((au r.1.fm n.es).map tqS),eO 33 2 (.slice RA (au r.1.fm n.es).length rc) (au r.1.fm n.es).length ((au r.1.fm n.es).flatMap tqR),
    eO 9 1 (.slice EA n.es.length ec) n.es.length (n.es.map stv),eO 3 1 (.slice SA n.es.length sc) n.es.length (n.es.map slv),eO 3 1 (.slice DA n.es.length dc) n.es.length (n.es.map kdv)] w'
section
variable{ps:List PgS}{pos st:Int}{fm:ByteArray}{fin:Bool}{nd:NoD}
theorem og(h:fin=true\/1000<=st+1):rwN ps ⟨pos,st,fm,fin⟩=(⟨pos,st+1,fm,true⟩,.off):=if_pos h
theorem pN(h:av ps pos=none):rwN ps ⟨pos,st,fm,fin⟩=(⟨pos,st+1,fm,true⟩,.off):=by
 by_cases h0:fin=true\/1000<=st+1
 exact og h0
 rw[rwN,if_neg h0];dsimp only;rw[h]
theorem iJ(h0:¬(fin=true\/1000<=st+1))(h:av ps pos=some nd):rwN ps ⟨pos,st,fm,fin⟩=if da nd.dead nd.high fm=true then (if nd.right<0 then (⟨pos,st+1,fm,true⟩,.off) else (⟨nd.right,st+1,fm,false⟩,.on)) else if 0<nd.lv then (⟨cm fm nd.es (-1),st+1,fm,false⟩,.on) else (⟨pos,st+1,fm,false⟩,.at nd):=by
 rw[rwN,if_neg h0];dsimp only;rw[h]
end
theorem iM(b bk:Nat)(pos st:Int)(fm:ByteArray)(fin:Bool)(ps:List PgS)(w:World)(hb:Blk w b 157 #[.int .i64 pos,.int .i64 st,.string fm,.bool fin])(hB:∀W,Upd [b] w W->fZ W bk ps)(hok:OkS ps)(aP:0<=st/\st<=100000)(hfm:fm.size<=900000):
  Calls Tryz.prog 37 #[.pointer (some ⟨b,0,none⟩),.pointer (some ⟨bk,0,none⟩)] w (r8 b pos (rwN ps ⟨pos,st,fm,fin⟩) w):=by
 have st0:=St.lend (E:=eB b 157 #[.int .i64 pos,.int .i64 st,.string fm,.bool fin]) hb (eH _ _ _) (fun k hk=>by simp[eB] at hk;subst hk;exact hb.lt)
 go_enter Tryz.func37,Tryz.ntmps37
 have ar:=st0
 refine wp_seq (sqr (bF #[vi 0,.slice none 0 0,.slice none 0 0,.bool false,.bool false,.bool false,vi 0,vi 0,.string ByteArray.empty,.slice none 0 0,.slice none 0 0,.slice none 0 0,.bool false] ar fun bx W1 aE=>?_))
 refine aa (wp_seq (sqr (sqp [.m 11 0,.m 12 0,.k 13 (vp b),.k 14 (.pointer (some ⟨b,1,none⟩))] ?_)))
 refine am 0 aE ?_
 refine sqp [sI 16 (st+1) (by omega),.k 17 (vp b),.k 18 (.pointer (some ⟨b,1,none⟩))] ?_
 refine aD (n:=1) 0 #[vi pos,vi (st+1),.string fm,.bool fin] aE fun so cF=>?_
 refine aa (wp_seq ?_)
 rcases hnd:av ps pos with _|nd
 ·refine sqr (sqp [.m 19 1,.m 20 0,.k 21 (vp b),.k 22 (vp b)] ?_)
  refine am 0 cF ?_
  refine sqk (.agg #[.bool false,.bool false,vi 0,vi 0,.string ((⟨#[]⟩:ByteArray)),.slice none 0 0,.slice none 0 0,.slice none 0 0]) cF (fun cx=>⟨_,rE hnd (dF bk ps pos _ (hB _ cx.upd) hok),(aI (cx.ou 19) (cx.ou 23))⟩) fun nS bM=>?_
  refine bF #[.bool false,.bool false,vi 0,vi 0,.string ByteArray.empty,.slice none 0 0,.slice none 0 0,.slice none 0 0] bM fun Lj su b6=>?_
  refine aD (n:=8) 2 #[.bool false,.bool false,vi 0,vi 0,.string ((⟨#[]⟩:ByteArray)),.slice none 0 0,.slice none 0 0,.slice none 0 0] b6 fun qi b5=>?_
  refine aa (wp_seq (wp_seq (sqr (sqp [.m 25 0,.k 26 (vp b),.k 27 (.pointer (some ⟨b,3,none⟩))] ?_))))
  refine am 0 b5 ?_
  refine sqp [.m 29 28] ?_
  refine cv 29 [30,31,32,33,34] ?_ rfl (fun hq=>?_) ?_
  rotate_left
  refine sqp [.m 30 0,.k 31 (vp b),.k 32 (.pointer (some ⟨b,1,none⟩))] ?_
  refine am 0 b5 ?_
  refine sqp [.k 34 (.bool (decide (1000<=st+1)))] ?_
  exact sqe
  refine bQ ?_
  refine sqp [sPo 35 fin (decide (1000<=st+1)),.m 36 35] ?_
  refine cv 36 [37,38,39] ?_ rfl (fun hq=>?_) ?_
  rotate_left
  refine sqp [.k 37 (vp Lj)] ?_
  refine am 2 b5 ?_
  refine sqp [.k 39 (.bool true)] ?_
  exact sqe
  refine bQ ?_
  have hd35:((fin||(decide (1000<=st+1)))||true)=true:=(Bool.or_true _)
  refine sqp [zh 40 (fin||(decide (1000<=st+1))) true true hd35] ?_
  refine aa (wct rfl (wp_seq (sqr (sqp [.m 41 0,.k 42 (vp b),.k 43 (.pointer (some ⟨b,3,none⟩))] ?_))))
  refine aD (n:=1) 0 #[vi pos,vi (st+1),.string fm,.bool true] b5 fun qk c7=>?_
  refine aa (wp_seq (sqr (sqp [.k 44 (.agg #[vi (-1),.slice none 0 0,.slice none 0 0,.bool false,.bool false,.bool false,vi 0,vi 0,.string ByteArray.empty,.slice none 0 0,.slice none 0 0,.slice none 0 0,.bool false])] ?_)))
  refine aD (n:=13) 1 #[vi (-1),.slice none 0 0,.slice none 0 0,.bool false,.bool false,.bool false,vi 0,vi 0,.string ByteArray.empty,.slice none 0 0,.slice none 0 0,.slice none 0 0,.bool false] c7 fun Ce cZ=>?_
  refine aa (wp_ret (af ?_))
  refine bpr (.agg #[vi (-1),.slice none 0 0,.slice none 0 0,.bool false,.bool false,.bool false,vi 0,vi 0,.string ByteArray.empty,.slice none 0 0,.slice none 0 0,.slice none 0 0,.bool false]) (aJ (n:=13) Tryz.results37 rfl (by kernel_rfl) (by kernel_rfl) (cZ.blk 1 rfl) rfl) ?_
  rw[pN hnd];exact⟨rfl,cZ.pick [0] (by decide) rfl⟩
 ·have hN0:=cO hok hnd
  have hez:∀e∈nd.es,e.1.size<=1000000:=fun e he=>Nat.le_trans (hN0.es e he) (by decide)
  have hN:NdQ nd:=⟨hN0.lv,fun e he=>Nat.le_trans (hN0.es e he) (by decide)⟩
  have hN1:=hN0.len
  have hN2:=hN0.rt
  have hN3:=hN0.hi
  have hN4:=hN0.lv
  refine ak [0,0,2,6,14,31,0,127] [[],[],[],[],[0],[],[],[5]] [[],[],[],[],[],[2,3,4],[5],[6]] [[],[],[],[],[],[],[],[5]] [.k 19 (vp bk),.k 20 (vp b),.k 21 (vp b),.k 22 (vp b),.c 23 (vi pos),.a 24,.a 5,.n] (fun ix f d X=>match ix with|0|1|2|3|4=>True|5=>f 24= .agg #[.bool true,.bool nd.dead,vi nd.lv,vi nd.right,.string nd.high,.slice (sA (tg (d 24) 5)) nd.es.length (sC (tg (d 24) 5)),.slice (sA (tg (d 24) 6)) nd.es.length (sC (tg (d 24) 6)),.slice (sA (tg (d 24) 7)) nd.es.length (sC (tg (d 24) 7))]/\X 2=eO 9 1 (.slice (sA (tg (d 24) 5)) nd.es.length (sC (tg (d 24) 5))) nd.es.length (nd.es.map stv)/\X 3=eO 3 1 (.slice (sA (tg (d 24) 6)) nd.es.length (sC (tg (d 24) 6))) nd.es.length (nd.es.map slv)/\X 4=eO 3 1 (.slice (sA (tg (d 24) 7)) nd.es.length (sC (tg (d 24) 7))) nd.es.length (nd.es.map kdv)|6=>f 5=vp (pb (d 5))/\X 5=eB (pb (d 5)) 95 #[.bool false,.bool false,vi 0,vi 0,.string ByteArray.empty,.slice none 0 0,.slice none 0 0,.slice none 0 0]|7=>X 6=eB (pb (d 5)) 95 #[.bool true,.bool nd.dead,vi nd.lv,vi nd.right,.string nd.high,.slice (sA (tg (d 24) 5)) nd.es.length (sC (tg (d 24) 5)),.slice (sA (tg (d 24) 6)) nd.es.length (sC (tg (d 24) 6)),.slice (sA (tg (d 24) 7)) nd.es.length (sC (tg (d 24) 7))]|_=>True) [0,1,2,3,4,6] [4,5,6,7] [(5,6,1,6),(13,0,6,19)] cF ?_ ?_ ?_
  exact fun ix _ _ _ _ _ _ hs hb hx h=>match ix,h with
  |5,h=>by dsimp only;rw[<-hs 24 rfl,<-hb 24 rfl,<-hx 2 rfl,<-hx 3 rfl,<-hx 4 rfl];exact h
  |6,h=>by dsimp only;rw[<-hs 5 rfl,<-hb 5 rfl,<-hx 5 rfl];exact h
  |7,h=>by dsimp only;rw[<-hb 5 rfl,<-hb 24 rfl,<-hx 6 rfl];exact h
  |0,_|1,_|2,_|3,_|4,_|_+8,_=>trivial
  refine⟨?_,?_,?_,?_,trivial⟩
  exact xs4 rfl id fun cx=>ae rfl (by kernel_rfl) (cx.an 3) ((cx.bi 0 rfl).cell 0)
  refine svA fun g d W X cx=>?_
  refine aC.call (aB (args:=#[vp bk,vi pos]) rfl cx.sees rfl (by kernel_rfl) (aI (cx.an 0) (cx.an 4))) ?_
  refine(fF hnd (dF bk ps pos _ (hB _ cx.upd) hok)).mono ?_
  rintro e W1 ⟨EA4,ec4,SA4,sc4,KA4,kc4,rfl,aM⟩
  refine⟨_,rfl,cl [eO 9 1 (.slice EA4 nd.es.length ec4) nd.es.length (nd.es.map stv),eO 3 1 (.slice SA4 nd.es.length sc4) nd.es.length (nd.es.map slv),eO 3 1 (.slice KA4 nd.es.length kc4) nd.es.length (nd.es.map kdv)] rfl rfl aM (fun f j X' hs hb hv hN=>?_)⟩
  have aW:=(hv 24 rfl).1;have aG:=(hv 24 rfl).2
  exact⟨aW.trans (by rw[aG];rfl),(by rw[aG];exact(List.cons.inj hN).1),(by rw[aG];exact(List.cons.inj (List.cons.inj hN).2).1),(by rw[aG];exact(List.cons.inj (List.cons.inj (List.cons.inj hN).2).2).1)⟩
  refine svA fun g d W X cx=>?_
  exact aX (cs:=#[.bool false,.bool false,vi 0,vi 0,.string ByteArray.empty,.slice none 0 0,.slice none 0 0,.slice none 0 0]) rfl (by kernel_rfl) rfl rfl (fun _ _ _ _ _=> .intro)
  refine svA fun g d W X cx=>?_
  exact aw (n:=8) rfl (dTn (cx.an 6)).1 (dTn (cx.an 5)).1 (by kernel_rfl) (by kernel_rfl) (by kernel_rfl) cx (dTn (cx.an 6)).2 rfl (nle rfl) (by kernel_rfl) rfl rfl rfl (fun f j X' hs hb hx=>by rw[hb 5,hb 24];exact hx)
  intro f d X y4 hD dl fr ag
  simp only[exq 2 ((dTn (hD 5 lq)).2.1),exq 3 ((dTn (hD 5 lq)).2.2.1),exq 4 ((dTn (hD 5 lq)).2.2.2),exq 6 ((dTn (hD 7 lq)))] at dl
  simp only[ed 24 ((dTn (hD 5 lq)).1),ed 5 ((dTn (hD 6 lq)).1)] at ag
  generalize sA (tg (d 24) 5)=EA24_42,sC (tg (d 24) 5)=cEA24_42,sA (tg (d 24) 6)=SA24_42,sC (tg (d 24) 6)=cSA24_42,sA (tg (d 24) 7)=KA24_42,sC (tg (d 24) 7)=cKA24_42,pb (d 5)=gK at dl ag
  clear hD;subst ag;clear f d X
  refine aa (wp_seq (wp_seq (sqr (sqp [.m 25 0,.k 26 (vp b),.k 27 (.pointer (some ⟨b,3,none⟩))] ?_))))
  refine am 0 dl ?_
  refine sqp [.m 29 28] ?_
  refine cv 29 [30,31,32,33,34] ?_ rfl (fun hq=>?_) ?_
  rotate_left
  refine sqp [.m 30 0,.k 31 (vp b),.k 32 (.pointer (some ⟨b,1,none⟩))] ?_
  refine am 0 dl ?_
  refine sqp [.k 34 (.bool (decide (1000<=st+1)))] ?_
  exact sqe
  refine bQ ?_
  refine sqp [sPo 35 fin (decide (1000<=st+1)),.m 36 35] ?_
  refine cv 36 [37,38,39] ?_ rfl (fun hq=>?_) ?_
  rotate_left
  refine sqp [.k 37 (vp gK)] ?_
  refine am 5 dl ?_
  refine sqp [.k 39 (.bool false)] ?_
  exact sqe
  refine bQ ?_
  refine sqp [sPo 40 (fin||(decide (1000<=st+1))) false] ?_
  refine aa (wbs (fun gV=>?_) fun gV=>?_)
  have i9:=gV
  simp only[zB] at i9
  refine wp_seq (sqr (sqp [.m 41 0,.k 42 (vp b),.k 43 (.pointer (some ⟨b,3,none⟩))] ?_))
  refine aD (n:=1) 0 #[vi pos,vi (st+1),.string fm,.bool true] dl fun JK je=>?_
  refine aa (wp_seq (sqr (sqp [.k 44 (.agg #[vi (-1),.slice none 0 0,.slice none 0 0,.bool false,.bool false,.bool false,vi 0,vi 0,.string ByteArray.empty,.slice none 0 0,.slice none 0 0,.slice none 0 0,.bool false])] ?_)))
  refine aD (n:=13) 1 #[vi (-1),.slice none 0 0,.slice none 0 0,.bool false,.bool false,.bool false,vi 0,vi 0,.string ByteArray.empty,.slice none 0 0,.slice none 0 0,.slice none 0 0,.bool false] je fun LR jO=>?_
  refine aa (wp_ret (af ?_))
  refine bpr (.agg #[vi (-1),.slice none 0 0,.slice none 0 0,.bool false,.bool false,.bool false,vi 0,vi 0,.string ByteArray.empty,.slice none 0 0,.slice none 0 0,.slice none 0 0,.bool false]) (aJ (n:=13) Tryz.results37 rfl (by kernel_rfl) (by kernel_rfl) (jO.blk 1 rfl) rfl) ?_
  rw[og (by have h_:=gV;simpa using h_)];exact⟨rfl,jO.pick [0] (by decide) rfl⟩
  have i9:=gV
  simp only[zB] at i9
  obtain⟨⟨mL,xA⟩,OI⟩:=i9
  refine wp_skip (aa (wp_seq (br [0,0,2,6,14,31,63] [[5],[],[],[],[0]] [.c 45 (.agg #[.bool true,.bool nd.dead,vi nd.lv,vi nd.right,.string nd.high,.slice EA24_42 nd.es.length cEA24_42,.slice SA24_42 nd.es.length cSA24_42,.slice KA24_42 nd.es.length cKA24_42]),.k 46 (vp b),.k 47 (vp b),.k 48 (.pointer (some ⟨b,2,none⟩)),.c 49 (.string fm),.c 50 (.bool (da nd.dead nd.high fm)),.k 6 (.bool (da nd.dead nd.high fm))] [0,1,2,3,4,5] [0,4,5] [(6,6,1,7),(38,0,6,44)] dl ?_ fun IB e5=>?_)))
  refine⟨?_,?_,?_,trivial⟩
  exact xs4 rfl id fun cx=>aV (n:=8) rfl (by kernel_rfl) (by kernel_rfl) (cx.ou 5) (cx.bi 5 rfl) (nle rfl) rfl
  exact xs4 rfl id fun cx=>ae rfl (by kernel_rfl) (cx.an 3) ((cx.bi 0 rfl).cell 2)
  exact xsc rfl id rfl rfl fun cx=>⟨_,si nd.lv nd.right nd.high true nd.dead _ _ _ _ _ _ _ _ _ fm _ (by omega) (by omega),(aI (cx.an 0) (cx.an 4))⟩
  refine aa (wp_seq (wp_seq (sqr (sqp [.m 51 6] ?_))))
  refine aa (wbs (fun iy=>?_) fun iy=>?_)
  refine wp_seq (wp_seq (sqr (sqp [.k 52 (.pointer (some ⟨gK,3,none⟩))] ?_)))
  refine am 5 e5 ?_
  refine sqp [.k 54 (.bool (decide (nd.right<0)))] ?_
  refine aa (wds (fun Ey Lk=>?_) fun Ey Lk=>?_)
  refine wp_seq (sqr (sqp [.m 55 0,.k 56 (vp b),.k 57 (.pointer (some ⟨b,3,none⟩))] ?_))
  refine aD (n:=1) 0 #[vi pos,vi (st+1),.string fm,.bool true] e5 fun y3 dN=>?_
  refine aa (wp_seq (sqr (sqp [.k 58 (.agg #[vi (-1),.slice none 0 0,.slice none 0 0,.bool false,.bool false,.bool false,vi 0,vi 0,.string ByteArray.empty,.slice none 0 0,.slice none 0 0,.slice none 0 0,.bool false])] ?_)))
  refine aD (n:=13) 1 #[vi (-1),.slice none 0 0,.slice none 0 0,.bool false,.bool false,.bool false,vi 0,vi 0,.string ByteArray.empty,.slice none 0 0,.slice none 0 0,.slice none 0 0,.bool false] dN fun E9 gF=>?_
  refine aa (wp_ret (af (af ?_)))
  refine bpr (.agg #[vi (-1),.slice none 0 0,.slice none 0 0,.bool false,.bool false,.bool false,vi 0,vi 0,.string ByteArray.empty,.slice none 0 0,.slice none 0 0,.slice none 0 0,.bool false]) (aJ (n:=13) Tryz.results37 rfl (by kernel_rfl) (by kernel_rfl) (gF.blk 1 rfl) rfl) ?_
  rw[iJ (by have h_:=gV;simpa using h_) hnd]
  subst mL
  rw[if_pos iy,if_pos (by have h_:=Ey;simpa using h_)]
  exact⟨rfl,gF.pick [0] (by decide) rfl⟩
  refine wp_skip (aa (wp_seq (sqr (sqp [.m 59 0,.k 60 (.pointer (some ⟨gK,3,none⟩))] ?_))))
  refine am 5 e5 ?_
  refine sqp [.k 62 (vp b),.k 63 (vp b)] ?_
  refine aD (n:=1) 0 #[vi nd.right,vi (st+1),.string fm,.bool fin] e5 fun LX pV=>?_
  refine aa (wp_seq (sqr (sqp [.k 64 (.agg #[vi (-1),.slice none 0 0,.slice none 0 0,.bool true,.bool false,.bool false,vi 0,vi 0,.string ByteArray.empty,.slice none 0 0,.slice none 0 0,.slice none 0 0,.bool false])] ?_)))
  refine aD (n:=13) 1 #[vi (-1),.slice none 0 0,.slice none 0 0,.bool true,.bool false,.bool false,vi 0,vi 0,.string ByteArray.empty,.slice none 0 0,.slice none 0 0,.slice none 0 0,.bool false] pV fun OJ u3=>?_
  refine aa (wp_ret (af ?_))
  refine bpr (.agg #[vi (-1),.slice none 0 0,.slice none 0 0,.bool true,.bool false,.bool false,vi 0,vi 0,.string ByteArray.empty,.slice none 0 0,.slice none 0 0,.slice none 0 0,.bool false]) (aJ (n:=13) Tryz.results37 rfl (by kernel_rfl) (by kernel_rfl) (u3.blk 1 rfl) rfl) ?_
  rw[iJ (by have h_:=gV;simpa using h_) hnd]
  subst mL
  rw[if_pos iy,if_neg (by have h_:=Ey;simpa using h_)]
  exact⟨rfl,u3.pick [0] (by decide) rfl⟩
  refine wp_skip (aa (wp_seq (wp_seq (sqr (sqp [.k 65 (.pointer (some ⟨gK,2,none⟩))] ?_)))))
  refine am 5 e5 ?_
  refine sqp [.k 67 (.bool (decide (0<nd.lv)))] ?_
  refine aa (wds (fun Aj Ll=>?_) fun Aj Ll=>?_)
  refine wp_seq (ak [0,0,0,4,12,28,62,127,255,511] [[],[5],[],[],[],[0],[2,4],[],[],[0]] [[],[],[],[],[],[],[],[],[],[6]] [[],[],[],[],[],[],[],[],[],[0]] [.k 68 (vp b),.c 69 (.agg #[.bool true,.bool nd.dead,vi nd.lv,vi nd.right,.string nd.high,.slice EA24_42 nd.es.length cEA24_42,.slice SA24_42 nd.es.length cSA24_42,.slice KA24_42 nd.es.length cKA24_42]),.k 70 (vp b),.k 71 (vp b),.k 72 (.pointer (some ⟨b,2,none⟩)),.c 73 (.string fm),.c 74 (vi (cm fm nd.es (-1))),.k 75 (vp b),.k 76 (vp b),.n] (fun ix f d X=>match ix with|0|1|2|3|4|5|6|7|8=>True|9=>X 6=eB b 157 #[vi (cm fm nd.es (-1)),vi (st+1),.string fm,.bool fin]|_=>True) [1,2,3,4,5,6] [1,5,6,9] [(68,0,9,77)] e5 ?_ ?_ ?_)
  exact fun ix _ _ _ _ _ _ hs hb hx h=>match ix,h with
  |9,h=>by dsimp only;rw[<-hx 6 rfl];exact h
  |0,_|1,_|2,_|3,_|4,_|5,_|6,_|7,_|8,_|_+10,_=>trivial
  refine⟨?_,?_,?_,?_,trivial⟩
  exact xs4 rfl id fun cx=>aV (n:=8) rfl (by kernel_rfl) (by kernel_rfl) (cx.ou 5) (cx.bi 5 rfl) (nle rfl) rfl
  exact xs4 rfl id fun cx=>ae rfl (by kernel_rfl) (cx.an 4) ((cx.bi 0 rfl).cell 2)
  exact xsc rfl id rfl rfl fun cx=>⟨_,uG _ _ _ _ _ _ _ _ _ _ _ _ nd.es.length _ nd.es _ (At.of_own (cx.ri 2 rfl)) (At.of_own (cx.ri 4 rfl)) rfl hN.es6 (by omega) (by omega),(aI (cx.an 1) (cx.an 5))⟩
  refine svA fun g d W X cx=>?_
  exact aw (n:=1) rfl (cx.an 8) (cx.an 6) (by kernel_rfl) (by kernel_rfl) (by kernel_rfl) cx (cx.init 0 _ rfl) rfl (nle rfl) (by kernel_rfl) rfl rfl rfl (fun _ _ _ _ _=>id)
  intro f d X OK hD pX fr ag
  simp only[exq 6 ((dTn (hD 9 lq)))] at pX
  clear hD;subst ag;clear f d X
  refine aa (wp_seq (sqr (sqp [.k 77 (.agg #[vi (-1),.slice none 0 0,.slice none 0 0,.bool true,.bool false,.bool false,vi 0,vi 0,.string ByteArray.empty,.slice none 0 0,.slice none 0 0,.slice none 0 0,.bool false])] ?_)))
  refine aD (n:=13) 0 #[vi (-1),.slice none 0 0,.slice none 0 0,.bool true,.bool false,.bool false,vi 0,vi 0,.string ByteArray.empty,.slice none 0 0,.slice none 0 0,.slice none 0 0,.bool false] pX fun OL pY=>?_
  refine aa (wp_ret (af ?_))
  refine bpr (.agg #[vi (-1),.slice none 0 0,.slice none 0 0,.bool true,.bool false,.bool false,vi 0,vi 0,.string ByteArray.empty,.slice none 0 0,.slice none 0 0,.slice none 0 0,.bool false]) (aJ (n:=13) Tryz.results37 rfl (by kernel_rfl) (by kernel_rfl) (pY.blk 0 rfl) rfl) ?_
  rw[iJ (by have h_:=gV;simpa using h_) hnd]
  subst mL
  rw[if_neg (by rw[iy];simp),if_pos (by have h_:=Aj;simpa using h_)]
  exact⟨rfl,pY.pick [5] (by decide) rfl⟩
  refine wp_skip (aa (wp_seq (ak [0,1,3,7,0,31,0,127] [[],[],[],[0],[5],[],[],[6]] [[],[],[],[],[],[],[6],[7]] [[],[],[],[],[],[],[],[6]] [.k 78 (vp b),.k 79 (vp b),.k 80 (vp b),.c 81 (vi pos),.c 82 (.agg #[.bool true,.bool nd.dead,vi nd.lv,vi nd.right,.string nd.high,.slice EA24_42 nd.es.length cEA24_42,.slice SA24_42 nd.es.length cSA24_42,.slice KA24_42 nd.es.length cKA24_42]),.k 83 (.agg #[vi pos,.slice none 0 0,.slice none 0 0,.bool true,.bool true,.bool nd.dead,vi nd.lv,vi nd.right,.string nd.high,.slice EA24_42 nd.es.length cEA24_42,.slice SA24_42 nd.es.length cSA24_42,.slice KA24_42 nd.es.length cKA24_42,.bool true]),.a 7,.n] (fun ix f d X=>match ix with|0|1|2|3|4|5=>True|6=>f 7=vp (pb (d 7))/\X 6=eB (pb (d 7)) 97 #[vi 0,.slice none 0 0,.slice none 0 0,.bool false,.bool false,.bool false,vi 0,vi 0,.string ByteArray.empty,.slice none 0 0,.slice none 0 0,.slice none 0 0,.bool false]|7=>X 7=eB (pb (d 7)) 97 #[vi pos,.slice none 0 0,.slice none 0 0,.bool true,.bool true,.bool nd.dead,vi nd.lv,vi nd.right,.string nd.high,.slice EA24_42 nd.es.length cEA24_42,.slice SA24_42 nd.es.length cSA24_42,.slice KA24_42 nd.es.length cKA24_42,.bool true]|_=>True) [0,1,2,3,4,5,7] [3,4,6,7] [(7,6,1,8),(70,0,6,76)] e5 ?_ ?_ ?_)))
  exact fun ix _ _ _ _ _ _ hs hb hx h=>match ix,h with
  |6,h=>by dsimp only;rw[<-hs 7 rfl,<-hb 7 rfl,<-hx 6 rfl];exact h
  |7,h=>by dsimp only;rw[<-hb 7 rfl,<-hx 7 rfl];exact h
  |0,_|1,_|2,_|3,_|4,_|5,_|_+8,_=>trivial
  refine⟨?_,?_,?_,?_,trivial⟩
  exact xs4 rfl id fun cx=>ae rfl (by kernel_rfl) (cx.an 2) ((cx.bi 0 rfl).cell 0)
  exact xs4 rfl id fun cx=>aV (n:=8) rfl (by kernel_rfl) (by kernel_rfl) (cx.ou 5) (cx.bi 5 rfl) (nle rfl) rfl
  refine svA fun g d W X cx=>?_
  exact aX (cs:=#[vi 0,.slice none 0 0,.slice none 0 0,.bool false,.bool false,.bool false,vi 0,vi 0,.string ByteArray.empty,.slice none 0 0,.slice none 0 0,.slice none 0 0,.bool false]) rfl (by kernel_rfl) rfl rfl (fun _ _ _ _ _=> .intro)
  refine svA fun g d W X cx=>?_
  exact aw (n:=13) rfl (dTn (cx.an 6)).1 (cx.an 5) (by kernel_rfl) (by kernel_rfl) (by kernel_rfl) cx (dTn (cx.an 6)).2 rfl (nle rfl) (by kernel_rfl) rfl rfl rfl (fun f j X' hs hb hx=>by rw[hb 7];exact hx)
  intro f d X E4 hD eN fr ag
  simp only[exq 7 ((dTn (hD 7 lq)))] at eN
  simp only[ed 7 ((dTn (hD 6 lq)).1)] at ag
  generalize pb (d 7)=pZ at eN ag
  clear hD;subst ag;clear f d X
  refine aa (wp_seq (wp_seq (sqr (sqp [.k 8 (vi 0)] ?_))))
  refine aa (wp_block ?_)
  have hn96:=St.nilrow eN 9
  simp only[List.cons_append,List.nil_append] at hn96
  have hn97:=bT hn96 33 2
  simp only[List.cons_append,List.nil_append] at hn97
  refine aL (fun t_ mz az W=>∃i:Nat,∃m:Nat,∃T:List EnD,∃KA:Option Addr,∃kc:Nat,∃RA:Option Addr,∃rc:Nat,i<=nd.es.length/\T=au fm (nd.es.take i)/\T.length=m/\m<=i/\mz=nd.es.length-i/\az=⟨(ovr (jv az) [(8,8,0,[vi ((i:Int))]),(0,9,2,[]),(73,84,39,[])] t_).toArray,[]⟩/\St w [b] [eB b 157 #[vi pos,vi (st+1),.string fm,.bool fin],eB bx 97 #[vi 0,.slice none 0 0,.slice none 0 0,.bool false,.bool false,.bool false,vi 0,vi 0,.string ByteArray.empty,.slice none 0 0,.slice none 0 0,.slice none 0 0,.bool false],eO 9 1 (.slice EA24_42 nd.es.length cEA24_42) nd.es.length (nd.es.map stv),eO 3 1 (.slice SA24_42 nd.es.length cSA24_42) nd.es.length (nd.es.map slv),eO 3 1 (.slice KA24_42 nd.es.length cKA24_42) nd.es.length (nd.es.map kdv),eB gK 95 #[.bool true,.bool nd.dead,vi nd.lv,vi nd.right,.string nd.high,.slice EA24_42 nd.es.length cEA24_42,.slice SA24_42 nd.es.length cSA24_42,.slice KA24_42 nd.es.length cKA24_42],eB pZ 97 #[vi pos,.slice KA m kc,.slice RA m rc,.bool true,.bool true,.bool nd.dead,vi nd.lv,vi nd.right,.string nd.high,.slice EA24_42 nd.es.length cEA24_42,.slice SA24_42 nd.es.length cSA24_42,.slice KA24_42 nd.es.length cKA24_42,.bool true],eO 9 1 (.slice KA m kc) m (T.map tqS),eO 33 2 (.slice RA m rc) m (T.flatMap tqR)] W) (nd.es.length-0) ?_ ?_
  exact⟨0,0,[],none,0,none,0,Nat.zero_le _,rfl,rfl,Nat.le_refl _,rfl,(by kernel_rfl),hn97.pk [0,1,2,3,4,5,6,7,8]⟩
  rintro Ov a98 LV ⟨i,m,T,KA,kc,RA,rc,hi,hT,hTl,hmi,rfl,hj_,dC⟩
  refine ovz hj_ fun MV=>?_
  refine wp_seq (wp_seq (sqr (sqp [.m 84 8,.k 85 (.pointer (some ⟨gK,5,none⟩))] ?_)))
  refine am 5 dC ?_
  refine sqp [.k 87 (vi ((nd.es.length:Int))),.k 88 (.bool (decide ((i:Int)<(nd.es.length:Int))))] ?_
  refine aa (wds (fun Ab xo=>?_) fun Ab xo=>?_)
  refine wp_skip (aa (wp_seq (wp_block (wp_seq (br [0,1,0,7,15,0,32,96,224,511,1023] [[],[5],[],[2],[2],[],[],[],[0]] [.k 91 (.pointer (some ⟨gK,5,none⟩)),.c 92 (.slice EA24_42 nd.es.length cEA24_42),.k 93 (vi ((i:Int))),.c 94 (.pointer (some ((ad EA24_42).add i))),.c 95 (.string ((nd.es.getD i en0).1)),.k 96 (vp b),.k 97 (vp b),.k 98 (.pointer (some ⟨b,2,none⟩)),.c 99 (.string fm),.c 100 (.bool (al ((nd.es.getD i en0).1) fm)),.k 9 (.bool (al ((nd.es.getD i en0).1) fm))] [0,1,2,3,4,5,6,7,8] [1,3,4,8,9] [(9,10,1,10),(81,0,10,91)] dC ?_ fun IC i7=>?_)))))
  refine⟨?_,?_,?_,?_,?_,trivial⟩
  exact xs4 rfl id fun cx=>ae rfl (by kernel_rfl) (cx.an 0) ((cx.bi 5 rfl).cell 5)
  exact xs4 rfl id fun cx=>ay (e:=9) (m:=i) rfl (by kernel_rfl) (by kernel_rfl) (cx.an 1) (cx.an 2) (by omega) (by omega) (At.of_own (cx.ri 2 rfl)) (by simp)
  exact xs4 rfl id fun cx=>ae rfl (by kernel_rfl) (cx.an 3) (At.cellAd (At.of_own (cx.ri 2 rfl)) (eD (by omega)))
  exact xs4 rfl id fun cx=>ae rfl (by kernel_rfl) (cx.an 7) ((cx.bi 0 rfl).cell 2)
  exact xsc rfl id rfl rfl fun cx=>⟨_,gr ((nd.es.getD i en0).1) fm _ (b7 hez _) (by omega),(aI (cx.an 4) (cx.an 8))⟩
  refine aa (wp_seq (sqr (sqp [.m 101 9,.k 102 (.bool (!(al ((nd.es.getD i en0).1) fm)))] ?_)))
  refine aa ?_
  rcases Bool.eq_false_or_eq_true (al ((nd.es.getD i en0).1) fm) with i8|i8
  refine wp_cond_false (show Act.eval _ _= .bool false from(congrArg Value.bool (by rw[i8];rfl))) (wp_skip (ax (aa (sqr (sqp [.m 89 8,sI 90 ((i:Int)+1) (by omega),.m 8 90] ?_)))))
  refine aa ?_
  refine⟨nd.es.length-((i+1)),by omega,?_⟩
  exact⟨(i+1),m,T,KA,kc,RA,rc,by omega,by rw[vf (by omega) (by have h_:=i8;simpa using h_)];exact hT,hTl,by omega,rfl,(by kernel_rfl),i7.pk [0,1,2,3,4,5,6,7,8]⟩
  refine wp_cond_true (show Act.eval _ _= .bool true from(congrArg Value.bool (by rw[i8];rfl))) (wp_seq (sqr (sqp [.k 103 (.pointer (some ⟨gK,5,none⟩))] ?_)))
  refine am 5 i7 ?_
  refine sqp [.m 105 8] ?_
  refine sql (.pointer (some ((ad EA24_42).add i))) i7 (fun cx=>ay (e:=9) (m:=i) rfl (by kernel_rfl) (by kernel_rfl) (cx.ou 104) (cx.ou 105) (by omega) (by omega) (At.of_own (cx.ri 2 rfl)) (by simp)) ?_
  refine sql (.string ((nd.es.getD i en0).1)) i7 (fun cx=>ae rfl (by kernel_rfl) (cx.ou 106) (At.cellAd (At.of_own (cx.ri 2 rfl)) (eD (by omega)))) ?_
  refine sqk (.agg #[.string (qkF ((nd.es.getD i en0).1)),vi (opF ((nd.es.getD i en0).1)),vi (osF ((nd.es.getD i en0).1)),.bool (decide (4<=((nd.es.getD i en0).1).size))]) i7 (fun cx=>⟨_,oD ((nd.es.getD i en0).1) _ (b7 hez _),(bp (cx.ou 107))⟩) fun MI sD=>?_
  refine bF #[.string ByteArray.empty,vi 0,vi 0,.bool false] sD fun y7 M9 xB=>?_
  refine aD (n:=4) 9 #[.string (qkF ((nd.es.getD i en0).1)),vi (opF ((nd.es.getD i en0).1)),vi (osF ((nd.es.getD i en0).1)),.bool (decide (4<=((nd.es.getD i en0).1).size))] xB fun MD mG=>?_
  refine aa (wp_seq (sqr (sqp [.k 109 (.pointer (some ⟨pZ,1,none⟩))] ?_)))
  refine am 6 mG ?_
  refine sqp [.k 111 (vp y7)] ?_
  refine am 9 mG ?_
  refine kW (fun x_=>sA x_) (fun nG=> .slice nG 1 1) (fun nG=>eO 9 1 (.slice nG 1 1) 1 ([.string (qkF ((nd.es.getD i en0).1))])) mG (by
    refine svA fun g d W X cx=>?_
    have Lm:g (.tmp 112)= .string (qkF ((nd.es.getD i en0).1)):=(cx.ou 112)
    exact bV (e:=9) (xs:=[.string (qkF ((nd.es.getD i en0).1))]) rfl (by simp[go_sem,Lm]) rfl (by decide) rfl rfl (fun _ _ _ _ _=> .intro)) fun nG M5 mJ=>?_
  refine zj (fun x_=>sA x_) (fun x_=>sC x_) (fun iz iA=> .slice iz (m+1) iA) (fun iz iA=>eO 9 1 (.slice iz (m+1) iA) (m+1) ((T++[(nd.es.getD i en0)]).map tqS)) 7 mJ (by
    refine svA fun g d W X cx=>?_
    obtain⟨i0,hi0,hz0,hz1,hz2⟩:=info_parts Tryz.infoStr
    refine cq (n:=m) (m:=1) (nm:=m+1) (xs:=T.map tqS) (news:=[.string (qkF ((nd.es.getD i en0).1))]) (xs':=(T++[(nd.es.getD i en0)]).map tqS) rfl (ty:=56) rfl (by kernel_rfl) hi0 hz0 hz1 hz2 rfl (cx.ou 110) cx (cx.init 7 _ rfl) rfl (cx.ou 113) (by rfl) (At.of_own (cx.ri 10 rfl)) (by simp[Value.oneCell']) (by simp only[maxLen];omega) (by omega) rfl rfl rfl (by omega) (qu _ _) (fun f j X' hs hb hv hx=>?_)
    exact⟨hv,hx⟩) fun iz iA M6 mK=>?_
  refine sqp [.k 115 (.pointer (some ⟨pZ,1,none⟩))] ?_
  refine aD (n:=1) 6 #[vi pos,.slice iz (m+1) iA,.slice RA m rc,.bool true,.bool true,.bool nd.dead,vi nd.lv,vi nd.right,.string nd.high,.slice EA24_42 nd.es.length cEA24_42,.slice SA24_42 nd.es.length cSA24_42,.slice KA24_42 nd.es.length cKA24_42,.bool true] mK fun QK xC=>?_
  refine aa (sqr (sqp [.k 116 (.pointer (some ⟨pZ,2,none⟩))] ?_))
  refine am 6 xC ?_
  refine sqp [.k 118 (.pointer (some ⟨y7,1,none⟩))] ?_
  refine dz 9 2 xC ?_
  refine ql 33 2 1 [vi (opF ((nd.es.getD i en0).1)),vi (osF ((nd.es.getD i en0).1))] xC (@fun g d W X cx=>by have Ln:g (.tmp 119)= .agg #[vi (opF ((nd.es.getD i en0).1)),vi (osF ((nd.es.getD i en0).1))]:=(cx.ou 119);simp[go_sem,Ln]) fun Na MW oV=>?_
  refine zG (m+1) ((T++[(nd.es.getD i en0)]).flatMap tqR) 8 oV Tryz.infoTid (fun cx=>(At.of_ownN (cx.ri 11 rfl))) (iL:=qz _ _) fun xD xE QL JL=>?_
  refine sqp [.k 122 (.pointer (some ⟨pZ,2,none⟩))] ?_
  refine aD (n:=1) 6 #[vi pos,.slice iz (m+1) iA,.slice xD (m+1) xE,.bool true,.bool true,.bool nd.dead,vi nd.lv,vi nd.right,.string nd.high,.slice EA24_42 nd.es.length cEA24_42,.slice SA24_42 nd.es.length cSA24_42,.slice KA24_42 nd.es.length cKA24_42,.bool true] JL fun QM JM=>?_
  refine ax (aa (sqr (sqp [.m 89 8,sI 90 ((i:Int)+1) (by omega),.m 8 90] ?_)))
  refine aa ?_
  refine⟨nd.es.length-((i+1)),by omega,?_⟩
  exact⟨(i+1),(m+1),(T++[(nd.es.getD i en0)]),iz,iA,xD,xE,by omega,by rw[uK (by omega) (by have h_:=i8;simpa using h_),hT],by rw[List.length_append,hTl];rfl,by omega,rfl,(by kernel_rfl),JM.pk [0,1,2,3,4,5,6,7,8]⟩
  refine wp_exit (aj (aj (aO (aa ?_))))
  have hfin:T=au fm nd.es:=by rw[hT,List.take_of_length_le (by omega)]
  subst hTl
  refine ju (fun t_ az W=>∃f2:ByteArray,(f2=if nd.high.size=0 then fm else nd.high)/\az=⟨(ovr (jv az) [(123,123,8,[])] t_).toArray,[]⟩/\St w [b] [eB b 157 #[vi pos,vi (st+1),.string f2,.bool fin],eB bx 97 #[vi 0,.slice none 0 0,.slice none 0 0,.bool false,.bool false,.bool false,vi 0,vi 0,.string ByteArray.empty,.slice none 0 0,.slice none 0 0,.slice none 0 0,.bool false],eO 9 1 (.slice EA24_42 nd.es.length cEA24_42) nd.es.length (nd.es.map stv),eO 3 1 (.slice SA24_42 nd.es.length cSA24_42) nd.es.length (nd.es.map slv),eO 3 1 (.slice KA24_42 nd.es.length cKA24_42) nd.es.length (nd.es.map kdv),eB gK 95 #[.bool true,.bool nd.dead,vi nd.lv,vi nd.right,.string nd.high,.slice EA24_42 nd.es.length cEA24_42,.slice SA24_42 nd.es.length cSA24_42,.slice KA24_42 nd.es.length cKA24_42],eB pZ 97 #[vi pos,.slice KA T.length kc,.slice RA T.length rc,.bool true,.bool true,.bool nd.dead,vi nd.lv,vi nd.right,.string nd.high,.slice EA24_42 nd.es.length cEA24_42,.slice SA24_42 nd.es.length cSA24_42,.slice KA24_42 nd.es.length cKA24_42,.bool true],eO 9 1 (.slice KA T.length kc) T.length (T.map tqS),eO 33 2 (.slice RA T.length rc) T.length (T.flatMap tqR)] W) ?_ ?_
  refine wp_seq (sqr (sqp [.k 123 (.pointer (some ⟨gK,4,none⟩))] ?_))
  refine am 5 dC ?_
  refine sqp [.k 125 (.bool (!(nd.high.toList==((⟨#[]⟩:ByteArray)).toList)))] ?_
  refine aa ?_
  rcases Bool.eq_false_or_eq_true (nd.high.toList==((⟨#[]⟩:ByteArray)).toList) with sU|sU
  refine wp_cond_false (show Act.eval _ _= .bool false from(congrArg Value.bool (by rw[sU];rfl))) (wp_skip (aa ?_))
  exact⟨fm,by have h_:=sU;rw[eV] at h_;rw[if_pos (by simpa using h_)],(by kernel_rfl),dC.pk [0,1,2,3,4,5,6,7,8]⟩
  refine wp_cond_true (show Act.eval _ _= .bool true from(congrArg Value.bool (by rw[sU];rfl))) (sqr (sqp [.m 126 0,.k 127 (.pointer (some ⟨gK,4,none⟩))] ?_))
  refine am 5 dC ?_
  refine sqp [.k 129 (vp b),.k 130 (.pointer (some ⟨b,2,none⟩))] ?_
  refine aD (n:=1) 0 #[vi pos,vi (st+1),.string nd.high,.bool fin] dC fun MX xp=>?_
  refine aa ?_
  exact⟨nd.high,by have h_:=sU;rw[eV] at h_;rw[if_neg (by simpa using h_)],(by kernel_rfl),xp.pk [0,1,2,3,4,5,6,7,8]⟩
  rintro a139 QN ⟨f2,hf2,hj_,sV⟩
  refine ovz hj_ fun PN=>?_
  refine wp_seq (wp_seq (sqr (sqp [.k 131 (.pointer (some ⟨gK,3,none⟩))] ?_)))
  refine am 5 sV ?_
  refine sqp [.k 133 (.bool (decide (nd.right<0)))] ?_
  refine aa (wds (fun Ak JN=>?_) fun Ak JN=>?_)
  refine sqr (sqp [.m 134 0,.k 135 (vp b),.k 136 (.pointer (some ⟨b,3,none⟩))] ?_)
  refine aD (n:=1) 0 #[vi pos,vi (st+1),.string f2,.bool true] sV fun QO CB=>?_
  refine aa (wp_seq (sqr ?_))
  refine dz 6 13 CB ?_
  refine aD (n:=13) 1 #[vi pos,.slice KA T.length kc,.slice RA T.length rc,.bool true,.bool true,.bool nd.dead,vi nd.lv,vi nd.right,.string nd.high,.slice EA24_42 nd.es.length cEA24_42,.slice SA24_42 nd.es.length cSA24_42,.slice KA24_42 nd.es.length cKA24_42,.bool true] CB fun QP CD=>?_
  refine aa (wp_ret ?_)
  refine bpr (.agg #[vi pos,.slice KA T.length kc,.slice RA T.length rc,.bool true,.bool true,.bool nd.dead,vi nd.lv,vi nd.right,.string nd.high,.slice EA24_42 nd.es.length cEA24_42,.slice SA24_42 nd.es.length cSA24_42,.slice KA24_42 nd.es.length cKA24_42,.bool true]) (aJ (n:=13) Tryz.results37 rfl (by kernel_rfl) (by kernel_rfl) (CD.blk 1 rfl) rfl) ?_
  rw[iJ (by have h_:=gV;simpa using h_) hnd]
  subst mL
  rw[if_neg (by rw[iy];simp),if_neg (by have h_:=Aj;simpa using h_)]
  have hpk_:=CD.pick [0,7,8,2,3,4] (by decide) rfl
  have hrt_:nd.right<0:=by have h_:=Ak;simpa using h_
  subst hfin
  exact⟨_,_,_,_,_,_,_,_,_,_,rfl,by rw[rwL];dsimp only;rw[<-hf2,if_pos hrt_,decide_eq_true hrt_];exact hpk_⟩
  refine sqr (sqp [.m 137 0,.k 138 (.pointer (some ⟨gK,3,none⟩))] ?_)
  refine am 5 sV ?_
  refine sqp [.k 140 (vp b),.k 141 (vp b)] ?_
  refine aD (n:=1) 0 #[vi nd.right,vi (st+1),.string f2,.bool fin] sV fun QQ CE=>?_
  refine aa (wp_seq (sqr ?_))
  refine dz 6 13 CE ?_
  refine aD (n:=13) 1 #[vi pos,.slice KA T.length kc,.slice RA T.length rc,.bool true,.bool true,.bool nd.dead,vi nd.lv,vi nd.right,.string nd.high,.slice EA24_42 nd.es.length cEA24_42,.slice SA24_42 nd.es.length cSA24_42,.slice KA24_42 nd.es.length cKA24_42,.bool true] CE fun QR CF=>?_
  refine aa (wp_ret ?_)
  refine bpr (.agg #[vi pos,.slice KA T.length kc,.slice RA T.length rc,.bool true,.bool true,.bool nd.dead,vi nd.lv,vi nd.right,.string nd.high,.slice EA24_42 nd.es.length cEA24_42,.slice SA24_42 nd.es.length cSA24_42,.slice KA24_42 nd.es.length cKA24_42,.bool true]) (aJ (n:=13) Tryz.results37 rfl (by kernel_rfl) (by kernel_rfl) (CF.blk 1 rfl) rfl) ?_
  rw[iJ (by have h_:=gV;simpa using h_) hnd]
  subst mL
  rw[if_neg (by rw[iy];simp),if_neg (by have h_:=Aj;simpa using h_)]
  have hpk_:=CF.pick [0,7,8,2,3,4] (by decide) rfl
  have hrt_:¬nd.right<0:=by have h_:=Ak;simpa using h_
  subst hfin
  exact⟨_,_,_,_,_,_,_,_,_,_,rfl,by rw[rwL];dsimp only;rw[<-hf2,if_neg hrt_,decide_eq_false hrt_];exact hpk_⟩
end
section
open Go.RowKit
theorem w3:∀(vs pre post:List Value) (k:Nat),jq (pre++post) (pre.length+k) vs=pre++jq post k vs
 | [],pre,post,k=>rfl
 |v::vs,pre,post,k=>by
  rw[jq,jq,List.set_append_right _ _ (by omega),show pre.length+k-pre.length=k by omega,show pre.length+k+1=pre.length+(k+1) by omega]
  exact w3 vs pre (post.set k v) (k+1)
def eCl(e sz g n c:Nat)(pre:List Value):Ent:=⟨[g],fun W=>∃rest,W.ownsRow 0 e sz (.slice (some ⟨g,0,none⟩) n c) n (pre++rest)⟩
theorem Fu{e sz g n c:Nat}{pre:List Value}:(eCl e sz g n c pre).loc:=fun W W' hk h=>by
 obtain⟨rest,h1⟩:=h
 exact⟨rest,f7 e sz (.slice (some ⟨g,0,none⟩) n c) n (pre++rest) W W' (fun k hk'=>hk k (by simpa[eO,Value.ownBlock,eCl] using hk')) h1⟩
theorem Gs(zs:List Value)(k:Nat):(Builtin.zeroCells zs.toArray k).toList.length=k*zs.length:=by simp[Builtin.zeroCells]
theorem Ii{zs:List Value}(h:zs.all Value.oneCell'=true)(k:Nat):∀v∈(Builtin.zeroCells zs.toArray k).toList,Value.oneCell' v=true:=by
 intro v hv
 simp only[Builtin.zeroCells,Array.toList_map,List.mem_map,Array.toList_range,List.mem_range] at hv
 obtain⟨i,hi,rfl⟩:=hv
 have hpos:0<zs.length:=by
  rcases Nat.eq_zero_or_pos zs.length with e|e
  simp[e] at hi
  exact e
 have hlt:i % zs.length<zs.length:=Nat.mod_lt _ hpos
 have e:zs.toArray[i % zs.toArray.size]! =zs[i % zs.length]:=by simp[hlt]
 rw[e]
 exact List.all_eq_true.1 h _ (List.getElem_mem _)
section
variable{P:Program}{ops:Array Oper}{L:List Nat}{a0:Act}{w0:World}{bor:List Nat}{X0:List Ent}{us cr kl:List (List Nat)}
 {D:Nat->(Tmp->Value)->(Tmp->Value)->(Nat->Ent)->Prop}{i:Nat}{o:Oper}{ρ:Operand->Value}{β:Tmp->Value}{W:World}{X:Nat->Ent}
theorem uQ{t e:TypeId}{x y:Operand}{g n c l sz:Nat}{k:IntKind}{j:Int}(h:o.op= .slice t x (some y) none none)(ht:P.underlying t=some (.slice e))(hz:szP P e=some sz)
  (hx:ρ x= .slice (some ⟨g,0,none⟩) n c) (hy:ρ y= .int k j) (hj:j=(l:Int)) (hl:l<n) (hc:n<=c):(execOp ρ o).run P W= .ok (.value (.slice (some ⟨g,l*sz,none⟩) (n-l) (c-l))) W:=by
 rw[ce h ht hz hx hy hj (by omega),if_neg (by omega)]
 simp[Addr.add_lit]
theorem DU{t e sz n c m k c2 g q q':Nat}{x:Operand}{zs pre post:List Value}(h:o.op= .call {callee:= .builtin .clear,args:=#[x],argTypes:=#[t]})(hx:ρ x= .slice (some ⟨g,m,none⟩) k c2)(ht:P.underlying t=some (.slice e))(hz:∀W,(zeroValue e).run P W= .ok (.agg zs.toArray) W)(hzc:zs.length=sz)
  (h1:zs.all Value.oneCell'=true) (cx:CtxV ops L a0 w0 bor X0 us D i ρ β W X) (hX:X q=eO e sz (.slice (some ⟨g,0,none⟩) n c) n (pre++post)) (hu:(atV us i).contains q=true) (hpre:pre.length=m) (hm:m+k*sz<=n*sz) (hk0:0<k) (hd:o.dst=none)
  (hc:atV cr i=[q']) (hk:atV kl i=[q]) (hD:∀(b a:Tmp->Value) (X':Nat->Ent),(∀t,b t=ρ (.tmp t))->(∀t,a t=β t)->X' q'=eCl e sz g n c pre->D i b a X'):aC P o ρ W (cQ cr kl D i o.dst ρ β W X):=by
 have hok:=cx.ok q hu
 rw[hX] at hok
 have hown:W.ownsRow 0 e sz (.slice (some ⟨g,0,none⟩) n c) n (pre++post):=hok.holds
 obtain⟨W',h2,h3,h4⟩:=ku (P:=P) (Builtin.zeroCells zs.toArray k).toList m 0 _ W hown (by rw[Gs,hzc];omega) (Ii h1 k)
 have hput:jq (pre++post) (m+0) (Builtin.zeroCells zs.toArray k).toList=pre++jq post 0 (Builtin.zeroCells zs.toArray k).toList:=by rw[<-hpre];exact w3 _ _ _ _
 rw[hput] at h4
 have hrun:(execOp ρ o).run P W= .ok (.value (.tuple #[])) W':=by
  have hn0:k≠0:=by omega
  unfold execOp;rw[h]
  obtain⟨k',rfl⟩:∃k',k=k'+1:=⟨k-1,by omega⟩
  simp[go_sem,hx,Builtin.clear_,run_underlying ht,hz]
  have h2':=h2
  rw[h2']
  rfl
 refine aC.value hrun ⟨[eCl e sz g n c pre],by rw[hc];rfl,⟨?_,fun e' he=>?_,List.pairwise_singleton _ _⟩,fun b a X' hs hv hb' hbv hx' hN=>hD b a X' (fun t=>hs t (by rw[hd];simp)) (fun t=>hb' t (by rw[hd];simp)) ?_⟩
 rw[hk]
 simp only[List.flatMap_cons,List.flatMap_nil,List.append_nil,hX]
 exact h3.mono (fun k _ hk'=>by simp at hk';subst hk';simp[eO,Value.ownBlock])
 rw[List.mem_singleton] at he
 subst he
 refine⟨⟨_,h4⟩,Fu,fun k hk'=>?_⟩
 have hkg:k=g:=by simpa[eCl] using hk'
 subst hkg
 refine⟨.inl ?_,eF h4 k (by simp[Value.ownBlock])⟩
 rw[hk]
 simp[hX,eO,Value.ownBlock]
 rw[hc] at hN
 exact(List.cons.inj hN).1
end
end
section
open Go.RowKit
theorem Ext.to_upd{w W:World}(h:Ext w W):Upd [] w W:=⟨h.out.os,h.out.tape,h.out.output,h.size,fun k hk _=>h.out.block k hk⟩
theorem Do{W:World}{e base sz n c:Nat}{A:Option Addr}{xs:List Value}(h:W.ownsRow base e sz (.slice A n c) n xs)(h0:0<n):∃g,A=some ⟨g,0,none⟩:=by
 rcases h.2 with ⟨hv,hm0⟩|⟨g,cap,cur,hv,_⟩
 omega
 injection hv with h1 h2 h3;exact⟨g,h1⟩
theorem St.lentRow{W:World}{e sz n:Nat}{v:Value}{xs:List Value}(h:W.ownsRow 0 e sz v n xs):St W v.ownBlock.toList [eO e sz v n xs] W:=by
 refine⟨Upd.refl _ _,fun x hx=>?_,List.pairwise_singleton _ _⟩
 rw[List.mem_singleton] at hx
 subst hx
 exact⟨h,f7 _ _ _ _ _,fun k hk=>⟨.inl hk,eF h k (by simpa[eO] using hk)⟩⟩
theorem t9{α:Type}(p:α->Bool):∀(l:List α) (k:Nat),(cj p (k:Int) l= -1/\l.any p=false)\/∃i:Nat,i<l.length/\cj p (k:Int) l=((k+i:Nat):Int)/\(l.take i).any p=false/\∃x,l[i]? =some x/\p x=true
 | [],k=> .inl ⟨rfl,rfl⟩
 |x::l,k=>by
  rw[cj]
  cases hx:p x with
  |true=>exact .inr ⟨0,by simp,by rw[if_pos rfl];simp,rfl,x,rfl,hx⟩
  |false=>
   rw[if_neg (by decide)]
   rcases t9 p l (k+1) with ⟨h1,h2⟩|⟨i,h1,h2,h3,y,h4,h5⟩
   exact .inl ⟨by rw[show ((k:Int)+1)=((k+1:Nat):Int) by omega];exact h1,by rw[List.any_cons,hx,h2];rfl⟩
   refine .inr ⟨i+1,by simpa using h1,by rw[show ((k:Int)+1)=((k+1:Nat):Int) by omega,h2];omega,by rw[List.take_succ_cons,List.any_cons,hx,h3];rfl,y,by simpa using h4,h5⟩
theorem zC{α:Type}(p:α->Bool)(l:List α):(cj p 0 l= -1/\l.any p=false)\/∃i:Nat,i<l.length/\cj p 0 l=(i:Int)/\(l.take i).any p=false/\∃x,l[i]? =some x/\p x=true:=by
 rcases t9 p l 0 with ⟨h1,h2⟩|⟨i,h1,h2,h3⟩
 exact .inl ⟨h1,h2⟩
 exact .inr ⟨i,h1,by rw[show ((0+i:Nat):Int)=(i:Int) by omega] at h2;exact h2,h3⟩
theorem vv{α:Type}{p:α->Bool}{l:List α}(h:l.any p=false):l.filter (fun x=>!p x)=l:=by
 rw[List.filter_eq_self]
 intro x hx
 have:=List.any_eq_false.1 h x hx
 simpa using this
theorem Gl{α:Type}{p:α->Bool}{l:List α}{i:Nat}{x:α}(h:(l.take i).any p=false)(hx:l[i]? =some x)(hp:p x=true):l.take i=(l.take (i+1)).filter fun x=>!p x:=by
 rw[List.take_add_one,hx,Option.toList,List.filter_append,vv h,List.filter_cons_of_neg (by rw[hp];decide),List.filter_nil,List.append_nil]
theorem Gz{α:Type}{p:α->Bool}{l zs:List α}{i j:Nat}{x:α}(h1:zs.take i=(l.take j).filter fun x=>!p x)(h2:zs.drop j=l.drop j)(hij:i<j)(hj:j<zs.length)(hx:zs[j]? =some x)(hp:(!(p x))=true):(zs.set i x).take (i+1)=(l.take (j+1)).filter fun x=>!p x:=by
 have hlx:l[j]? =some x:=by
  have:=congrArg (fun q:List α=>q[0]?) h2
  simp only[List.getElem?_drop,Nat.add_zero] at this
  rw[<-this];exact hx
 rw[List.take_add_one (l:=l),hlx,Option.toList,List.filter_append,List.filter_cons_of_pos (by exact hp),List.filter_nil,<-h1,List.take_set,List.take_add_one,List.set_append_right _ _ (by rw[List.length_take];omega)]
 rw[List.getElem?_eq_getElem (show i<zs.length by omega),Option.toList,List.length_take,Nat.min_eq_left (by omega),Nat.sub_self];rfl
theorem G0{α:Type}{p:α->Bool}{l zs:List α}{i j:Nat}{x:α}(h1:zs.take i=(l.take j).filter fun x=>!p x)(h2:zs.drop j=l.drop j)(hx:zs[j]? =some x)(hp:(!(p x))=false):zs.take i=(l.take (j+1)).filter fun x=>!p x:=by
 have hlx:l[j]? =some x:=by
  have:=congrArg (fun q:List α=>q[0]?) h2
  simp only[List.getElem?_drop,Nat.add_zero] at this
  rw[<-this];exact hx
 rw[List.take_add_one,hlx,Option.toList,List.filter_append,List.filter_cons_of_neg (by rw[hp];decide),List.filter_nil,List.append_nil];exact h1
theorem yR{α:Type}{l zs:List α}{j:Nat}(h2:zs.drop j=l.drop j):zs.drop (j+1)=l.drop (j+1):=by
 rw[<-List.drop_drop,h2,List.drop_drop]
theorem D1{α:Type}{l zs:List α}{i j:Nat}{x:α}(hij:i<j)(h2:zs.drop j=l.drop j):(zs.set i x).drop (j+1)=l.drop (j+1):=by
 rw[List.drop_set_of_lt (by omega)];exact yR h2
def A7(A:Option Addr)(m c:Nat)(l:List EnD)(w:World)(e:Ending)(w':World):Prop:=e= .returned (.slice A l.length c)/\(∃rest,w'.ownsRow 0 89 3 (.slice A m c) m (l.flatMap enC++rest))/\Upd (Value.ownBlock (.slice A m c)).toList w w'
theorem DR(FA:Option Addr)(fc:Nat)(ks:List EnD)(f0:FuncId)(cap:Array Value)(p:EnD->Bool)(w:World)(hO:w.ownsRow 0 89 3 (.slice FA ks.length fc) ks.length (ks.flatMap enC))(hl:ks.length<=100000)(hcf:dV Tryz.prog f0=true)(hf:∀(W:World) (k:EnD),Upd (Value.ownBlock (.slice FA ks.length fc)).toList w W->Calls Tryz.prog f0 (#[.agg #[.string k.1,.int .i64 (k.2.1:Int),.int .i64 k.2.2]]++cap) W (Ret (.bool (p k)) W)):
  Calls Tryz.prog 32 #[.slice FA ks.length fc,.func (.func f0) #[] cap] w (A7 FA ks.length fc (ks.filter (fun k=>!(p k))) w):=by
 have st0:=St.lentRow hO
 have hcap:=ft hO
 go_enter Tryz.func32,Tryz.ntmps32
 have ar:=st0
 refine wp_seq (sqr (sqp [.k 4 (.slice none 0 0)] ?_))
 refine aa (wp_seq (sqr (sqp [.m 8 0,.m 9 1] ?_)))
 refine sqv (vi ((cj p 0 ks))) ar (gy rfl rfl rfl rfl rfl (fun _ _ _ h=>h) fun a b W X cx=>⟨_,_,aB (args:=#[.slice FA ks.length fc,.func (.func f0) #[] cap]) rfl cx.sees rfl (by kernel_rfl) (aI (cx.ou 8) (cx.ou 9)),wo _ _ ks _ _ p _ (At.of_ownN (cx.ri 0 rfl)) hl hcf (fun W k hW=>hf W k (cx.upd.join hW.to_upd (fun i hi=>by cases hi)))⟩) fun W4 bR=>?_
 refine sqp [.m 5 10] ?_
 refine aa (wp_seq (wp_seq ?_))
 obtain⟨ix,l5⟩:∃z,(cj p 0 ks)=z:=⟨_,rfl⟩
 rw[l5]
 rcases zC p ks with ⟨hi1,hi2⟩|⟨i0,hi1,hi2,hi3,x0,hi4,hi5⟩
 rw[l5] at hi1
 subst hi1
 refine sqr (sqp [.m 11 5,.k 12 (.bool true)] ?_)
 refine aa (wct rfl (wp_seq (sqr (sqp [.m 13 0,.m 4 13] ?_))))
 refine aa (wp_ret (af ?_))
 refine bpr (.slice FA ks.length fc) (ai Tryz.results32 rpt) ?_
 rw[show ks.filter (fun k=>!(p k))=ks from vv hi2];exact⟨rfl,⟨[],by rw[List.append_nil];exact(bR.get 0 rfl).holds⟩,bR.upd⟩
 rw[l5] at hi2
 subst hi2
 obtain⟨g,rfl⟩:=Do hO (show 0<ks.length by omega)
 refine sqr ?_
 have hd12:((i0:Int)==(-1))=false:=(by rw[beq_eq_false_iff_ne];omega)
 refine sqp [.m 11 5,.e 12 (.bool ((i0:Int)==(-1))) (.bool false) (congrArg Value.bool hd12)] ?_
 refine aa (wcf rfl (wp_skip (aa (wp_seq (wp_seq (sqr (sqp [.m 14 5,sI 15 ((i0:Int)+1) (by omega),.m 6 15] ?_)))))))
 refine aa (wp_block ?_)
 refine aL (fun t_ mz az W=>∃i:Nat,∃j:Nat,∃zs:List EnD,(i<j/\j<=ks.length)/\zs.length=ks.length/\zs.take i=(ks.take j).filter (fun k=>!(p k))/\zs.drop j=ks.drop j/\mz=ks.length-j/\az=⟨(ovr (jv az) [(5,5,0,[vi ((i:Int)),vi ((j:Int))]),(0,7,1,[]),(8,16,20,[])] t_).toArray,[]⟩/\St w (Value.ownBlock (.slice (some ⟨g,0,none⟩) ks.length fc)).toList [eO 89 3 (.slice (some ⟨g,0,none⟩) ks.length fc) ks.length (zs.flatMap enC)] W) (ks.length-((i0+1))) ?_ ?_
 exact⟨i0,(i0+1),ks,⟨by omega,by omega⟩,rfl,Gl hi3 hi4 hi5,rfl,rfl,(by kernel_rfl),bR.pk [0]⟩
 rintro OM a16 nS ⟨i,j,zs,hij,hzl,hz1,hz2,rfl,hj_,bM⟩
 refine ovz hj_ fun Nb=>?_
 refine wp_seq (wp_seq (sqr (sqp [.m 16 6,.m 17 0,.k 18 (vi ((ks.length:Int))),.k 19 (.bool (decide ((j:Int)<(ks.length:Int))))] ?_)))
 refine aa (wds (fun kr l6=>?_) fun kr l6=>?_)
 refine wp_skip (aa (wp_seq (wp_block (wp_seq ?_))))
 obtain⟨kx,ky,kz,hkj⟩:=EY (l:=zs) (k:=j) (by omega)
 refine sqr (sqp [.m 22 0,.m 23 6] ?_)
 refine sql (.pointer (some ((ad ((some ⟨g,0,none⟩))).add (j*3)))) bM (fun cx=>aH (e:=89) (m:=j) (sz:=3) rfl (by kernel_rfl) (by kernel_rfl) (cx.ou 22) (cx.ou 23) (by omega) (by omega) (At.of_ownN (cx.ri 0 rfl)) (bq (sz:=3) aQ (by decide) (by omega))) ?_
 refine sql (.agg #[.string kx,vi ((ky:Int)),vi kz]) bM (fun cx=>aZ (f:=enC) (m:=j) (sz:=3) (off:=0) (n:=3) rfl (by kernel_rfl) (by kernel_rfl) (cx.ou 24) rfl aQ (At.of_ownN (cx.ri 0 rfl)) hkj (fun k hk=>match k,hk with|0,_=>rfl|1,_=>rfl|2,_=>rfl|k+3,hk=>absurd hk (by omega))) ?_
 refine bF #[.string ByteArray.empty,vi 0,vi 0] bM fun PO Fd fW=>?_
 refine aD (n:=3) 1 #[.string kx,vi ((ky:Int)),vi kz] fW fun y6 cd=>?_
 refine aa (wp_seq (sqr (sqp [.m 26 1] ?_)))
 refine dz 1 3 cd ?_
 refine sqv (.bool ((p (kx,ky,kz)))) cd (gy rfl rfl rfl rfl rfl (fun _ _ _ h=>h) fun a b W X cx=>⟨_,_,iF (f:=f0) (args:=#[.agg #[.string kx,vi ((ky:Int)),vi kz]]) (args':=#[.agg #[.string kx,vi ((ky:Int)),vi kz]]++cap) rfl rfl (cx.ou 26) hcf (bp (cx.ou 27)) (by rw[Array.empty_append]),(by have h9:=hf W (kx,ky,kz) cx.upd;dsimp only at h9;exact h9)⟩) fun LZ l7=>?_
 refine sqp [.k 29 (.bool (!((p (kx,ky,kz)))))] ?_
 refine aa ?_
 rcases Bool.eq_false_or_eq_true ((p (kx,ky,kz))) with xF|xF
 refine wp_cond_false (show Act.eval _ _= .bool false from(congrArg Value.bool (by rw[xF];rfl))) (wp_skip (ax (aa (sqr (sqp [.m 20 6,sI 21 ((j:Int)+1) (by omega),.m 6 21] ?_)))))
 refine aa ?_
 refine⟨ks.length-((j+1)),by omega,?_⟩
 exact⟨i,(j+1),zs,⟨by omega,by omega⟩,hzl,G0 hz1 hz2 hkj (by rw[xF];rfl),yR hz2,rfl,(by kernel_rfl),l7.pk [0]⟩
 refine wp_cond_true (show Act.eval _ _= .bool true from(congrArg Value.bool (by rw[xF];rfl))) (wp_seq (sqr (sqp [.m 30 0,.m 31 5] ?_)))
 refine dz 1 3 l7 ?_
 refine sql (.pointer (some ((ad ((some ⟨g,0,none⟩))).add (i*3)))) l7 (fun cx=>aH (e:=89) (m:=i) (sz:=3) rfl (by kernel_rfl) (by kernel_rfl) (cx.ou 30) (cx.ou 31) (by omega) (by omega) (At.of_ownN (cx.ri 0 rfl)) (bq (sz:=3) aQ (by decide) (by omega))) ?_
 refine sqc (eO 89 3 (.slice (some ⟨g,0,none⟩) ks.length fc) ks.length ((zs.set i (kx,ky,kz)).flatMap enC)) 0 l7 (by
   refine svA fun a b W X cx=>?_
   exact fM (m:=i*3) (n:=ks.length) (sz:=3) (k:=3) rfl (cx.ou 33) (show _=Value.agg #[.string kx,vi ((ky:Int)),vi kz] from(cx.ou 32)) (by kernel_rfl) (by kernel_rfl) (by kernel_rfl) cx (cx.init 0 _ rfl) rfl (by omega) (by decide) rfl (iE aQ (ts:=zs) (m:=i) (by omega) (kx,ky,kz)) rfl rfl (fun _ _ _ _ _=>id)) fun Cd eL=>?_
 refine aa (sqr (sqp [.m 34 5,sI 35 ((i:Int)+1) (by omega),.m 5 35] ?_))
 refine ax (aa (sqr (sqp [.m 20 6,sI 21 ((j:Int)+1) (by omega),.m 6 21] ?_)))
 refine aa ?_
 refine⟨ks.length-((j+1)),by omega,?_⟩
 exact⟨(i+1),(j+1),(zs.set i (kx,ky,kz)),⟨by omega,by omega⟩,by rw[List.length_set];exact hzl,Gz hz1 hz2 hij.1 (by omega) hkj (by rw[xF];rfl),D1 hij.1 hz2,rfl,(by kernel_rfl),eL.pk [0]⟩
 refine wp_exit (aj (aj (aO (aa (wp_seq ?_)))))
 rw[show zs.flatMap enC=(zs.take i).flatMap enC++(zs.drop i).flatMap enC by rw[<-List.flatMap_append,List.take_append_drop]] at bM
 have hje:j=ks.length:=by omega
 have hfin:zs.take i=ks.filter (fun k=>!(p k)):=by rw[hz1,List.take_of_length_le (by omega)]
 have hfl:(ks.filter (fun k=>!(p k))).length=i:=by rw[<-hfin,List.length_take];omega
 refine sqr (sqp [.m 36 0,.m 37 5] ?_)
 refine sql (.slice ((some ⟨g,i*3,none⟩)) ((ks.length-i)) ((fc-i))) bM (fun cx=>uQ (e:=89) (sz:=3) (l:=i) rfl (by kernel_rfl) (by kernel_rfl) (cx.ou 36) (cx.ou 37) (by omega) (by omega) (by omega)) ?_
 refine sqc (eCl 89 3 g ks.length fc ((zs.take i).flatMap enC)) 0 bM (by
   refine svA fun a b W X cx=>?_
   exact DU (sz:=3) (e:=89) (m:=i*3) (k:=(ks.length-i)) (zs:=[.string ByteArray.empty,vi 0,vi 0]) rfl (cx.ou 38) (by kernel_rfl) (fun W=>by kernel_rfl) rfl (by decide) cx (cx.init 0 _ rfl) rfl (by rw[iK aQ,List.length_take];omega) (by omega) (by omega) rfl rfl rfl (fun _ _ _ _ _=>id)) fun Je dI=>?_
 refine aa (wp_seq (sqr (sqp [.m 39 0,.m 40 5] ?_)))
 refine sql (.slice ((some ⟨g,0,none⟩)) i fc) dI (fun cx=>fH (e:=89) (sz:=3) (m:=i) rfl (by kernel_rfl) (by kernel_rfl) (cx.ou 39) (cx.ou 40) (by omega) (by omega)) ?_
 refine sqp [.m 4 41] ?_
 refine aa (wp_ret ?_)
 refine bpr (.slice ((some ⟨g,0,none⟩)) i fc) (ai Tryz.results32 rpt) ?_
 obtain⟨rest,hown_⟩:=(dI.get 0 rfl).holds
 rw[hfin] at hown_
 exact⟨by rw[hfl],⟨rest,hown_⟩,dI.upd⟩
end
section
open Go.RowKit
theorem qY(pg:Int)(es:List EnD):(ba pg es).length=es.length:=List.length_map _
theorem zi(pg:Int)(EA:Option Addr)(ec n:Nat)(es:List EnD)(w:World)(hE:At w EA (es.flatMap enC))(hn:es.length=n)(hnb:n<=1000):
  Calls Tryz.prog 34 #[.int .i64 pg,.slice EA n ec] w (ot (ba pg es) w):=by
 go_enter Tryz.func34,Tryz.ntmps34
 have ar:=St.start w
 refine wp_seq (sqr (sqp [.k 4 (.slice none 0 0)] ?_))
 refine aa (wp_seq (sqr (sqp [.k 5 (.slice none 0 0)] ?_)))
 refine aa (wp_seq (wp_seq (sqr (sqp [.m 8 1,.k 9 (vi ((n:Int))),.k 10 (vi 0)] ?_))))
 refine aa (wp_block ?_)
 have hn6:=bT ar 67 3
 simp only[List.cons_append,List.nil_append] at hn6
 refine aL (fun t_ mz az W=>∃i:Nat,∃nn:Nat,∃O:List EdT,∃OA:Option Addr,∃OC:Nat,i<=n/\O=ba pg (es.take i)/\O.length=nn/\nn<=10+i/\mz=n-i/\az=⟨(ovr (jv az) [(5,5,0,[.slice OA nn OC]),(1,7,1,[]),(2,10,0,[vi ((i:Int))]),(0,11,11,[])] t_).toArray,[]⟩/\St w [] [eO 67 3 (.slice OA nn OC) nn (O.flatMap edC)] W) (n-0) ?_ ?_
 exact⟨0,0,([]:List EdT),none,0,Nat.zero_le _,rfl,rfl,by omega,rfl,(by kernel_rfl),hn6.pk [0]⟩
 rintro n7 a7 W7 ⟨i,nn,O,OA,OC,hi,hO,hOl,hnn,rfl,hj_,bD⟩
 refine ovz hj_ fun E5=>?_
 refine wp_seq (sqr (sqp [.k 11 (.bool (decide ((i:Int)<(n:Int))))] ?_))
 refine aa (wp_seq (wds (fun xf xG=>?_) fun xf xG=>?_))
 refine wp_skip (aa (wp_seq (wp_block (wp_seq (sqr ?_)))))
 refine sql (.pointer (some ((ad EA).add (i*3)))) bD (fun cx=>aH (e:=89) (m:=i) (sz:=3) rfl (by kernel_rfl) (by kernel_rfl) (cx.ou 8) (cx.ou 10) (by omega) (by omega) (hE.ext cx.upd.to_ext) (bq (sz:=3) aQ (by decide) (by omega))) ?_
 refine sql (.agg #[.string ((es.getD i en0).1),vi (((es.getD i en0).2.1:Int)),vi ((es.getD i en0).2.2)]) bD (fun cx=>aZ (f:=enC) (m:=i) (sz:=3) (off:=0) (n:=3) rfl (by kernel_rfl) (by kernel_rfl) (cx.ou 12) rfl aQ (hE.ext cx.upd.to_ext) (cR (by omega)) (fun k hk=>match k,hk with|0,_=>rfl|1,_=>rfl|2,_=>rfl|k+3,hk=>absurd hk (by omega))) ?_
 refine bF #[.string ByteArray.empty,vi 0,vi 0] bD fun e7 mH bU=>?_
 refine aD (n:=3) 1 #[.string ((es.getD i en0).1),vi (((es.getD i en0).2.1:Int)),vi ((es.getD i en0).2.2)] bU fun lk bH=>?_
 refine aa (sqr (sqp [.m 14 5,.m 15 0,.k 16 (.pointer (some ⟨e7,1,none⟩))] ?_))
 refine am 1 bH ?_
 refine sqp [.k 18 (.agg #[vi pg,vi (((es.getD i en0).2.1:Int)),.string ByteArray.empty])] ?_
 refine ql 67 3 1 (edC (pg,((es.getD i en0).2.1:Int),ByteArray.empty)) bH (@fun a b W X cx=>by have Nc:a (.tmp 18)= .agg #[vi pg,vi (((es.getD i en0).2.1:Int)),.string ByteArray.empty]:=(cx.ou 18);simp[go_sem,Nc,edC]) fun ON w5 cU=>?_
 refine zG (nn+1) ((O++[(pg,((es.getD i en0).2.1:Int),ByteArray.empty)]).flatMap edC) 0 cU Tryz.infoEdit (fun cx=>(At.of_ownN (cx.ri 2 rfl))) (h1:=by simp[edC,Value.oneCell']) (iL:=dw _ _) fun JO JP qj cb=>?_
 refine sqp [.m 5 20] ?_
 refine ax (aa (sqr (sqp [sI 21 ((i:Int)+1) (by omega),.m 10 21] ?_)))
 refine aa ?_
 refine⟨n-((i+1)),by omega,?_⟩
 exact⟨(i+1),(nn+1),(O++[(pg,((es.getD i en0).2.1:Int),ByteArray.empty)]),JO,JP,by omega,by rw[hO,mh (by omega)],by rw[List.length_append,hOl];rfl,by omega,rfl,(by kernel_rfl),cb.pk [0]⟩
 refine wp_exit (aj (aj (aO (aa (wp_seq (sqr (sqp [.m 22 5,.m 4 22] ?_)))))))
 refine aa (wp_ret ?_)
 refine bpr (.slice OA nn OC) (ai Tryz.results34 rpt) ?_
 rw[m9 (by omega)] at hO
 rw[hO] at bD hOl
 rw[<-hOl] at bD |-
 have ho_:=bD.own' 0 rfl
 exact⟨_,_,rfl,ho_,bD.ext⟩
end
section
open Go.RowKit
def eDe(A:Option Addr)(m c:Nat)(ls:List EnD):Ent:=⟨(Value.ownBlock (.slice A m c)).toList,fun W=>∃rest,W.ownsRow 0 89 3 (.slice A m c) m (ls.flatMap enC++rest)⟩
theorem Gw(A:Option Addr)(m c:Nat)(ls:List EnD):(eDe A m c ls).loc:=fun W W' h hb=>by
 obtain⟨rest,h'⟩:=hb
 exact⟨rest,f7 _ 3 _ m _ W W' h h'⟩
theorem H9{A:Option Addr}{c m:Nat}{ls:List EnD}{W:World}(h:(eDe A m c ls).holds W):At W A (ls.flatMap enC):=by
 obtain⟨rest,h'⟩:=h
 have h1:=At.of_ownN h'
 intro k x hk
 exact h1 k x (by rw[List.getElem?_append_left (List.getElem?_eq_some_iff.1 hk).1];exact hk)
def Bw(A:Option Addr)(m c:Nat)(l:List EnD)(w:World)(e:Ending)(w':World):Prop:=e= .returned (.slice A l.length c)/\St w (Value.ownBlock (.slice A m c)).toList [eDe A m c l] w'
theorem KL{A:Option Addr}{m c:Nat}{l:List EnD}{w w':World}{e:Ending}(h:A7 A m c l w e w'):Bw A m c l w e w':=by
 obtain⟨h1,⟨rest,h2⟩,h3⟩:=h
 refine⟨h1,h3,fun x hx=>?_,List.pairwise_singleton _ _⟩
 rw[List.mem_singleton] at hx
 subst hx
 exact⟨⟨rest,h2⟩,Gw _ _ _ _,fun k hk=>⟨.inl hk,eF h2 k (by simpa[eDe] using hk)⟩⟩
def bC(x:ByteArray)(es:List EnD):List EnD:=es.filter fun e=>e.1.toList==x.toList
def rmG(ps:List PgS)(x:ByteArray):Nat->WkT->List EdT×Bool
 |0,_=>([],false)
 |k+1,w=>match wkN ps w with
  |(_,.off)=>([],false)
  |(w',.on)=>rmG ps x k w'
  |(_,.at n)=>(ba w.pos (bC x n.es),decide ((0:Int)<((bC x n.es).length:Int)))
def rmF(ps:List PgS)(root:Int)(x:ByteArray):List EdT×Bool:=rmG ps x 1000 ⟨root,0,x,false⟩
theorem q9{ps:List PgS}{x:ByteArray}{k:Nat}{w w':WkT}(h:wkN ps w=(w',.on)):rmG ps x (k+1) w=rmG ps x k w':=by rw[rmG,h]
theorem rL{ps:List PgS}{x:ByteArray}{k:Nat}{w w':WkT}(h:wkN ps w=(w',.off)):rmG ps x k w=([],false):=by
 cases k with
 |zero=>rfl
 |succ k=>rw[rmG,h]
theorem qZ{ps:List PgS}{x:ByteArray}{k:Nat}{w w':WkT}{n:NoD}(h:wkN ps w=(w',.at n)):rmG ps x (k+1) w=(ba w.pos (bC x n.es),decide ((0:Int)<((bC x n.es).length:Int))):=by rw[rmG,h]
theorem Ky{ps:List PgS}{w w':WkT}(h:wkN ps w=(w',.on)):w.st+1<1000/\w'.st=w.st+1/\w'.fm=w.fm:=by
 obtain⟨pos,st,fm,fin⟩:=w
 by_cases h0:fin=true\/1000<=st+1
 rw[jX h0] at h;cases h
 rcases hn:av ps pos with _|n
 rw[jx hn] at h;cases h
 rw[fO h0 hn] at h
 have aP:st+1<1000:=by omega
 split at h
 split at h<;>cases h
 exact⟨aP,rfl,rfl⟩
 split at h<;>cases h
 exact⟨aP,rfl,rfl⟩
theorem vu{b:Nat}{pos:Int}{R R':WkT×WkR}{f:FuncId}{args:Array Value}{w:World}(hR:R=R')(hc:Calls Tryz.prog f args w (mw b pos R w)):Calls Tryz.prog f args w (mw b pos R' w):=hR ▸ hc
theorem wu{ps:List PgS}{pos st:Int}{fm:ByteArray}{fin:Bool}{nd:NoD}{w1:WkT}(h:wkN ps ⟨pos,st,fm,fin⟩=(w1,.at nd)):av ps pos=some nd:=by
 by_cases h0:fin=true\/1000<=st+1
 rw[jX h0] at h;cases h
 rcases hn:av ps pos with _|n
 rw[jx hn] at h;cases h
 rw[fO h0 hn] at h
 split at h
 split at h<;>cases h
 split at h<;>cases h
 rfl
theorem CtxV.joinB{ops:Array Oper}{L:List Nat}{a0:Act}{w0:World}{bor:List Nat}{X0:List Ent}{us:List (List Nat)}{D:Nat->(Tmp->Value)->(Tmp->Value)->(Nat->Ent)->Prop}{i:Nat}{a:Operand->Value}{b:Tmp->Value}{W W1:World}{X:Nat->Ent}{q:Nat}{E:Ent}(cx:CtxV ops L a0 w0 bor X0 us D i a b W X)(hX:X q=E)(hu:(atV us i).contains q=true)(h:Upd E.fp W W1):Upd bor w0 W1:=by
 subst hX
 exact cx.upd.join h fun k hk=>((cx.ok q hu).own k hk).1
def vo(r:List EdT×Bool)(w:World)(e:Ending)(w':World):Prop:=∃A c,e= .returned (.tuple #[.slice A r.1.length c,.bool r.2])/\St w [] [eO 67 3 (.slice A r.1.length c) r.1.length (r.1.flatMap edC)] w'
theorem CP(x:ByteArray)(y z:Int)(tb:Nat)(te:ByteArray)(w:World)(h1:Blk w tb 9 #[.string te]):
  Calls Tryz.prog 33 #[.agg #[.string x,.int .i64 y,.int .i64 z],.pointer (some ⟨tb,0,none⟩)] w (Ret (.bool (!(x.toList==te.toList))) w):=by
 go_enter Tryz.func33,Tryz.ntmps33
 have ar:=St.start w
 refine wp_seq (sqr ?_)
 refine bZ #[.string x,vi y,vi z] ar fun bW W1 aE=>?_
 refine sqp [.k 3 (.bool false)] ?_
 refine aa (wp_seq (sqr (sqp [.k 4 (vp bW)] ?_)))
 refine am 0 aE ?_
 refine sql (.string te) aE (fun cx=>ae rfl (by kernel_rfl) (cx.ou 1) ((Blk.ext h1 cx.upd.to_ext).cell 0)) ?_
 refine sqp [.k 7 (.bool (!(x.toList==te.toList))),.m 3 7] ?_
 refine aa (wp_ret ?_)
 refine bpr (.bool (!(x.toList==te.toList))) (ai Tryz.results33 rpt) ?_
 exact Ret.bool (by simp[bne]) aE.ext
theorem FR{A:Option Addr}{c:Nat}{es:List EnD}{w:World}{tb:Nat}{te:ByteArray}(hO:w.ownsRow 0 89 3 (.slice A es.length c) es.length (es.flatMap enC))(hl:es.length<=100000)(h1:∀W,Upd (Value.ownBlock (.slice A es.length c)).toList w W->Blk W tb 9 #[.string te]):
  Calls Tryz.prog 32 #[.slice A es.length c,.func (.func 33) #[] #[.pointer (some ⟨tb,0,none⟩)]] w (Bw A es.length c (bC te es) w):=by
 refine((DR A c es 33 #[.pointer (some ⟨tb,0,none⟩)] (fun e=>!(e.1.toList==te.toList)) w hO hl (by kernel_rfl) (fun W k hW=>CP k.1 _ k.2.2 tb te W (h1 W hW))).mono fun e w' h=>?_)
 have h2:=KL h
 have e1:es.filter (fun k=>!(!(k.1.toList==te.toList)))=bC te es:=by rw[bC];congr 1;funext k;simp
 rw[e1] at h2
 exact h2
theorem x6(tt:TypeId)(tv:Value)(root:Int)(key:ByteArray)(pg sl:Int)(ps:List PgS)(w:World)(hS:PgsOk w tt tv ps)(hok:OkS ps)(hoc:OkC ps)(hk:key.size<=800000):
  Calls Tryz.prog 9 #[.iface tt (tv),.int .i64 root,.string key,.agg #[.int .i64 pg,.int .i64 sl]] w (vo (rmF ps root (bz key pg sl)) w):=by
 go_enter Tryz.func9,Tryz.ntmps9
 have ar:=St.start w
 refine wp_seq (sqr ?_)
 refine bZ #[vi pg,vi sl] ar fun Ez W1 aE=>?_
 refine sqp [.k 8 (.slice none 0 0),.k 9 (.bool false)] ?_
 refine aa (wp_seq (sqr (sqp [.m 16 2] ?_)))
 refine dz 0 2 aE ?_
 refine sqk (.string ((bz key pg sl))) aE (fun cx=>⟨_,gD key pg sl _ (by omega),(aI (cx.ou 16) (cx.ou 17))⟩) fun W6 cM=>?_
 refine bF #[.string ByteArray.empty] cM fun l8 W7 bD=>?_
 refine aD (n:=1) 1 #[.string ((bz key pg sl))] bD fun W8 bj=>?_
 refine aa (wp_seq (sqr (sqp [.m 19 1] ?_)))
 refine am 1 bj ?_
 refine sqp [.k 21 (.agg #[vi root,vi 0,.string ((bz key pg sl)),.bool false])] ?_
 refine bZ #[vi root,vi 0,.string ((bz key pg sl)),.bool false] bj fun eP mH bU=>?_
 refine sqp [.m 11 22] ?_
 refine aa (wp_block ?_)
 obtain⟨x,oP⟩:∃z,(bz key pg sl)=z:=⟨_,rfl⟩
 rw[oP] at bU |-
 have hxz:x.size<=900000:=by rw[<-oP,dx];omega
 refine aL (fun t_ mz az W=>∃i:Nat,∃wk:WkT,i<=999/\wk.st=i/\rmF ps root x=rmG ps x (1000-i) wk/\wk.fm.size<=900000/\mz=1000-i/\az=⟨(ovr (jv az) [(8,8,2,[]),(2,12,4,[]),(7,23,21,[])] t_).toArray,[]⟩/\St w [] [eB l8 9 #[.string (x)],eB eP 81 #[vi wk.pos,vi wk.st,.string wk.fm,.bool wk.fin]] W) (1000-0) ?_ ?_
 exact⟨0,⟨root,0,x,false⟩,by omega,rfl,rfl,hxz,rfl,(by kernel_rfl),bU.pk [1,2]⟩
 rintro OO a14 kb ⟨i,wk,hi,aP,hrun,hwf,rfl,hj_,bm⟩
 refine ovz hj_ fun Nd=>?_
 refine wp_block (wp_seq ?_)
 rcases hR:wkN ps wk with ⟨w1,_|_|nd⟩
 refine sqr (sqp [.m 24 11,.m 25 0] ?_)
 refine jh (.tuple #[.agg #[vi 0,vi 0,vi 0,.string ((⟨#[]⟩:ByteArray)),.bool false,.slice none 0 0,vi 0],.bool false,.bool false]) (eB eP 81 #[vi w1.pos,vi w1.st,.string w1.fm,.bool w1.fin]) 1 bm (by
   refine svA fun f b W X cx=>?_
   refine aC.call (aB (args:=#[vp eP,.iface tt (tv)]) rfl cx.sees rfl (by kernel_rfl) (aI (cx.ou 24) (cx.ou 25))) ?_
   refine(vu hR (iR _ _ _ wk.pos wk.st wk.fm wk.fin ps _ (cx.bi 1 rfl) (fun W hW=>hS.ext (CtxV.joinB cx (cx.init 1 _ rfl) rfl hW).to_ext) hok hoc (by omega) (by omega))).mono ?_
   rintro e W1 ⟨rfl,aM⟩
   refine⟨_,rfl,bJ (E:=eB eP 81 #[vi wk.pos,vi wk.st,.string wk.fm,.bool wk.fin]) [eB eP 81 #[vi w1.pos,vi w1.st,.string w1.fm,.bool w1.fin]] (cx.init 1 _ rfl) rfl rfl aM (fun d g X' hs hb hv hN=>?_)⟩
   have aW:=(hv 26 rfl).1;have aG:=(hv 26 rfl).2
   exact⟨aW.trans rfl,(List.cons.inj hN).1⟩) fun su b6=>?_
 refine sqp [.m 23 26,.k 27 (.agg #[vi 0,vi 0,vi 0,.string ((⟨#[]⟩:ByteArray)),.bool false,.slice none 0 0,vi 0]),.k 28 (.bool false),.k 29 (.bool false)] ?_
 refine bF #[vi 0,vi 0,vi 0,.string ByteArray.empty,.bool false,.slice none 0 0,vi 0] b6 fun OP Fl fX=>?_
 refine aD (n:=7) 2 #[vi 0,vi 0,vi 0,.string ((⟨#[]⟩:ByteArray)),.bool false,.slice none 0 0,vi 0] fX fun uL cE=>?_
 refine sqp [.k 13 (.bool false),.k 14 (.bool false)] ?_
 refine aa (wp_seq (wp_seq (sqr (sqp [.k 30 (.bool false),.k 31 (.bool true)] ?_))))
 refine aa (wct rfl (wp_seq (sqr (sqp [.k 8 (.slice none 0 0),.k 9 (.bool false)] ?_))))
 refine aa (wp_ret (af (aq (af (aq ?_)))))
 refine bpr (.tuple #[.slice none 0 0,.bool false]) (cA Tryz.results9 rpt rpt) ?_
 have hn30:=bT cE 67 3
 simp only[List.cons_append,List.nil_append] at hn30
 rw[hrun,rL hR]
 exact⟨_,_,rfl,hn30.pick [3] (by decide) rfl⟩
 have hon:=Ky hR
 refine sqr (sqp [.m 24 11,.m 25 0] ?_)
 refine jh (.tuple #[.agg #[vi 0,vi 0,vi 0,.string ((⟨#[]⟩:ByteArray)),.bool false,.slice none 0 0,vi 0],.bool false,.bool true]) (eB eP 81 #[vi w1.pos,vi w1.st,.string w1.fm,.bool w1.fin]) 1 bm (by
   refine svA fun f b W X cx=>?_
   refine aC.call (aB (args:=#[vp eP,.iface tt (tv)]) rfl cx.sees rfl (by kernel_rfl) (aI (cx.ou 24) (cx.ou 25))) ?_
   refine(vu hR (iR _ _ _ wk.pos wk.st wk.fm wk.fin ps _ (cx.bi 1 rfl) (fun W hW=>hS.ext (CtxV.joinB cx (cx.init 1 _ rfl) rfl hW).to_ext) hok hoc (by omega) (by omega))).mono ?_
   rintro e W1 ⟨rfl,aM⟩
   refine⟨_,rfl,bJ (E:=eB eP 81 #[vi wk.pos,vi wk.st,.string wk.fm,.bool wk.fin]) [eB eP 81 #[vi w1.pos,vi w1.st,.string w1.fm,.bool w1.fin]] (cx.init 1 _ rfl) rfl rfl aM (fun d g X' hs hb hv hN=>?_)⟩
   have aW:=(hv 26 rfl).1;have aG:=(hv 26 rfl).2
   exact⟨aW.trans rfl,(List.cons.inj hN).1⟩) fun Fb fV=>?_
 refine sqp [.m 23 26,.k 27 (.agg #[vi 0,vi 0,vi 0,.string ((⟨#[]⟩:ByteArray)),.bool false,.slice none 0 0,vi 0]),.k 28 (.bool false),.k 29 (.bool true)] ?_
 refine bF #[vi 0,vi 0,vi 0,.string ByteArray.empty,.bool false,.slice none 0 0,vi 0] fV fun OQ Jd ia=>?_
 refine aD (n:=7) 2 #[vi 0,vi 0,vi 0,.string ((⟨#[]⟩:ByteArray)),.bool false,.slice none 0 0,vi 0] ia fun qk c7=>?_
 refine sqp [.k 13 (.bool false),.k 14 (.bool true)] ?_
 refine aa (wp_seq (wp_seq (sqr (sqp [.k 30 (.bool true),.k 31 (.bool false)] ?_))))
 refine aa (wcf rfl (wp_skip (aa (wp_seq (sqr (sqp [.k 32 (.bool false)] ?_))))))
 refine aa (wcf rfl (wp_skip (ax (aa ?_))))
 refine⟨1000-((i+1)),by omega,?_⟩
 exact⟨(i+1),w1,by omega,by omega,by rw[hrun,show 1000-i=1000-(i+1)+1 by omega,q9 hR],by rw[hon.2.2];exact hwf,rfl,(by kernel_rfl),c7.pk [0,1]⟩
 have hN0:=cO hok (wu (pos:=wk.pos) (st:=wk.st) (fm:=wk.fm) (fin:=wk.fin) hR)
 have hN1:=hN0.len
 have hol:(bC x nd.es).length<=nd.es.length:=List.length_filter_le _ _
 refine ak [0,0,3,7,15,15,15,0,159,447,1023] [[],[],[1],[],[],[],[],[],[4]] [[],[],[2,3],[],[],[],[],[4],[5]] [[],[],[1],[],[],[],[],[],[4]] [.k 24 (vp eP),.k 25 (.iface tt (tv)),.a 26,.a 23,.a 27,.c 28 (.bool true),.c 29 (.bool true),.a 12,.n,.k 13 (.bool true),.k 14 (.bool true)] (fun ix d b X=>match ix with|0|1=>True|2=>d 26= .tuple #[.agg #[vi wk.pos,vi nd.lv,vi nd.right,.string nd.high,.bool nd.dead,.slice (sA (tg (tg (b 26) 0) 5)) nd.es.length (sC (tg (tg (b 26) 0) 5)),vi ((nd.free:Int))],.bool true,.bool true]/\X 2=eB eP 81 #[vi w1.pos,vi w1.st,.string w1.fm,.bool w1.fin]/\X 3=eO 89 3 (.slice (sA (tg (tg (b 26) 0) 5)) nd.es.length (sC (tg (tg (b 26) 0) 5))) nd.es.length (nd.es.flatMap enC)|3=>d 23= .tuple #[.agg #[vi wk.pos,vi nd.lv,vi nd.right,.string nd.high,.bool nd.dead,.slice (sA (tg (tg (b 26) 0) 5)) nd.es.length (sC (tg (tg (b 26) 0) 5)),vi ((nd.free:Int))],.bool true,.bool true]|4=>d 27= .agg #[vi wk.pos,vi nd.lv,vi nd.right,.string nd.high,.bool nd.dead,.slice (sA (tg (tg (b 26) 0) 5)) nd.es.length (sC (tg (tg (b 26) 0) 5)),vi ((nd.free:Int))]|5|6=>True|7=>d 12=vp (pb (b 12))/\X 4=eB (pb (b 12)) 84 #[vi 0,vi 0,vi 0,.string ByteArray.empty,.bool false,.slice none 0 0,vi 0]|8=>X 5=eB (pb (b 12)) 84 #[vi wk.pos,vi nd.lv,vi nd.right,.string nd.high,.bool nd.dead,.slice (sA (tg (tg (b 26) 0) 5)) nd.es.length (sC (tg (tg (b 26) 0) 5)),vi ((nd.free:Int))]|_=>True) [0,2,3,5] [2,3,4,5,6,7,8] [(12,7,4,15),(8,3,1,9),(0,0,3,3),(0,4,3,3)] bm ?_ ?_ ?_
 exact fun ix _ _ _ _ _ _ hs hb hx h=>match ix,h with
 |2,h=>by dsimp only;rw[<-hs 26 rfl,<-hb 26 rfl,<-hx 2 rfl,<-hx 3 rfl];exact h
 |3,h=>by dsimp only;rw[<-hs 23 rfl,<-hb 26 rfl];exact h
 |4,h=>by dsimp only;rw[<-hs 27 rfl,<-hb 26 rfl];exact h
 |7,h=>by dsimp only;rw[<-hs 12 rfl,<-hb 12 rfl,<-hx 4 rfl];exact h
 |8,h=>by dsimp only;rw[<-hb 12 rfl,<-hb 26 rfl,<-hx 5 rfl];exact h
 |0,_|1,_|5,_|6,_|_+9,_=>trivial
 refine⟨?_,?_,?_,?_,?_,?_,?_,trivial⟩
 refine svA fun f b W X cx=>?_
 refine aC.call (aB (args:=#[vp eP,.iface tt (tv)]) rfl cx.sees rfl (by kernel_rfl) (aI (cx.an 0) (cx.an 1))) ?_
 refine(vu hR (iR _ _ _ wk.pos wk.st wk.fm wk.fin ps _ (cx.bi 1 rfl) (fun W hW=>hS.ext (CtxV.joinB cx (cx.init 1 _ rfl) rfl hW).to_ext) hok hoc (by omega) (by omega))).mono ?_
 rintro e W1 ⟨EA4,ec4,rfl,aM⟩
 refine⟨_,rfl,bJ (E:=eB eP 81 #[vi wk.pos,vi wk.st,.string wk.fm,.bool wk.fin]) [eB eP 81 #[vi w1.pos,vi w1.st,.string w1.fm,.bool w1.fin],eO 89 3 (.slice EA4 nd.es.length ec4) nd.es.length (nd.es.flatMap enC)] (cx.init 1 _ rfl) rfl rfl aM (fun d g X' hs hb hv hN=>?_)⟩
 have aW:=(hv 26 rfl).1;have aG:=(hv 26 rfl).2
 exact⟨aW.trans (by rw[aG];rfl),(List.cons.inj hN).1,(by rw[aG];exact(List.cons.inj (List.cons.inj hN).2).1)⟩
 exact sv rfl rfl rfl rfl rfl _ (fun _ _ _ h=>h) (fun b g h=>by rw[h 26 (by decide)]) fun f b W X cx=>cL rfl (dTn (cx.an 2)).1
 exact sv rfl rfl rfl rfl rfl _ (fun _ _ _ h=>h) (fun b g h=>by rw[h 26 (by decide)]) fun f b W X cx=>aU rfl (dTn (cx.an 3)) rfl
 exact xs4 rfl id fun cx=>aU rfl (dTn (cx.an 3)) rfl
 exact xs4 rfl id fun cx=>aU rfl (dTn (cx.an 3)) rfl
 refine svA fun f b W X cx=>?_
 exact aX (cs:=#[vi 0,vi 0,vi 0,.string ByteArray.empty,.bool false,.slice none 0 0,vi 0]) rfl (by kernel_rfl) rfl rfl (fun _ _ _ _ _=> .intro)
 refine svA fun f b W X cx=>?_
 exact aw (n:=7) rfl (dTn (cx.an 7)).1 (dTn (cx.an 4)) (by kernel_rfl) (by kernel_rfl) (by kernel_rfl) cx (dTn (cx.an 7)).2 rfl (nle rfl) (by kernel_rfl) rfl rfl rfl (fun d g X' hs hb hx=>by rw[hb 12,hb 26];exact hx)
 intro d b X E6 hD fU fr ag
 simp only[exq 2 ((dTn (hD 2 lq)).2.1),exq 3 ((dTn (hD 2 lq)).2.2),exq 5 ((dTn (hD 8 lq)))] at fU
 simp only[ed 26 ((dTn (hD 2 lq)).1),ed 23 ((dTn (hD 3 lq))),ed 27 ((dTn (hD 4 lq))),ed 12 ((dTn (hD 7 lq)).1)] at ag
 generalize sA (tg (tg (b 26) 0) 5)=EA26_45,sC (tg (tg (b 26) 0) 5)=ec26_45,pb (b 12)=CG at fU ag
 clear hD;subst ag;clear d b X
 refine aa (wp_seq (wp_seq (sqr (sqp [.k 30 (.bool true),.k 31 (.bool false)] ?_))))
 refine aa (wcf rfl (wp_skip (aa (wp_seq (sqr (sqp [.k 32 (.bool true)] ?_))))))
 refine aa (wct rfl (wp_seq (sqr (sqp [.k 33 (.pointer (some ⟨CG,5,none⟩))] ?_))))
 refine am 3 fU ?_
 refine sqv (.func (.func 33) #[] #[vp l8]) fU (by
   exact sv0 rfl rfl rfl rfl rfl (fun _ _ _ h=>h) fun f b W X cx=>by
    have eW:f (.tmp 10)=vp l8:=(cx.ou 10)
    simp[go_sem,Instr.makeFunc,eW]) fun L1 p6=>?_
 refine jh (.slice EA26_45 ((bC x nd.es).length) ec26_45) (eDe EA26_45 nd.es.length ec26_45 (bC x nd.es)) 2 p6 (by
   refine svA fun f b W X cx=>?_
   refine aC.call (aB (args:=#[.slice EA26_45 nd.es.length ec26_45,.func (.func 33) #[] #[vp l8]]) rfl cx.sees rfl (by kernel_rfl) (aI (cx.ou 34) (cx.ou 35))) ?_
   refine(FR (cx.ri 2 rfl) (by omega) (fun W hW=>(CtxV.keepF cx (cx.init 0 _ rfl) (cx.init 2 _ rfl) rfl rfl (by decide)) W hW)).mono ?_
   rintro e W1 ⟨rfl,aM⟩
   refine⟨_,rfl,bJ (E:=eO 89 3 (.slice EA26_45 nd.es.length ec26_45) nd.es.length (nd.es.flatMap enC)) [eDe EA26_45 nd.es.length ec26_45 (bC x nd.es)] (cx.init 2 _ rfl) rfl rfl aM (fun d g X' hs hb hv hN=>?_)⟩
   have aW:=(hv 36 rfl).1;have aG:=(hv 36 rfl).2
   exact⟨aW.trans rfl,(List.cons.inj hN).1⟩) fun IW lW=>?_
 refine sqp [.m 15 36] ?_
 refine aa (wp_seq (sqr (sqp [.k 37 (vp CG)] ?_)))
 refine am 3 lW ?_
 refine sqp [.m 39 15] ?_
 refine ff (fun o5 o6=> .slice o5 ((ba wk.pos (bC x nd.es)).length) o6) (fun o5 o6=>eO 67 3 (.slice o5 ((ba wk.pos (bC x nd.es)).length) o6) ((ba wk.pos (bC x nd.es)).length) ((ba wk.pos (bC x nd.es)).flatMap edC)) lW (fun cx=>⟨_,(zi wk.pos _ _ _ (bC x nd.es) _ (H9 (CtxV.holdF cx (cx.init 2 _ rfl) rfl)) rfl (by omega)).mono (by rintro e W1 ⟨A4,c4,rfl,ho_,hx⟩;exact⟨_,_,rfl,St.one hx (j9 (n:=(ba wk.pos (bC x nd.es)).length) (xs:=(ba wk.pos (bC x nd.es)).flatMap edC) ho_)⟩),(aI (cx.ou 38) (cx.ou 39))⟩) fun o5 o6 OS Al=>?_
 refine sqp [.m 41 15,.k 42 (vi (((bC x nd.es).length:Int))),.k 43 (.bool (decide (0<((bC x nd.es).length:Int)))),.m 8 40,.m 9 43] ?_
 refine aa (wp_ret (aq (af (aq ?_))))
 refine bpr (.tuple #[.slice o5 ((ba wk.pos (bC x nd.es)).length) o6,.bool (decide (0<((bC x nd.es).length:Int)))]) (cA Tryz.results9 rpt rpt) ?_
 rw[hrun,show 1000-i=(999-i)+1 by omega,qZ hR]
 exact⟨_,_,rfl,Al.pick [4] (by decide) rfl⟩
end
end Go.Proofs.YtjlcoglmjldjbaaGreat
import Derived.Test.YtjlcoglmjldjbaaZ3
import Derived.RangeFuncBox
import Derived.RangeFuncBound
import Derived.RangeFuncCalls
import Derived.RangeFuncLeaves
import Derived.TacticsIn
import Derived.OrdersIn
import Derived.LoopNIn
import Derived.Shelf.Abstract
set_option linter.unusedVariables false
set_option linter.unusedSimpArgs false
set_option maxRecDepth 100000
set_option maxHeartbeats 16000000
namespace Go.Proofs.Ytjlcoglmjldjbaa
section
open Go.RowKit
def pP(n:Int):Int:=(n.tmod 200+200) % 200
def cU(n:Int):ByteArray:=if 0<pP n % 3 then strOfNums [97+pP n % 26]++strOfNums [97+pP n / 26] else strOfNums [97+pP n % 26]
theorem gx(n:Int):(cU n).size<=2:=by
 unfold cU
 split
 rw[ByteArray.size_append,strOfNums_size,strOfNums_size];exact Nat.le_refl 2
 rw[strOfNums_size];exact Nat.le_succ 1
def dD(root:Int)(key:ByteArray)(pg sl:Int):PuT:=⟨root,root,-1,[(bu key pg sl,0,0)],0,0,false⟩
def gv:Nat->List PgS->Int->PuT->List PgS×Int
 |0,ps,nx,_=>(ps,nx)
 |k+1,ps,nx,p=>if p.left=[] then (ps,nx) else gv k (doB ps (aU ps p nx).2.eds) (if (aU ps p nx).2.used then nx+1 else nx) (aU ps p nx).1
def ft(l:List Int):Nat->List PgS×Int
 |0=>(dt 60,1)
 |i+1=>gv 60 (ft l i).1 (ft l i).2 (dD 0 (cU (l.getD i 0)) (1+(i:Int) / 8) (1+(i:Int) % 8))
def fO(l:List Int):List PgS:=(ft l (min l.length 90)).1
theorem mZ(k:Nat)(ps:List PgS)(nx:Int){p:PuT}(h:p.left=[]):gv k ps nx p=(ps,nx):=by
 cases k with
 |zero=>rfl
 |succ k=>rw[gv,if_pos h]
theorem jO{k:Nat}{ps:List PgS}{nx:Int}{p:PuT}(h:p.left≠[]):gv (k+1) ps nx p=gv k (doB ps (aU ps p nx).2.eds) (if (aU ps p nx).2.used then nx+1 else nx) (aU ps p nx).1:=by rw[gv,if_neg h]
def EdM(M:Nat)(l:List EdT):Prop:=∀e∈l,e.2.2.size<=M
structure BdM (M:Nat) (ps:List PgS):Prop where
 its:∀p∈ps,p.2.2.length<=101
 sz:∀p∈ps,∀s∈p.2.2,s.size<=M
theorem BdM.mono{M M':Nat}{ps:List PgS}(h:BdM M ps)(hm:M<=M'):BdM M' ps:=⟨h.its,fun p hp s hs=>Nat.le_trans (h.sz p hp s hs) hm⟩
theorem BdM.do1{M:Nat}{ps:List PgS}{e:EdT}(h:BdM M ps)(he:e.2.2.size<=M):BdM M (bK ps e):=by
 unfold bK
 split
 rename_i hok
 have hok:=of_decide_eq_true hok
 have hg:=(ct (l:=ps) (n:=e.1.toNat) (d:=aP) (by omega)).2
 have key:(edP (ps.getD e.1.toNat aP) e).2.2.length<=101/\∀s∈(edP (ps.getD e.1.toNat aP) e).2.2,s.size<=M:=by
  unfold edP
  split
  exact⟨Nat.zero_le _,fun s hs=>nomatch hs⟩
  refine⟨by rw[ja];have:=h.its _ hg;omega,fun s hs=>?_⟩
  rcases List.mem_or_eq_of_mem_set hs with h1|rfl
  rcases List.mem_append.1 h1 with h1|h1
  exact h.sz _ hg s h1
  rw[(List.mem_replicate.1 h1).2];exact Nat.zero_le _
  exact he
 refine⟨fun p hp=>?_,fun p hp s hs=>?_⟩
 rcases List.mem_or_eq_of_mem_set hp with h1|rfl
 exact h.its p h1
 exact key.1
 rcases List.mem_or_eq_of_mem_set hp with h1|rfl
 exact h.sz p h1 s hs
 exact key.2 s hs
 exact h
theorem BdM.do{M:Nat}:∀{l:List EdT}{ps:List PgS},BdM M ps->EdM M l->BdM M (doB ps l)
 | [],ps,h,_=>h
 |e::l,ps,h,he=>BdM.do (l:=l) (h.do1 (he e (by simp))) (fun x hx=>he x (by simp[hx]))
theorem BdM.ok{M:Nat}{ps:List PgS}(h:BdM M ps)(hM:M<=900000)(hl:ps.length<=1000):OkS ps:=⟨hl,h.its,fun p hp s hs=>Nat.le_trans (h.sz p hp s hs) hM⟩
theorem uB{M:Nat}{ps:List PgS}{x:Int}{n:NoD}(hok:BdM M ps)(h:ao ps x=some n):n.high.size<=M/\∀e∈n.es,e.1.size<=M:=by
 rw[gH] at h
 split at h
 rename_i hb
 have hb:=of_decide_eq_true hb
 have hv:∀s∈(pgV ps x).2.2,s.size<=M:=by
  rw[pgV,if_pos hb]
  exact hok.sz _ (ct (l:=ps) (n:=x.toNat) (d:=aP) (by omega)).2
 obtain⟨y,l,h1,h2,h3,rfl⟩:=ee h
 rw[h1] at hv
 refine⟨?_,fun e he=>?_⟩
 have:=hv y (by simp)
 show (y.extract 4 y.size).size<=M
 rw[ByteArray.size_extract];omega
 obtain⟨k,hk,rfl⟩:=List.getElem_of_mem he
 have h5:=pU (lv:=(aI y 0 1:Int)) (l:=bp 1 l) (M:=M) (fun p hp=>hv _ (List.mem_cons_of_mem _ (kI hp).1)) k
 rwa [List.getD_eq_getElem?_getD,List.getElem?_eq_getElem hk] at h5
 cases h
theorem fB(lv rt:Int)(d:Bool)(hi:ByteArray):(hdB lv rt d hi).size=hi.size+4:=by
 rw[hdB,ByteArray.size_append,ByteArray.size_append,cT,bf];omega
theorem m7(lv k:Int)(e:ByteArray):(itB lv k e).size<=e.size+2:=by
 unfold itB;split
 rw[ByteArray.size_append,bf];exact Nat.le_refl _
 omega
theorem ye{pg lv:Int}{M:Nat}:∀{l:List EnD}{i:Nat},(∀e∈l,e.1.size<=M)->EdM (M+10) (dC pg lv i l)
 | [],_,_=>fun e he=>nomatch he
 |x::l,i,h=>fun e he=>by
  rw[dC] at he
  rcases List.mem_cons.1 he with rfl|he
  have:=m7 lv x.2.2 x.1
  have:=h x (by simp)
  show (itB lv x.2.2 x.1).size<=M+10
  omega
  exact ye (fun y hy=>h y (by simp[hy])) e he
theorem EdM.app{M:Nat}{a b:List EdT}(ha:EdM M a)(hb:EdM M b):EdM M (a++b):=fun e he=>by
 rcases List.mem_append.1 he with h|h
 exact ha e h
 exact hb e h
theorem ui{pg lv rt:Int}{hi:ByteArray}{M:Nat}{l:List EnD}(hh:hi.size<=M)(h:∀e∈l,e.1.size<=M):EdM (M+10) (aE pg lv rt hi l):=by
 refine EdM.app (fun e he=>?_) (ye h)
 simp only[List.mem_cons,List.not_mem_nil,or_false] at he
 rcases he with rfl|rfl
 show (strOfNums [2]).size<=M+10
 rw[strOfNums_size];simp
 show (hdB lv rt false hi).size<=M+10
 rw[fB];omega
theorem nS(pg:Int)(M:Nat)(l:List EnD):EdM M (aA pg l):=fun e he=>by
 obtain⟨x,_,rfl⟩:=List.mem_map.1 he
 exact Nat.zero_le _
theorem EdM.one{M:Nat}{p s:Int}{x:ByteArray}(h:x.size<=M):EdM M [(p,s,x)]:=fun e he=>by rw[List.mem_singleton] at he;subst he;exact h
theorem yr{n:NoD}{M:Nat}(h:∀e∈n.es,e.1.size<=M):(bN n).size<=M:=cH h _
structure PuM (M k:Nat) (p:PuT):Prop where
 left:∀t∈p.left,t.1.size<=M/\0<=t.2.1/\t.2.1<=M
 len:p.left.length<=k
theorem sF{M k:Nat}{ps:List PgS}{p:PuT}{fresh:Int}(hb:BdM M ps)(hp:PuM M k p):EdM (M+10) (aU ps p fresh).2.eds/\PuM (M+10) (k+1) (aU ps p fresh).1:=by
 have hnil:EdM (M+10) []:=fun e he=>nomatch he
 have gB:PuM (M+10) (k+1) p:=⟨fun t ht=>by have:=hp.left t ht;exact⟨by omega,by omega,by omega⟩,by have:=hp.len;omega⟩
 unfold aU
 cases hl:p.left with
 |nil=>exact⟨hnil,fun t ht=>(nomatch ht),Nat.zero_le _⟩
 |cons t l=>
  have hL:∀x∈t::l,x.1.size<=M+10/\0<=x.2.1/\x.2.1<=(M+10:Nat):=fun x hx=>gB.left x (by rw[hl];exact hx)
  have hK:(t::l).length<=k+1:=by rw[<-hl];exact gB.len
  have ht:=hp.left t (by rw[hl];simp)
  cases hn:ao ps p.pos with
  |none=>exact⟨hnil,hL,hK⟩
  |some n=>
   have hz:=uB hb hn
   dsimp only
   split
   split
   exact⟨hnil,hL,hK⟩
   exact⟨hnil,hL,hK⟩
   split
   exact⟨hnil,hL,hK⟩
   split
   exact⟨hnil,hL,hK⟩
   split
   refine⟨?_,fun x hx=>hL x (by simp[hx]),by rw[List.length_cons] at hK;show l.length<=k+1;omega⟩
   dsimp only
   split
   exact hnil
   have:=m7 t.2.1 t.2.2 t.1
   exact EdM.one (by omega)
   split
   exact⟨hnil,hL,hK⟩
   split
   refine⟨?_,hL,hK⟩
   refine EdM.app (EdM.app (EdM.app (ui (Nat.zero_le _) hz.2) (EdM.one ?_)) (nS _ _ _)) (EdM.one ?_)
   rw[fB];show 0+4<=M+10;omega
   have:=m7 1 fresh ay
   have h4:ay.size=4:=by decide
   omega
   refine⟨?_,fun x hx=>?_,?_⟩
   refine EdM.app (EdM.app (ui hz.1 fun e he=>hz.2 e (List.mem_of_mem_drop he)) (EdM.one ?_)) (nS _ _ _)
   rw[fB];have:=yr hz.2;omega
   dsimp only at hx
   rcases List.mem_append.1 hx with h1|h1
   exact hL x h1
   rw[List.mem_singleton] at h1
   subst h1
   have:=yr hz.2
   exact⟨by dsimp only;omega,by dsimp only;omega,by dsimp only;omega⟩
   show (t::l++[_]).length<=k+1
   rw[List.length_append]
   have:=hp.len
   rw[hl] at this
   exact Nat.succ_le_succ this
theorem ql(pg lv:Int):∀(l:List EnD) (i:Nat),(dC pg lv i l).length=l.length
 | [],_=>rfl
 |x::l,i=>by rw[dC,List.length_cons,ql pg lv l,List.length_cons]
theorem tV{ps:List PgS}{p:PuT}{fresh:Int}(hok:OkS ps):(aU ps p fresh).2.eds.length<=1000:=by
 unfold aU
 cases hl:p.left with
 |nil=>exact Nat.zero_le _
 |cons t l=>
  cases hn:ao ps p.pos with
  |none=>exact Nat.zero_le _
  |some n=>
   have hz:=(e8 hok hn).len
   dsimp only
   split
   split<;>exact Nat.zero_le _
   split
   exact Nat.zero_le _
   split
   exact Nat.zero_le _
   split
   dsimp only;split
   exact Nat.zero_le _
   exact Nat.le_of_ble_eq_true rfl
   split
   exact Nat.zero_le _
   split
   simp only[bT,aE,aA,List.length_append,ql,List.length_map,List.length_cons,List.length_nil];omega
   simp only[bR,aE,aA,dX,List.length_append,ql,List.length_map,List.length_cons,List.length_nil,List.length_drop];omega
theorem ig(n:Nat):BdM 16 (dt n)/\(dt n).length=n:=by
 refine⟨BdM.do ⟨fun p hp=>?_,fun p hp s hs=>?_⟩ fun e he=>?_,?_⟩
 rw[(List.mem_replicate.1 hp).2];decide
 rw[(List.mem_replicate.1 hp).2] at hs;exact nomatch hs
 simp only[dU,List.mem_cons,List.not_mem_nil,or_false] at he
 rcases he with rfl|rfl
 show (strOfNums [2]).size<=16;rw[strOfNums_size];decide
 show (hdB 0 (-1) false ⟨#[]⟩).size<=16;rw[fB];decide
 rw[dt,b5,List.length_replicate]
end
section
open Go.RowKit
theorem BkU.mono{S T:List Nat}{w:World}{bk:Nat}{ps:List PgS}(h:BkU T w bk ps)(hs:∀k∈S,k∈T):BkU S w bk ps:=by
 obtain⟨LA,lc,Ps,h1,h2⟩:=h
 exact⟨LA,lc,Ps,h1,fun W hW=>h2 W (hW.mono fun k _ hk=>hs k hk)⟩
theorem DN{b bk:Nat}{ps:List PgS}{p:PuT}{fresh:Int}{fp:List Nat}{w:World}(h:(ePu b p fp).holds w)(hB:BkU fp w bk ps)(hne:p.left≠[])(hok:OkS ps)(h10:p.left.length<=10000)(hte:∀t∈p.left,t.1.size<=900000/\0<=t.2.1/\t.2.1<=90000)(af: -1<=fresh/\fresh<=1000000):
  Calls Try.prog 17 #[.pointer (some ⟨b,0,none⟩),.pointer (some ⟨bk,0,none⟩),.int .i64 fresh] w (qI b (aU ps p fresh) fp w):=by
 obtain⟨A,c,g,hfp,hbg,hc,hAg,hlt,hb,hA⟩:=h
 obtain⟨root,pos,leaf,left,fro,to,spl⟩:=p
 cases left with
 |nil=>exact absurd rfl hne
 |cons t lf=>
  obtain⟨te,tl,tk⟩:=t
  obtain⟨la,rfl,_,_⟩:=hA 0 (.string te) rfl
  have hg:=hAg la rfl (by simp)
  have ht:=hte (te,tl,tk) (by simp)
  refine Fp b bk root pos leaf fro to spl la _ c te tl tk lf ps fresh fp g w hb (fun W hW=>?_) rfl hc h10 (hB.mono (by rw[hfp];simp)) hok hfp hbg hlt hg ht.1 ht.2 af
  refine dZ hA fun ad e _=>?_
  rw[<-Option.some.inj e]
  exact hW.block _ (hlt _ hg) (fun hm=>hbg (by rw[List.mem_singleton] at hm;exact hm ▸ hg))
theorem CB{b bk:Nat}{ps:List PgS}{p:PuT}{fresh:Int}{fp:List Nat}{w:World}{R:PuT×GoT}(hR:aU ps p fresh=R)(hc:Calls Try.prog 17 #[.pointer (some ⟨b,0,none⟩),.pointer (some ⟨bk,0,none⟩),.int .i64 fresh] w (qI b (aU ps p fresh) fp w)):Calls Try.prog 17 #[.pointer (some ⟨b,0,none⟩),.pointer (some ⟨bk,0,none⟩),.int .i64 fresh] w (qI b R fp w):=hR ▸ hc
section
variable{P:Program}{ops:Array Oper}{L:List Nat}{a0:Act}{w0:World}{bor:List Nat}{X0:List Ent}{us cr kl:List (List Nat)}
 {D:Nat->(Tmp->Value)->(Tmp->Value)->(Nat->Ent)->Prop}{i:Nat}{o:Oper}{ρ:Operand->Value}{β:Tmp->Value}{W:World}{X:Nat->Ent}
theorem CtxV.bkU{q q':Nat}{bk:Nat}{ps:List PgS}{fb:List Nat}{F:Ent}(cx:CtxV ops L a0 w0 bor X0 us D i ρ β W X)(hX:X q=eBk bk ps fb)(hX':X q'=F)(hu:(atV us i).contains q=true)(hu':(atV us i).contains q'=true)(hne:q≠q'):BkU F.fp W bk ps:=by
 subst hX'
 refine BkU.of (CtxV.holdF cx hX hu) fun k hk=>⟨CtxV.ltF cx hX hu k hk,fun hm=>?_⟩
 exact cx.ap q q' hu hu' hne k (by rw[hX];exact hk) hm
theorem xF{t:TypeId}{x:Operand}{b:Nat}{p:PuT}{fp:List Nat}{q:Nat}{d:Tmp}(h:o.op= .load t x)(hx:ρ x= .pointer (some ⟨b,3,none⟩))(ha:jV P t=some false)(cx:CtxV ops L a0 w0 bor X0 us D i ρ β W X)(hX:X q=ePu b p fp)(hu:(atV us i).contains q=true)(hd:o.dst=some d)(hc:atV cr i=[])(hk:atV kl i=[])
  (hD:∀(f a:Tmp->Value) (X':Nat->Ent),(∀t,t≠d->f t=ρ (.tmp t))->(∀t,t≠d->a t=β t)->f d= .slice (sA (a d)) p.left.length (sC (a d))->D i f a X'):ax P o ρ W (cy cr kl D i o.dst ρ β W X):=by
 obtain⟨A,c,g,_,_,_,_,_,hB,_⟩:=CtxV.holdF cx hX hu
 have hr:(execOp ρ o).run P W= .ok (.value (.slice A p.left.length c)) W:=ae h ha hx (hB.cell 3)
 refine ax.value hr ⟨[],by rw[hc];rfl,⟨Upd.refl _ _,(fun e he=>nomatch he),List.Pairwise.nil⟩,fun f a X' hs hv hb hbv hx' hN=>hD f a X' (fun t ht=>hs t (by rw[hd];simpa using ht.symm)) (fun t ht=>hb t (by rw[hd];simpa using ht.symm)) ?_⟩
 rw[hv d hd,hbv d hd];rfl
end
def HY(p:PuT)(w:World)(e:Ending)(w':World):Prop:=∃b fp,e= .returned (.pointer (some ⟨b,0,none⟩))/\St w [] [ePu b p fp] w'
theorem Hs{w W:World}{b:Nat}{p:PuT}{A:Option Addr}{c:Nat}(h:St w [] [eB b 102 (puC p A c),eO 111 3 (.slice A p.left.length c) p.left.length (p.left.flatMap tkC)] W):∃fp,St w [] [ePu b p fp] W:=by
 have h1:=h.ok (eB b 102 (puC p A c)) (by simp)
 have h3:=h.ok (eO 111 3 (.slice A p.left.length c) p.left.length (p.left.flatMap tkC)) (by simp)
 have hp:=List.pairwise_pair.1 h.apart
 have hB:Blk W b 102 (puC p A c):=h1.holds
 have hO:W.ownsRow 0 111 3 (.slice A p.left.length c) p.left.length (p.left.flatMap tkC):=h3.holds
 refine⟨b::(Value.slice A p.left.length c).ownBlock.toList,h.upd,fun x hx=>?_,List.pairwise_singleton _ _⟩
 rw[List.mem_singleton] at hx
 subst hx
 refine⟨⟨A,c,_,rfl,fun hm=>hp b (by simp[eB]) hm,d4 hO,fun ad e hl=>?_,fun k hk=>(h3.own k hk).2,hB,At.of_ownN hO⟩,sV _ _ _,fun k hk=>?_⟩
 subst e
 rcases hO.2 with ⟨hv,hm⟩|⟨g',cap,cur,hv,_⟩
 injection hv with h5;cases h5
 injection hv with h5;injection h5 with h5;subst h5;simp[Value.ownBlock]
 rcases List.mem_cons.1 hk with e|hk
 rw[e];exact h1.own b (by simp[eB])
 exact h3.own k hk
theorem Fx(n:Int):0<=pP n/\pP n<200:=⟨Int.emod_nonneg _ (by decide),Int.emod_lt_of_pos _ (by decide)⟩
theorem pO(n:Int)(w:World):
  Calls Try.prog 13 #[.int .i64 n] w (Ret (.string (cU n)) w):=by
 have h1_:=Int.lt_tmod_of_pos n (b:=200) (by decide)
 have h2_:=Int.tmod_lt_of_pos n (b:=200) (by decide)
 go_enter Try.func13,Try.ntmps13
 have aq:=St.start w
 refine wp_seq (sqr (sqp [.k 2 (.string ⟨#[]⟩)] ?_))
 refine aa (wp_seq (sqr (sqp [.m 4 0,sRe 5 .i64 n 200 (n.tmod 200) (rfl),sI 6 ((n.tmod 200)+200) (by omega),sRe 7 .i64 ((n.tmod 200)+200) 200 (((n.tmod 200)+200) % 200) (Int.tmod_eq_emod_of_nonneg (by omega)),.m 0 7] ?_)))
 refine aa (wp_seq ?_)
 obtain⟨m,Jz⟩:∃z,((n.tmod 200)+200) % 200=z:=⟨_,rfl⟩
 rw[Jz]
 have hm_:pP n=m:=Jz
 have hmb:=Fx n
 rw[hm_] at hmb
 refine sqr (sqp [.m 8 0,sRe 9 .i64 m 26 (m % 26) (Int.tmod_eq_emod_of_nonneg (by omega)),sI 10 (97+(m % 26)) (by omega),sW 11 .u8 (97+(m % 26)) (97+(m % 26)) (IntWalk.u8_in _ (by omega))] ?_)
 refine lS (fun x_=>sA x_) (fun rX=> .slice rX 1 1) (fun rX=>eO 5 1 (.slice rX 1 1) 1 ([.int .u8 (97+(m % 26))])) aq (by
   refine svA fun a c W X cx=>?_
   have D9:a (.tmp 11)= .int .u8 (97+(m % 26)):=(cx.ou 11)
   exact bY (e:=5) (xs:=[.int .u8 (97+(m % 26))]) rfl (by simp[go_sem,D9]) rfl (by decide) rfl rfl (fun _ _ _ _ _=> .intro)) fun rX pH cA=>?_
 refine sql (.string (strOfNums ([(97+(m % 26))]))) cA (fun cx=>cd (e:=5) rfl (by kernel_rfl) (by kernel_rfl) (by kernel_rfl) (cx.ou 12) (cx.ri 0 rfl)) ?_
 refine sqp [.m 3 13] ?_
 refine aa (wp_seq (wp_seq (sqr (sqp [.m 14 0,sRe 15 .i64 m 3 (m % 3) (Int.tmod_eq_emod_of_nonneg (by omega)),.k 16 (.bool (decide (0<m % 3)))] ?_))))
 refine aa (wds (fun ip lw=>?_) fun ip lw=>?_)
 refine sqr (sqp [.m 17 3,.m 18 0,sQu 19 .i64 m 26 (m / 26) (by rw[Int.tdiv_eq_ediv_of_nonneg (by omega)];exact IntWalk.i64_in _ (by omega)),sI 20 (97+(m / 26)) (by omega),sW 21 .u8 (97+(m / 26)) (97+(m / 26)) (IntWalk.u8_in _ (by omega))] ?_)
 refine lS (fun x_=>sA x_) (fun rY=> .slice rY 1 1) (fun rY=>eO 5 1 (.slice rY 1 1) 1 ([.int .u8 (97+(m / 26))])) cA (by
   refine svA fun a c W X cx=>?_
   have Ea:a (.tmp 21)= .int .u8 (97+(m / 26)):=(cx.ou 21)
   exact bY (e:=5) (xs:=[.int .u8 (97+(m / 26))]) rfl (by simp[go_sem,Ea]) rfl (by decide) rfl rfl (fun _ _ _ _ _=> .intro)) fun rY uk cK=>?_
 refine sql (.string (strOfNums ([(97+(m / 26))]))) cK (fun cx=>cd (e:=5) rfl (by kernel_rfl) (by kernel_rfl) (by kernel_rfl) (cx.ou 22) (cx.ri 1 rfl)) ?_
 refine sqp [sS 24 (strOfNums ([(97+(m % 26))])) (strOfNums ([(97+(m / 26))])) (by rw[strOfNums_size,strOfNums_size];exact Nat.le_of_ble_eq_true rfl),.m 3 24] ?_
 refine aa (wp_seq (sqr (sqp [.m 25 3,.m 2 25] ?_)))
 refine aa (wp_ret ?_)
 refine bpr (.string ((strOfNums ([(97+(m % 26))]))++(strOfNums ([(97+(m / 26))])))) (ak Try.results13 rpt) ?_
 exact Ret.of (by rw[cU,hm_,if_pos (by omega)]) cK.ext
 refine wp_skip (aa (wp_seq (sqr (sqp [.m 25 3,.m 2 25] ?_))))
 refine aa (wp_ret ?_)
 refine bpr (.string (strOfNums ([(97+(m % 26))]))) (ak Try.results13 rpt) ?_
 exact Ret.of (by rw[cU,hm_,if_neg (by omega)]) cA.ext
theorem yN(root:Int)(key:ByteArray)(pg sl:Int)(w:World)(hk:key.size<=1000000):
  Calls Try.prog 15 #[.int .i64 root,.string key,.agg #[.int .i64 pg,.int .i64 sl]] w (HY (dD root key pg sl) w):=by
 go_enter Try.func15,Try.ntmps15
 have aq:=St.start w
 refine wp_seq (sqr ?_)
 refine bX #[vi pg,vi sl] aq fun bv W1 aC=>?_
 refine sqp [.k 6 (.pointer none)] ?_
 refine aa (wp_seq (sqr (sqp [.m 7 0,.m 8 0,.m 9 1] ?_)))
 refine d9 0 2 aC ?_
 refine sqk (.string (bu key pg sl)) aC (fun cx=>⟨_,yZ key pg sl _ (by omega),(aK (cx.ou 9) (cx.ou 10))⟩) fun W7 bF=>?_
 refine sqp [.k 12 (.agg #[.string (bu key pg sl),vi 0,vi 0])] ?_
 refine pT 111 3 1 [.string (bu key pg sl),vi 0,vi 0] bF (@fun a b W X cx=>by have Ng:a (.tmp 12)= .agg #[.string (bu key pg sl),vi 0,vi 0]:=(cx.ou 12);simp[go_sem,Ng]) fun E2 W9 bh=>?_
 refine sqp [.k 14 (.agg #[vi root,vi root,vi (-1),.slice ((some ⟨E2,0,none⟩)) 1 1,vi 0,vi 0,.bool false])] ?_
 refine bX #[vi root,vi root,vi (-1),.slice ((some ⟨E2,0,none⟩)) 1 1,vi 0,vi 0,.bool false] bh fun JA pH cA=>?_
 refine sqp [.m 6 15] ?_
 refine aa (wp_ret ?_)
 refine bpr (vp JA) (ak Try.results15 rpt) ?_
 obtain⟨fp_,hgw_⟩:=Hs (p:=dD root key pg sl) (cA.pick [2,1] (by decide) rfl)
 exact⟨_,_,rfl,hgw_⟩
theorem CQ:∀w,Calls Try.prog 45 #[.int .i64 60] w (wr (dt 60) w):=fun w=>rA 60 w (by decide)
theorem zd(A:Option Addr)(n c:Nat)(l:List Int)(w:World)(hA:At w A (l.map (Value.int .i64)))(hn:l.length=n):
  Calls Try.prog 11 #[.slice A n c] w (wr (fO l) w):=by
 go_enter Try.func11,Try.ntmps11
 have aq:=St.start w
 refine wp_seq (sqr (sqp [.k 2 (.pointer none)] ?_))
 refine aa (wp_seq (sqr ?_))
 refine pd (fun cI=>vp cI) (fun cI qt=>eBk cI (dt 60) qt) aq (fun cx=>⟨_,(CQ _).mono (by rintro e W1 ⟨B4,fp4,rfl,aR⟩;exact⟨_,_,rfl,aR⟩),(br (cx.co _))⟩) fun cI qt W2 aV=>?_
 refine sqp [.m 3 9] ?_
 refine aa (wp_seq (sqr (sqp [.k 4 (vi 1)] ?_)))
 refine aa (wp_seq (wp_seq (sqr (sqp [.k 5 (vi 0)] ?_))))
 refine aa (wp_block ?_)
 refine aX (fun t_ mz az W=>∃i:Nat,∃ps0:List PgS,∃nx0:Int,∃fb0:List Nat,i<=min n 90/\ft l i=(ps0,nx0)/\BdM (16+600*i) ps0/\ps0.length=60/\(1<=nx0/\nx0<=1+60*i)/\mz=min n 90-i/\az=⟨(ovr (jv az) [(4,4,0,[vi nx0,vi ((i:Int))]),(0,6,3,[]),(1,10,47,[])] t_).toArray,[]⟩/\St w [] [eBk cI ps0 fb0] W) (min n 90-0) ?_ ?_
 exact⟨0,(dt 60),1,qt,Nat.zero_le _,rfl,(ig 60).1,(ig 60).2,by omega,rfl,(by kernel_rfl),aV.pk [0]⟩
 rintro n6 a6 W6 ⟨i,ps0,nx0,fb0,hi,hg,hb0,hl0,hn0,rfl,hj_,ci⟩
 refine ovz hj_ fun IJ=>?_
 refine wp_seq (wp_seq (sqr (sqp [.m 10 5,.m 11 0,.k 12 (vi ((n:Int))),.k 13 (.bool (decide ((i:Int)<(n:Int)))),.m 14 13] ?_)))
 refine sqw 14 [15,16] rfl (fun _=>sqp [.m 15 5,.k 16 (.bool (decide ((i:Int)<90)))] sqe) ?_
 refine sqp [sPa 17 (decide ((i:Int)<(n:Int))) (decide ((i:Int)<90))] ?_
 refine aa (wbs (fun dp=>?_) fun dp=>?_)
 have eo:=dp
 simp only[zB] at eo
 obtain⟨BU,BW⟩:=eo
 refine wp_skip (aa (wp_seq (wp_block (wp_seq (sqr (sqp [.m 20 0,.m 21 5] ?_))))))
 refine sql (.pointer (some ((ad A).add i))) ci (fun cx=>bo (e:=3) (m:=i) rfl (by kernel_rfl) (by kernel_rfl) (cx.ou 20) (cx.ou 21) (by omega) (by omega) (hA.ext cx.upd.to_ext) (by rw[List.length_map];omega)) ?_
 refine sql (vi (l.getD i 0)) ci (fun cx=>ae rfl (by kernel_rfl) (cx.ou 22) (At.cellAd (hA.ext cx.upd.to_ext) (qi (by omega)))) ?_
 refine sqk (.string (cU (l.getD i 0))) ci (fun cx=>⟨_,pO (l.getD i 0) _,(br (cx.ou 23))⟩) fun wD dL=>?_
 refine sqp [.m 25 5,sQu 26 .i64 (i:Int) 8 ((i:Int) / 8) (by rw[Int.tdiv_eq_ediv_of_nonneg (by omega)];exact IntWalk.i64_in _ (by omega)),sI 27 (1+((i:Int) / 8)) (by omega),.m 28 5,sRe 29 .i64 (i:Int) 8 ((i:Int) % 8) (Int.tmod_eq_emod_of_nonneg (by omega)),sI 30 (1+((i:Int) % 8)) (by omega),.k 31 (.agg #[vi (1+((i:Int) / 8)),vi (1+((i:Int) % 8))])] ?_
 refine pd (fun fw=>vp fw) (fun fw zA=>ePu fw (dD 0 (cU (l.getD i 0)) (1+((i:Int) / 8)) (1+((i:Int) % 8))) zA) dL (fun cx=>⟨_,(yN 0 (cU (l.getD i 0)) (1+((i:Int) / 8)) (1+((i:Int) % 8)) _ (Nat.le_trans (gx _) (by decide))).mono (by rintro e W1 ⟨B4,fp4,rfl,aR⟩;exact⟨_,_,rfl,aR⟩),(eC (cx.co _) (cx.ou 24) (cx.ou 31))⟩) fun fw zA I4 iR=>?_
 refine sqp [.m 6 32] ?_
 refine aa (wp_seq (sqr (sqp [.k 7 (vi 0)] ?_)))
 refine aa (wp_block ?_)
 obtain⟨p0,kU⟩:∃z,(dD 0 (cU (l.getD i 0)) (1+((i:Int) / 8)) (1+((i:Int) % 8)))=z:=⟨_,rfl⟩
 rw[kU] at iR
 have hpu0:PuM (16+600*i) 1 p0:=by rw[<-kU];exact⟨fun t ht=>by rw[dD,List.mem_singleton] at ht;subst ht;have:=gx (l.getD i 0);exact⟨by rw[dG];omega,Int.le_refl 0,by show (0:Int)<= _;omega⟩,Nat.le_refl _⟩
 have hrun0:ft l (i+1)=gv 60 ps0 nx0 p0:=by rw[ft,hg,<-kU]
 refine aX (fun t_ mz az W=>∃k:Nat,∃ps:List PgS,∃nx:Int,∃p:PuT,∃fb:List Nat,∃fpu:List Nat,k<=60/\ft l (i+1)=gv (60-k) ps nx p/\BdM (16+600*i+10*k) ps/\ps.length=60/\(1<=nx/\nx<=1+60*i+k)/\PuM (16+600*i+10*k) (k+1) p/\mz=60-k/\az=⟨(ovr (jv az) [(4,4,0,[vi nx]),(2,7,0,[vi ((k:Int))]),(0,8,1,[]),(24,33,24,[])] t_).toArray,[]⟩/\St w [] [eBk cI ps fb,ePu fw p fpu] W) (60-0) ?_ ?_
 exact⟨0,ps0,nx0,p0,fb0,zA,Nat.zero_le _,hrun0,hb0,hl0,by omega,hpu0,rfl,(by kernel_rfl),iR.pk [0,1]⟩
 rintro RI a31 JB ⟨k,ps,nx,p,fb,fpu,hk,hrun,hpb,kV,hnx,hpu,rfl,hj_,kh⟩
 refine ovz hj_ fun QB=>?_
 refine wp_seq (wp_seq ?_)
 rcases Bool.eq_false_or_eq_true (decide ((k:Int)<60)) with jo|jo
 have rR:=of_decide_eq_true jo
 refine aj [0,1,3,7,15,31,63,127,255,511] [[],[],[],[],[],[],[1]] [] [] [.k 33 (vi ((k:Int))),.e 34 (.bool (decide ((k:Int)<60))) (.bool true) (congrArg Value.bool jo),.k 35 (.bool true),.k 36 (vp fw),.k 37 (vp fw),.k 38 (.pointer (some ⟨fw,3,none⟩)),.a 39,.c 40 (vi ((p.left.length:Int))),.k 41 (.bool (decide (0<(p.left.length:Int)))),.k 42 (.bool (decide (0<(p.left.length:Int))))] (fun ix d b X=>match ix with|0|1|2|3|4|5=>True|6=>d 39= .slice (sA (b 39)) p.left.length (sC (b 39))|_=>True) [0,1] [6,7] [(33,0,10,43)] kh ?_ ?_ ?_
 exact fun ix _ _ _ _ _ _ hs hb hx h=>match ix,h with
 |6,h=>by dsimp only;rw[<-hs 39 rfl,<-hb 39 rfl];exact h
 |0,_|1,_|2,_|3,_|4,_|5,_|_+7,_=>trivial
 refine⟨?_,?_,trivial⟩
 refine tU rfl rfl rfl (fun _ _ _ _ cx=>(cx.an 2)) fun f b W X cx=>?_
 exact xF rfl (cx.an 5) (by kernel_rfl) cx (cx.init 1 _ rfl) rfl rfl rfl rfl (fun d g X' hs hb hv=>hv)
 exact xs5 rfl id (fun cx=>(cx.an 2)) fun cx=>ub (e:=111) rfl (by kernel_rfl) (dTn (cx.an 6))
 intro d b X BY hD f8 fr af
 simp only[ed 39 ((dTn (hD 6 lq)))] at af
 generalize sA (b 39)=Ow,sC (b 39)=Ox at af
 clear hD;subst af;clear d b X
 refine aa (wds (fun Nh LC=>?_) fun Nh LC=>?_)
 refine wp_skip (aa (wp_seq (wp_block (wp_seq ?_))))
 have hpn:p.left≠[]:=List.ne_nil_of_length_pos (by omega)
 have hok:=hpb.ok (by omega) (by omega)
 have hpl:=hpu.len
 have hte:∀t∈p.left,t.1.size<=900000/\0<=t.2.1/\t.2.1<=90000:=fun t ht=>by have h_:=hpu.left t ht;omega
 have hss:=sF (fresh:=nx) hpb hpu
 have hed9:=tV (fresh:=nx) (p:=p) hok
 obtain⟨R,hR⟩:∃z,aU ps p nx=z:=⟨_,rfl⟩
 rw[hR] at hss hed9
 have hedm:=hss.1
 have hpu2:=hss.2
 have hedl:R.2.eds.length<=100000:=by omega
 refine aj [0,0,0,7,0,31] [[],[],[],[1,0],[],[4]] [[],[],[],[2,3],[4],[5]] [[],[],[],[1],[],[4]] [.k 45 (vp fw),.k 46 (vp cI),.k 47 (vi nx),.a 48,.a 8,.n] (fun ix d b X=>match ix with|0|1|2=>True|3=>d 48= .agg #[.slice (sA (tg (b 48) 0)) R.2.eds.length (sC (tg (b 48) 0)),.bool R.2.used,vi R.2.err]/\X 2=ePu fw R.1 ((X 2).fp)/\X 3=eO 99 3 (.slice (sA (tg (b 48) 0)) R.2.eds.length (sC (tg (b 48) 0))) R.2.eds.length (R.2.eds.flatMap edC)|4=>d 8=vp (pb (b 8))/\X 4=eB (pb (b 8)) 39 #[.slice none 0 0,.bool false,vi 0]|5=>X 5=eB (pb (b 8)) 39 #[.slice (sA (tg (b 48) 0)) R.2.eds.length (sC (tg (b 48) 0)),.bool R.2.used,vi R.2.err]|_=>True) [0,2,3,5] [3,4,5] [(8,4,1,9),(36,0,4,40)] f8 ?_ ?_ ?_
 exact fun ix _ _ _ _ _ _ hs hb hx h=>match ix,h with
 |3,h=>by dsimp only;rw[<-hs 48 rfl,<-hb 48 rfl,<-hx 2 rfl,<-hx 3 rfl];exact h
 |4,h=>by dsimp only;rw[<-hs 8 rfl,<-hb 8 rfl,<-hx 4 rfl];exact h
 |5,h=>by dsimp only;rw[<-hb 8 rfl,<-hb 48 rfl,<-hx 5 rfl];exact h
 |0,_|1,_|2,_|_+6,_=>trivial
 refine⟨?_,?_,?_,trivial⟩
 refine svA fun f b W X cx=>?_
 refine ax.call (av (args:=#[vp fw,vp cI,vi nx]) rfl cx.sees rfl (by kernel_rfl) (eC (cx.an 0) (cx.an 1) (cx.an 2))) ?_
 refine(CB hR (DN (CtxV.holdF cx (cx.init 1 _ rfl) rfl) (CtxV.bkU cx (cx.init 0 _ rfl) (cx.init 1 _ rfl) rfl rfl (by decide)) hpn hok (by omega) hte (by omega))).mono ?_
 rintro e W1 ⟨A4,c4,rfl,fp4,aR⟩
 refine⟨_,rfl,bw (E:=ePu fw p fpu) [ePu fw R.1 fp4,eO 99 3 (.slice A4 R.2.eds.length c4) R.2.eds.length (R.2.eds.flatMap edC)] (cx.init 1 _ rfl) rfl rfl aR (fun d g X' hs hb hv hN=>?_)⟩
 have aZ:=(hv 48 rfl).1;have aJ:=(hv 48 rfl).2
 exact⟨aZ.trans (by rw[aJ];rfl),v7 ((List.cons.inj hN).1),(by rw[aJ];exact(List.cons.inj (List.cons.inj hN).2).1)⟩
 refine svA fun f b W X cx=>?_
 exact bx (cs:=#[.slice none 0 0,.bool false,vi 0]) rfl (by kernel_rfl) rfl rfl (fun _ _ _ _ _=> .intro)
 refine svA fun f b W X cx=>?_
 exact ar (n:=3) rfl (dTn (cx.an 4)).1 (dTn (cx.an 3)).1 (by kernel_rfl) (by kernel_rfl) (by kernel_rfl) cx (dTn (cx.an 4)).2 rfl (nle rfl) (by kernel_rfl) rfl rfl rfl (fun d g X' hs hb hx=>by rw[hb 8,hb 48];exact hx)
 intro d b X I5 hD fg fr af
 obtain⟨Ca,oE⟩:∃z,sA (tg (b 48) 0)=z:=⟨_,rfl⟩
 obtain⟨Cb,oF⟩:∃z,sC (tg (b 48) 0)=z:=⟨_,rfl⟩
 obtain⟨zC,qu⟩:∃z,pb (b 8)=z:=⟨_,rfl⟩
 have JC:X 2= _:=(dTn (hD 3 lq)).2.1
 obtain⟨E3,xa⟩:∃z,(X 2).fp=z:=⟨_,rfl⟩
 rw[xa] at JC
 clear xa
 simp only[JC,exq 3 ((dTn (hD 3 lq)).2.2),exq 5 ((dTn (hD 5 lq))),oE,oF,qu] at fg
 simp only[ed 48 ((dTn (hD 3 lq)).1),ed 8 ((dTn (hD 4 lq)).1),oE,oF,qu] at af
 clear hD JC oE oF qu;subst af;clear d b X
 refine aa (wp_seq (wp_seq (sqr (sqp [.k 49 (.pointer (some ⟨zC,1,none⟩))] ?_))))
 refine al 3 fg ?_
 refine aa (wbs (fun ef=>?_) fun ef=>?_)
 refine sqr (sqp [.m 51 4,sI 52 (nx+1) (by omega),.m 4 52] ?_)
 refine aa (sqr (sqp [.m 53 3,.k 54 (vp zC)] ?_))
 refine al 3 fg ?_
 refine mF (fun X_=>X_.fp) (.tuple #[]) (fun zD=>eBk cI (doB ps R.2.eds) zD) 0 fg (by
   refine svA fun f b W X cx=>?_
   refine ax.call (av (args:=#[vp cI,.slice Ca R.2.eds.length Cb]) rfl cx.sees rfl (by kernel_rfl) (aK (cx.ou 53) (cx.ou 55))) ?_
   refine(i8 cI ps _ 60 _ _ R.2.eds _ (CtxV.holdF cx (cx.init 0 _ rfl) rfl) (CtxV.ltF cx (cx.init 0 _ rfl) rfl) (CtxV.keepAt cx (cx.init 2 _ rfl) (cx.init 0 _ rfl) rfl rfl (by decide)) hedl kV (by decide) hpb.its).mono ?_
   rintro e W1 ⟨rfl,fp4,aR⟩
   refine⟨_,rfl,bw (E:=eBk cI ps fb) [eBk cI (doB ps R.2.eds) fp4] (cx.init 0 _ rfl) rfl rfl aR (fun d g X' hs hb hv hN=>?_)⟩
   have aZ:=(hv 56 rfl).1;have aJ:=(hv 56 rfl).2
   exact⟨aZ.trans rfl,ij ((List.cons.inj hN).1)⟩) fun zD Mb ff=>?_
 refine aw (aa (sqr (sqp [.m 43 7,sI 44 ((k:Int)+1) (by omega),.m 7 44] ?_)))
 refine aa ?_
 refine⟨60-((k+1)),by omega,?_⟩
 exact⟨(k+1),(doB ps R.2.eds),(nx+1),R.1,zD,E3,by omega,by rw[hrun,show 60-k=60-(k+1)+1 by omega,jO hpn,hR,ef];rfl,(hpb.mono (by omega)).do hedm,by rw[b5];exact kV,by omega,hpu2,rfl,(by kernel_rfl),ff.pk [0,1]⟩
 refine wp_skip (aa (sqr (sqp [.m 53 3,.k 54 (vp zC)] ?_)))
 refine al 3 fg ?_
 refine mF (fun X_=>X_.fp) (.tuple #[]) (fun zE=>eBk cI (doB ps R.2.eds) zE) 0 fg (by
   refine svA fun f b W X cx=>?_
   refine ax.call (av (args:=#[vp cI,.slice Ca R.2.eds.length Cb]) rfl cx.sees rfl (by kernel_rfl) (aK (cx.ou 53) (cx.ou 55))) ?_
   refine(i8 cI ps _ 60 _ _ R.2.eds _ (CtxV.holdF cx (cx.init 0 _ rfl) rfl) (CtxV.ltF cx (cx.init 0 _ rfl) rfl) (CtxV.keepAt cx (cx.init 2 _ rfl) (cx.init 0 _ rfl) rfl rfl (by decide)) hedl kV (by decide) hpb.its).mono ?_
   rintro e W1 ⟨rfl,fp4,aR⟩
   refine⟨_,rfl,bw (E:=eBk cI ps fb) [eBk cI (doB ps R.2.eds) fp4] (cx.init 0 _ rfl) rfl rfl aR (fun d g X' hs hb hv hN=>?_)⟩
   have aZ:=(hv 56 rfl).1;have aJ:=(hv 56 rfl).2
   exact⟨aZ.trans rfl,ij ((List.cons.inj hN).1)⟩) fun zE EU ke=>?_
 refine aw (aa (sqr (sqp [.m 43 7,sI 44 ((k:Int)+1) (by omega),.m 7 44] ?_)))
 refine aa ?_
 refine⟨60-((k+1)),by omega,?_⟩
 exact⟨(k+1),(doB ps R.2.eds),nx,R.1,zE,E3,by omega,by rw[hrun,show 60-k=60-(k+1)+1 by omega,jO hpn,hR,ef];rfl,(hpb.mono (by omega)).do hedm,by rw[b5];exact kV,by omega,hpu2,rfl,(by kernel_rfl),ke.pk [0,1]⟩
 refine wp_exit (am (am (bj (aw (aa ?_)))))
 have hrun2:ft l (i+1)=(ps,nx):=by
  by_cases hk60:k=60
  rw[hrun,hk60];rfl
  rw[hrun];exact mZ _ _ _ (List.eq_nil_of_length_eq_zero (by omega))
 refine sqr (sqp [.m 18 5,sI 19 ((i:Int)+1) (by omega),.m 5 19] ?_)
 refine aa ?_
 refine⟨min n 90-((i+1)),by omega,?_⟩
 exact⟨(i+1),ps,nx,fb,by omega,hrun2,hpb.mono (by omega),kV,by omega,rfl,(by kernel_rfl),f8.pk [0]⟩
 have rR:=of_decide_eq_false jo
 refine sqr (sqp [.m 33 7,.e 34 (.bool (decide ((k:Int)<60))) (.bool false) (congrArg Value.bool jo),.k 35 (.bool false)] ?_)
 refine sY 35 [36,37,38,39,40,41] rfl rfl ?_
 refine sqp [.k 42 (.bool false)] ?_
 refine aa (wcf rfl (wp_exit (am (am (bj (aw (aa ?_)))))))
 have hrun2:ft l (i+1)=(ps,nx):=by
  by_cases hk60:k=60
  rw[hrun,hk60];rfl
  rw[hrun];exact mZ _ _ _ (List.eq_nil_of_length_eq_zero (by omega))
 refine sqr (sqp [.m 18 5,sI 19 ((i:Int)+1) (by omega),.m 5 19] ?_)
 refine aa ?_
 refine⟨min n 90-((i+1)),by omega,?_⟩
 exact⟨(i+1),ps,nx,fb,by omega,hrun2,hpb.mono (by omega),kV,by omega,rfl,(by kernel_rfl),kh.pk [0]⟩
 have eo:=dp
 simp only[zB] at eo
 refine wp_exit (am (am (bj (aa (wp_seq (sqr (sqp [.m 57 3,.m 2 57] ?_)))))))
 refine aa (wp_ret ?_)
 refine bpr (vp cI) (ak Try.results11 rpt) ?_
 have hfin:fO l=ps0:=by rw[fO,hn,show min n 90=i by omega,hg]
 rw[hfin]
 exact⟨_,_,rfl,ci.pick [0] (by decide) rfl⟩
end
section
open Go.RowKit
def nz(s:ByteArray):Bool:=decide (s.size≠0)
def cnt(l:List ByteArray):Nat:=l.tail.countP nz
theorem wl:nz ByteArray.empty=false:=rfl
theorem ku:∀(l:List ByteArray) (i:Nat),(bp i l).length=l.countP nz
 | [],_=>rfl
 |x::l,i=>by
  rw[bp]
  by_cases h:x.size=0
  rw[if_pos h,ku l,List.countP_cons_of_neg (by simp[nz,h])]
  rw[if_neg h,List.length_cons,ku l,List.countP_cons_of_pos (by simp[nz,h])]
theorem sH:∀{l:List ByteArray}{k s:Nat}{y:ByteArray},(s,y)∈bp k l->k<=s/\l[s-k]? =some y/\y.size≠0
 | [],_,_,_,h=>nomatch h
 |x::l,k,s,y,h=>by
  rw[bp] at h
  have hr:(s,y)∈bp (k+1) l->k<=s/\(x::l)[s-k]? =some y/\y.size≠0:=fun h=>by
   obtain⟨h1,h2,h3⟩:=sH h
   refine⟨by omega,?_,h3⟩
   rw[show s-k=(s-(k+1))+1 by omega,List.getElem?_cons_succ];exact h2
  by_cases hx:x.size=0
  rw[if_pos hx] at h;exact hr h
  rw[if_neg hx] at h
  rcases List.mem_cons.1 h with h|h
  cases h
  exact⟨Nat.le_refl _,by rw[Nat.sub_self];rfl,hx⟩
  exact hr h
theorem yE(r:Nat):(List.replicate r ByteArray.empty).countP nz=0:=by rw[List.countP_replicate,wl];rfl
theorem yG(l:List ByteArray)(r:Nat):cnt (l++List.replicate r ByteArray.empty)=cnt l:=by
 cases l with
 |nil=>
  cases r with
  |zero=>rfl
  |succ r=>rw[List.nil_append,List.replicate_succ];show (List.replicate r ByteArray.empty).countP nz=0;exact yE r
 |cons x l=>show (l++List.replicate r ByteArray.empty).countP nz=l.countP nz;rw[List.countP_append,yE];rfl
theorem yi{l:List ByteArray}{k:Nat}(x:ByteArray)(hk:k<l.length):cnt (l.set k x)=if k=0 then cnt l else cnt l-(if nz (l.getD k ByteArray.empty) then 1 else 0)+(if nz x then 1 else 0):=by
 cases l with
 |nil=>cases hk
 |cons y l=>
  cases k with
  |zero=>rfl
  |succ k=>
   rw[List.length_cons] at hk
   rw[List.set_cons_succ,if_neg (by omega)]
   show (l.set k x).countP nz= _
   rw[List.countP_set (by omega),List.getD_cons_succ,List.getD_eq_getElem?_getD,List.getElem?_eq_getElem (by omega)];rfl
theorem sR(l:List ByteArray)(k:Nat):k<(l++List.replicate (k+1-l.length) ByteArray.empty).length:=by rw[List.length_append,List.length_replicate];omega
theorem Dy(l:List ByteArray)(k:Nat)(x:ByteArray):cnt (bz l k x)<=cnt l+(if 1<=k/\x.size≠0 then 1 else 0):=by
 rw[bz,yi x (sR l k),yG]
 by_cases h0:k=0
 rw[if_pos h0];omega
 rw[if_neg h0]
 by_cases hx:x.size=0
 rw[show nz x=false by simp[nz,hx],if_neg (c:=1<=k/\x.size≠0) (by omega)];split<;>simp
 rw[show nz x=true by simp[nz,hx],if_pos (c:=1<=k/\x.size≠0) (by omega)];split<;>simp
theorem Ft{l:List ByteArray}{k:Nat}{y:ByteArray}(h1:1<=k)(hy:l[k]? =some y)(hz:y.size≠0):cnt (bz l k ByteArray.empty)+1<=cnt l:=by
 obtain⟨hk,rfl⟩:=List.getElem?_eq_some_iff.1 hy
 have hpos:0<cnt l:=by
  cases l with
  |nil=>cases hk
  |cons x l=>
   rw[List.length_cons] at hk
   refine List.countP_pos_iff.2 ⟨l[k-1]'(by omega),List.getElem_mem _,?_⟩
   obtain⟨k,rfl⟩:∃m,k=m+1:=⟨k-1,by omega⟩
   simpa[nz] using hz
 rw[bz,yi _ (sR l k),yG,if_neg (by omega),wl,List.getD_eq_getElem?_getD,List.getElem?_append_left hk,hy,Option.getD_some,show nz l[k]=true by simp[nz,hz],if_pos rfl,if_neg (by decide)]
 omega
def cn(ps:List PgS)(i:Nat):Nat:=cnt (ps.getD i aP).2.2
theorem t3{ps:List PgS}{e:EdT}{i:Nat}(h:e.1≠(i:Int)):(bK ps e).getD i aP=ps.getD i aP:=by
 unfold bK
 split
 rename_i hok
 have hok:=of_decide_eq_true hok
 rw[List.getD_eq_getElem?_getD,List.getElem?_set_ne (by omega),<-List.getD_eq_getElem?_getD]
 rfl
theorem iA{i:Nat}:∀{L:List EdT}{ps:List PgS},(∀e∈L,e.1≠(i:Int))->(doB ps L).getD i aP=ps.getD i aP
 | [],_,_=>rfl
 |e::L,ps,h=>by
  show (doB (bK ps e) L).getD i aP= _
  rw[iA (L:=L) fun x hx=>h x (by simp[hx]),t3 (h e (by simp))]
theorem jQ{ps:List PgS}{e:EdT}{i:Nat}(hok:oq ps.length e=true)(h:e.1=(i:Int)):(bK ps e).getD i aP=edP (ps.getD i aP) e:=by
 have hb:=of_decide_eq_true hok
 rw[bK,if_pos hok,h,Int.toNat_natCast,List.getD_eq_getElem?_getD,List.getElem?_set_self (by omega)];rfl
theorem Gu{ps:List PgS}{e:EdT}(hok:oq ps.length e=false):bK ps e=ps:=by rw[bK,hok];rfl
theorem lu(ps:List PgS)(e:EdT)(i:Nat):cn (bK ps e) i<=cn ps i+(if e.1=(i:Int)/\1<=e.2.1/\e.2.2.size≠0 then 1 else 0):=by
 by_cases h:e.1=(i:Int)
 cases hok:oq ps.length e with
 |false=>rw[Gu hok];omega
 |true=>
  rw[cn,jQ hok h,edP]
  by_cases hs:e.2.1<0
  rw[if_pos hs];exact Nat.zero_le _
  rw[if_neg hs]
  refine Nat.le_trans (Dy _ _ _) ?_
  show cn ps i+ _<= _
  by_cases hc:1<=e.2.1/\e.2.2.size≠0
  rw[if_pos (c:=e.1=(i:Int)/\1<=e.2.1/\e.2.2.size≠0) ⟨h,hc⟩];split<;>omega
  rw[if_neg (c:=1<=e.2.1.toNat/\e.2.2.size≠0) (fun hh=>hc ⟨by omega,hh.2⟩)];omega
 rw[cn,t3 h];exact Nat.le_add_right _ _
theorem lk{ps:List PgS}{e:EdT}{i:Nat}(h:¬(e.1=(i:Int)/\1<=e.2.1/\e.2.2.size≠0)):cn (bK ps e) i<=cn ps i:=by
 have:=lu ps e i
 rwa [if_neg h] at this
theorem gw{i:Nat}:∀{L:List EdT}{ps:List PgS},(∀e∈L,¬(e.1=(i:Int)/\1<=e.2.1/\e.2.2.size≠0))->cn (doB ps L) i<=cn ps i
 | [],_,_=>Nat.le_refl _
 |e::L,ps,h=>Nat.le_trans (gw (L:=L) (ps:=bK ps e) fun x hx=>h x (by simp[hx])) (lk (h e (by simp)))
theorem ld(pg:Int)(es:List EnD)(i:Nat):∀e∈aA pg es,¬(e.1=(i:Int)/\1<=e.2.1/\e.2.2.size≠0):=fun e he h=>by
 obtain⟨x,_,rfl⟩:=List.mem_map.1 he
 exact h.2.2 rfl
theorem yq{pg lv:Int}:∀{es:List EnD}{k:Nat},∀e∈dC pg lv k es,e.1=pg
 | [],_,e,h=>nomatch h
 |x::l,k,e,h=>by
  rw[dC] at h
  rcases List.mem_cons.1 h with rfl|h
  rfl
  exact yq e h
theorem eT{pg lv rt:Int}{hi:ByteArray}{es:List EnD}:∀e∈aE pg lv rt hi es,e.1=pg:=fun e he=>by
 rcases List.mem_append.1 he with h|h
 simp only[List.mem_cons,List.not_mem_nil,or_false] at h
 rcases h with rfl|rfl<;>rfl
 exact yq e h
theorem uc{pg lv:Int}{i:Nat}:∀{es:List EnD}{k:Nat}{ps:List PgS},cn (doB ps (dC pg lv k es)) i<=cn ps i+es.length
 | [],_,_=>Nat.le_refl _
 |x::l,k,ps=>by
  rw[dC]
  have h1:=uc (pg:=pg) (lv:=lv) (i:=i) (es:=l) (k:=k+1) (ps:=bK ps (pg,(k:Int),itB lv x.2.2 x.1))
  have h2:=lu ps (pg,(k:Int),itB lv x.2.2 x.1) i
  show cn (doB (bK ps _) _) i<= _
  rw[List.length_cons]
  split at h2<;>omega
theorem dx(ps:List PgS)(a b:List EdT):doB ps (a++b)=doB (doB ps a) b:=List.foldl_append
theorem Ab{ps:List PgS}{i:Nat}(h:ps.length<=i):cn ps i=0:=by
 rw[cn,List.getD_eq_getElem?_getD,List.getElem?_eq_none h];rfl
theorem pE(pg lv rt:Int)(hi:ByteArray)(es:List EnD)(ps:List PgS)(i:Nat):cn (doB ps (aE pg lv rt hi es)) i<=if pg=(i:Int) then es.length else cn ps i:=by
 by_cases h:pg=(i:Int)
 rw[if_pos h]
 by_cases hl:ps.length<=i
 rw[Ab (by rw[b5];exact hl)];exact Nat.zero_le _
 rw[aE,dx]
 refine Nat.le_trans uc ?_
 have h1:cn (bK ps (pg,-1,strOfNums [2])) i=0:=by
  rw[cn,jQ (decide_eq_true (by dsimp only;omega)) h];rfl
 have h2:=lk (ps:=bK ps (pg,-1,strOfNums [2])) (e:=(pg,0,hdB lv rt false hi)) (i:=i) (fun hh=>by have:=hh.2.1;dsimp only at this;omega)
 show cn (bK (bK ps (pg,-1,strOfNums [2])) (pg,0,hdB lv rt false hi)) i+es.length<= _
 omega
 rw[if_neg h,cn,iA fun e he=>by rw[eT e he];exact h];exact Nat.le_refl _
def C8(ps:List PgS):Prop:=∀i,cn ps i<=8
theorem C8.okc{ps:List PgS}(h:C8 ps):OkC ps:=fun p hp=>by
 obtain⟨i,hi,rfl⟩:=List.getElem_of_mem hp
 have h1:=h i
 rw[cn,List.getD_eq_getElem?_getD,List.getElem?_eq_getElem hi,Option.getD_some,cnt] at h1
 rw[ku];omega
theorem oe{ps:List PgS}{x:Int}{n:NoD}(h:ao ps x=some n):0<=x/\x<ps.length/\n.es.length=cn ps x.toNat/\(∀e∈n.es,1<=e.2.1/\∃y,(ps.getD x.toNat aP).2.2[e.2.1]? =some y/\y.size≠0):=by
 unfold ao at h
 split at h
 rename_i hx
 obtain⟨y,l,h1,h2,h3,rfl⟩:=ee h
 refine⟨hx.1,hx.2,?_,fun e he=>?_⟩
 show (srt _ (bp 1 l)).length= _
 rw[mi,ku,cn,h1];rfl
 have hm:∃p∈bp 1 l,e=cc (aI y 0 1) p:=by
  obtain⟨p,hp,rfl⟩:=List.mem_map.1 (List.mem_reverse.1 (jN (List.mem_reverse.1 he)))
  exact⟨p,hp,rfl⟩
 obtain⟨⟨s,z⟩,hp,rfl⟩:=hm
 obtain⟨h4,h5,h6⟩:=sH hp
 have h7:(cc (aI y 0 1) (s,z)).2.1=s:=by unfold cc;split<;>rfl
 rw[h7,h1]
 refine⟨h4,z,?_,h6⟩
 rw[show s=(s-1)+1 by omega,List.getElem?_cons_succ];exact h5
 cases h
theorem Fs{ps:List PgS}{pos fresh:Int}{n:NoD}(h:C8 ps)(hok:OkS ps)(hn:ao ps pos=some n)(hl8:¬n.es.length<8)(hf:fresh≠pos):C8 (doB ps (bT pos n fresh)):=by
  intro i
  obtain⟨hx0,hx1,hlen,hsl⟩:=oe hn
  rw[bT,dx,dx,dx]
  obtain⟨ps1,gB⟩:∃z,doB ps (aE fresh n.lv (-1) ByteArray.empty n.es)=z:=⟨_,rfl⟩
  have h1:=pE fresh n.lv (-1) ByteArray.empty n.es ps i
  rw[gB] at h1 |-
  have h2:=lk (ps:=ps1) (e:=(pos,0,hdB (n.lv+1) (-1) false ByteArray.empty)) (i:=i) (fun hh=>by have:=hh.2.1;dsimp only at this;omega)
  obtain⟨ps2,gN⟩:∃z,bK ps1 (pos,0,hdB (n.lv+1) (-1) false ByteArray.empty)=z:=⟨_,rfl⟩
  rw[gN] at h2
  show cn (bK (doB (bK ps1 (pos,0,hdB (n.lv+1) (-1) false ByteArray.empty)) (aA pos n.es)) (pos,1,itB 1 fresh ay)) i<=8
  rw[gN]
  have h3:=gw (ps:=ps2) (ld pos n.es i)
  have h4:=lu (doB ps2 (aA pos n.es)) (pos,1,itB 1 fresh ay) i
  by_cases hi:(pos:Int)=(i:Int)
  rw[if_neg (by omega)] at h1
  have hpi:pos.toNat=i:=by omega
  rw[hpi] at hsl hlen
  have h8:=h i
  match hes:n.es with
  | []=>rw[hes] at hl8;exact absurd hl8 (by decide)
  |e0::er=>
   obtain⟨iX,y,hy,hyz⟩:=hsl e0 (by rw[hes];simp)
   have hg1:ps1.getD i aP=ps.getD i aP:=by rw[<-gB];exact iA fun e he=>by rw[eT e he];omega
   have hl1:ps1.length=ps.length:=by rw[<-gB,b5]
   have hg2:(ps2.getD i aP).2.2=bz (ps.getD i aP).2.2 0 (hdB (n.lv+1) (-1) false ByteArray.empty):=by
    rw[<-gN,jQ (decide_eq_true (by dsimp only;omega)) hi,hg1];rfl
   have hl2:ps2.length=ps.length:=by rw[<-gN,gr,hl1]
   have hsy:(bz (ps.getD i aP).2.2 0 (hdB (n.lv+1) (-1) false ByteArray.empty))[e0.2.1]? =some y:=by
    rw[bz,List.getElem?_set_ne (by omega)]
    obtain⟨hk,_⟩:=List.getElem?_eq_some_iff.1 hy
    rw[List.getElem?_append_left hk];exact hy
   have h100:(e0.2.1:Int)<=100:=by
    obtain⟨hk,_⟩:=List.getElem?_eq_some_iff.1 hy
    have h101:=hok.its _ (ct (l:=ps) (n:=i) (d:=aP) (by omega)).2
    omega
   have h5:cn (bK ps2 (pos,(e0.2.1:Int),ByteArray.empty)) i+1<=cn ps2 i:=by
    rw[cn,jQ (decide_eq_true (by dsimp only;omega)) hi,cn,edP,if_neg (by dsimp only;omega),hg2]
    exact Ft iX hsy hyz
   have h6:=gw (ps:=bK ps2 (pos,(e0.2.1:Int),ByteArray.empty)) (ld pos er i)
   have h7:doB ps2 (aA pos (e0::er))=doB (bK ps2 (pos,(e0.2.1:Int),ByteArray.empty)) (aA pos er):=rfl
   rw[hes] at h4
   rw[h7] at h4 |-
   split at h4<;>omega
  rw[if_neg (by dsimp only;omega)] at h4
  have h8:=h i
  have h9:=h pos.toNat
  split at h1<;>omega
theorem Ix{ps:List PgS}{pos fresh:Int}{n:NoD}(h:C8 ps)(hn:ao ps pos=some n):C8 (doB ps (bR pos n fresh)):=by
  intro i
  obtain⟨hx0,hx1,hlen,hsl⟩:=oe hn
  rw[bR,dx,dx]
  have h1:=pE fresh n.lv n.right n.high (dX n) ps i
  have h2:=lk (ps:=doB ps (aE fresh n.lv n.right n.high (dX n))) (e:=(pos,0,hdB n.lv fresh false (bN n))) (i:=i) (fun hh=>by have:=hh.2.1;dsimp only at this;omega)
  have h3:=gw (ps:=bK (doB ps (aE fresh n.lv n.right n.high (dX n))) (pos,0,hdB n.lv fresh false (bN n))) (ld pos (dX n) i)
  have hh:(dX n).length<=n.es.length:=by rw[dX,List.length_drop];omega
  have h8:=h i
  have h9:=h pos.toNat
  refine Nat.le_trans h3 (Nat.le_trans h2 ?_)
  split at h1<;>omega
theorem Ie{ps:List PgS}{pos s:Int}{x:ByteArray}{n:NoD}(h:C8 ps)(hn:ao ps pos=some n)(hl8:n.es.length<8):C8 (doB ps [(pos,s,x)]):=by
 intro i
 obtain⟨hx0,hx1,hlen,hsl⟩:=oe hn
 refine Nat.le_trans (lu ps _ i) ?_
 dsimp only
 have h8:=h i
 split
 rename_i hc
 have:i=pos.toNat:=by omega
 subst this;omega
 exact h8
theorem yg{ps:List PgS}{p:PuT}{fresh:Int}(h:C8 ps)(hok:OkS ps)(hf:fresh≠p.root):C8 (doB ps (aU ps p fresh).2.eds):=by
 obtain⟨root,pos,leaf,left,fro,to,spl⟩:=p
 have hnil:C8 (doB ps []):=h
 cases left with
 |nil=>exact hnil
 |cons t lf=>
  obtain⟨te,tl,tk⟩:=t
  rcases hnd:ao ps pos with _|n
  rw[o8 hnd];exact hnil
  cases hs:cL n.dead n.high te with
  |true=>
   by_cases hr:n.right<0
   rw[o5 hnd hs hr];exact hnil
   rw[jc hnd hs hr];exact hnil
  |false=>
   by_cases hl:tl<n.lv
   rw[ma hnd hs hl];exact hnil
   by_cases hm:n.lv<tl
   rw[oT hnd hs hl hm];exact hnil
   cases ht:di n.es te with
   |true=>rw[ik hnd hs hl hm ht];exact hnil
   |false=>
    by_cases h8:n.es.length<8
    rw[ml hnd hs hl hm ht h8];exact Ie h hnd h8
    by_cases af:fresh<0
    rw[s7 hnd hs hl hm ht h8 af];exact hnil
    by_cases hr:pos=root
    rw[o7 hnd hs hl hm ht h8 af hr];subst hr;exact Fs h hok hnd h8 hf
    rw[qX hnd hs hl hm ht h8 af hr];exact Ix h hnd
theorem BM(ps:List PgS)(p:PuT)(fresh:Int):(aU ps p fresh).1.root=p.root:=by
 unfold aU
 dsimp only
 split
 rfl
 split
 rfl
 ·repeat' split
  all_goals rfl
theorem AL:∀(j:Nat){M k:Nat}{ps:List PgS}{nx:Int}{p:PuT},BdM M ps->ps.length=60->C8 ps->1<=nx->p.root=0->PuM M k p->M+10*j<=900000->BdM (M+10*j) (gv j ps nx p).1/\(gv j ps nx p).1.length=60/\C8 (gv j ps nx p).1/\1<=(gv j ps nx p).2
 |0,M,k,ps,nx,p,h1,h2,h3,h4,h5,h6,h7=>⟨h1,h2,h3,h4⟩
 |j+1,M,k,ps,nx,p,h1,h2,h3,h4,h5,h6,h7=>by
  by_cases hl:p.left=[]
  rw[mZ _ _ _ hl];exact⟨h1.mono (by omega),h2,h3,h4⟩
  rw[jO hl]
  have hs:=sF (fresh:=nx) h1 h6
  have hok:=h1.ok (by omega) (by omega)
  have h8:=AL j (M:=M+10) (k:=k+1) (ps:=doB ps (aU ps p nx).2.eds) (nx:=if (aU ps p nx).2.used then nx+1 else nx) (p:=(aU ps p nx).1) ((h1.mono (by omega)).do hs.1) (by rw[b5];exact h2) (yg h3 hok (by omega)) (by split<;>omega) (by rw[BM];exact h5) hs.2 (by omega)
  rw[show M+10*(j+1)=M+10+10*j by omega];exact h8
theorem Cw(n:Nat):C8 (dt n):=fun i=>by
 refine Nat.le_trans (gw fun e he h=>?_) ?_
 simp only[dU,List.mem_cons,List.not_mem_nil,or_false] at he
 rcases he with rfl|rfl<;>(have:=h.2.1;dsimp only at this;omega)
 rw[cn,List.getD_eq_getElem?_getD]
 by_cases hi:i<n
 rw[List.getElem?_eq_getElem (by rw[List.length_replicate];exact hi),List.getElem_replicate];decide
 rw[List.getElem?_eq_none (by rw[List.length_replicate];omega)];decide
theorem Bz(x:Int)(pg sl:Int)(M:Nat)(hM:16<=M):PuM M 1 (dD 0 (cU x) pg sl):=⟨fun t ht=>by
 rw[dD,List.mem_singleton] at ht
 subst ht
 have:=gx x
 exact⟨by rw[dG];omega,Int.le_refl 0,by show (0:Int)<= _;omega⟩,Nat.le_refl _⟩
theorem AD(l:List Int):∀(i:Nat),i<=90->BdM (16+600*i) (ft l i).1/\(ft l i).1.length=60/\C8 (ft l i).1/\1<=(ft l i).2
 |0,_=>⟨(ig 60).1,(ig 60).2,Cw 60,Int.le_refl 1⟩
 |i+1,h=>by
  obtain⟨h1,h2,h3,h4⟩:=AD l i (by omega)
  rw[ft]
  have h5:=AL 60 h1 h2 h3 h4 (p:=dD 0 (cU (l.getD i 0)) (1+(i:Int) / 8) (1+(i:Int) % 8)) rfl (Bz _ _ _ _ (by omega)) (by omega)
  rw[show 16+600*(i+1)=16+600*i+10*60 by omega];exact h5
theorem DD(l:List Int):BdM 54016 (fO l)/\(fO l).length=60/\C8 (fO l):=by
 obtain⟨h1,h2,h3,_⟩:=AD l (min l.length 90) (by omega)
 exact⟨h1.mono (by omega),h2,h3⟩
end
section
open Go.RowKit
def dE(ps:List PgS)(lv:Int):Nat->Int->Option (Int×NoD)
 |0,_=>none
 |k+1,x=>match ao ps x with
  |none=>none
  |some n=>if n.lv=lv then some (x,n) else if n.lv<lv\/n.es.length=0 then none else dE ps lv k (n.es.getD 0 en0).2.2
def dS(ps:List PgS)(lv:Int):Nat->Int->List (Int×NoD)
 |0,_=>[]
 |k+1,x=>match ao ps x with
  |none=>[]
  |some n=>if n.lv=lv then (x,n)::dS ps lv k n.right else []
def bH(ps:List PgS)(root lv:Int):List (Int×NoD):=match dE ps lv 1000 root with
 |none=>[]
 |some (x,_)=>dS ps lv 1000 x
def cN(ps:List PgS)(root:Int):List EnD:=(bH ps root 0).flatMap fun x=>x.2.es
theorem Ct{ps:List PgS}{lv x:Int}{k:Nat}(h:ao ps x=none):dE ps lv k x=none:=by
 cases k with
 |zero=>rfl
 |succ k=>rw[dE,h]
theorem yA{ps:List PgS}{lv x:Int}{k:Nat}{n:NoD}(h:ao ps x=some n)(hl:n.lv=lv):dE ps lv (k+1) x=some (x,n):=by rw[dE,h];exact if_pos hl
theorem Db{ps:List PgS}{lv x:Int}{k:Nat}{n:NoD}(h:ao ps x=some n)(hl:n.lv≠lv)(h2:n.lv<lv\/n.es.length=0):dE ps lv k x=none:=by
 cases k with
 |zero=>rfl
 |succ k=>rw[dE,h];dsimp only;rw[if_neg hl,if_pos h2]
theorem qd{ps:List PgS}{lv x:Int}{k:Nat}{n:NoD}(h:ao ps x=some n)(hl:lv<n.lv)(h2:n.es.length≠0):dE ps lv (k+1) x=dE ps lv k (n.es.getD 0 en0).2.2:=by rw[dE,h];dsimp only;rw[if_neg (by omega),if_neg (by omega)]
theorem vG{ps:List PgS}{lv x:Int}{k:Nat}(h:ao ps x=none):dS ps lv k x=[]:=by
 cases k with
 |zero=>rfl
 |succ k=>rw[dS,h]
theorem s6{ps:List PgS}{lv x:Int}{k:Nat}{n:NoD}(h:ao ps x=some n)(hl:n.lv=lv):dS ps lv (k+1) x=(x,n)::dS ps lv k n.right:=by rw[dS,h];exact if_pos hl
theorem Dp{ps:List PgS}{lv x:Int}{k:Nat}{n:NoD}(h:ao ps x=some n)(hl:n.lv≠lv):dS ps lv k x=[]:=by
 cases k with
 |zero=>rfl
 |succ k=>rw[dS,h];exact if_neg hl
theorem BE{ps:List PgS}{lv:Int}:∀{k:Nat}{x:Int},∀y∈dS ps lv k x,ao ps y.1=some y.2/\y.2.lv=lv
 |k+1,x,y,h=>by
  rw[dS] at h
  split at h
  cases h
  rename_i m hm
  split at h
  rename_i hl
  rcases List.mem_cons.1 h with rfl|h
  exact⟨hm,hl⟩
  exact BE y h
  cases h
theorem yw(ps:List PgS)(lv:Int):∀(k:Nat) (x:Int),(dS ps lv k x).length<=k
 |0,_=>Nat.le_refl _
 |k+1,x=>by
  rw[dS]
  split
  exact Nat.zero_le _
  split
  rw[List.length_cons];have:=yw ps lv k (by assumption:NoD).right;omega
  exact Nat.zero_le _
theorem o6(ps:List PgS)(root lv:Int):(bH ps root lv).length<=1000:=by
 unfold bH
 split
 exact Nat.zero_le _
 exact yw _ _ _ _
end
section
open Go.RowKit
def cG{α:Type}(p:α->Bool)(k:Int):List α->Int
 | []=> -1
 |x::l=>if p x then k else cG p (k+1) l
theorem pf{α:Type}{p:α->Bool}{l:List α}{x:α}{k:Nat}(h:l[k]? =some x):cG p (k:Int) (l.drop k)=if p x then (k:Int) else cG p ((k+1:Nat):Int) (l.drop (k+1)):=by
 obtain⟨hk,rfl⟩:=List.getElem?_eq_some_iff.1 h
 rw[List.drop_eq_getElem_cons hk,cG];rfl
theorem CN{α:Type}(p:α->Bool)(l:List α):∀k:Int,0<=k->decide (0<=cG p k l)=l.any p:=by
 induction l with
 |nil=>intro k _;rfl
 |cons x l ih=>
  intro k hk
  rw[cG,List.any_cons]
  cases p x with
  |true=>rw[if_pos rfl,Bool.true_or];exact decide_eq_true hk
  |false=>rw[if_neg (by decide),Bool.false_or];exact ih (k+1) (by omega)
theorem Eu{l:List EnD}{k:Nat}(h:k<l.length):∃x y z,l[k]? =some (x,y,z):=⟨l[k].1,l[k].2.1,l[k].2.2,List.getElem?_eq_getElem h⟩
theorem mO(pg:Int)(np lv rt fr:Int)(hg:ByteArray)(EA:Option Addr)(ec n:Nat)(es:List EnD)(w:World)(hE:At w EA (es.flatMap enC))(hn:es.length=n)(hez:∀e∈es,e.1.size<=1000000)(hnb:n<=1000)(hlv:0<=lv/\lv<=256)(hrt: -1<=rt/\rt<=1000000)(hhi:hg.size<=1000000):
  Calls Try.prog 81 #[.int .i64 pg,.agg #[.int .i64 np,.int .i64 lv,.int .i64 rt,.string hg,.bool false,.slice EA n ec,.int .i64 fr]] w (mw (aE pg lv rt hg es) w):=by
 go_enter Try.func81,Try.ntmps81
 have aq:=St.start w
 refine wp_seq (sqr ?_)
 refine bX #[vi np,vi lv,vi rt,.string hg,.bool false,.slice EA n ec,vi fr] aq fun dI W1 aC=>?_
 refine sqp [.k 4 (.slice none 0 0)] ?_
 refine aa (wp_seq (aj [0,0,2,7,0,0,32,112,255,511] [[],[],[1],[],[],[0]] [[],[1],[],[],[],[],[],[],[2]] [] [.k 8 (vi pg),.a 9,.c 10 (.string (strOfNums ([2]))),.k 11 (.agg #[vi pg,vi (-1),.string (strOfNums ([2]))]),.k 12 (vi pg),.c 13 (.agg #[vi np,vi lv,vi rt,.string hg,.bool false,.slice EA n ec,vi fr]),.c 14 (.string (hdB lv rt false hg)),.k 15 (.agg #[vi pg,vi 0,.string (hdB lv rt false hg)]),.a 16,.a 5] (fun ix g b X=>match ix with|0=>True|1=>g 9= .slice (sA (b 9)) 1 1/\X 1=eO 5 1 (.slice (sA (b 9)) 1 1) 1 ([.int .u8 2])|2|3|4|5|6|7=>True|8=>g 16= .slice ((some ⟨(pb' (b 16)),0,none⟩)) 2 2/\X 2=eO 99 3 (.slice ((some ⟨(pb' (b 16)),0,none⟩)) 2 2) 2 ([vi pg,vi (-1),.string (strOfNums ([2])),vi pg,vi 0,.string (hdB lv rt false hg)])|9=>g 5= .slice ((some ⟨(pb' (b 16)),0,none⟩)) 2 2|_=>True) [0,1,2] [1,2,5,6,8,9] [(5,9,1,6),(2,0,9,11)] aC ?_ ?_ ?_))
 exact fun ix _ _ _ _ _ _ hs hb hx h=>match ix,h with
 |1,h=>by dsimp only;rw[<-hs 9 rfl,<-hb 9 rfl,<-hx 1 rfl];exact h
 |8,h=>by dsimp only;rw[<-hs 16 rfl,<-hb 16 rfl,<-hx 2 rfl];exact h
 |9,h=>by dsimp only;rw[<-hs 5 rfl,<-hb 16 rfl];exact h
 |0,_|2,_|3,_|4,_|5,_|6,_|7,_|_+10,_=>trivial
 refine⟨?_,?_,?_,?_,?_,?_,trivial⟩
 refine svA fun d b W X cx=>?_
 exact bY (e:=5) (xs:=[.int .u8 2]) rfl (by simp[go_sem,cx.sees.const]) rfl (by decide) rfl rfl (fun _ _ _ _ _=> .intro)
 exact xs4 rfl id fun cx=>cd (e:=5) rfl (by kernel_rfl) (by kernel_rfl) (by kernel_rfl) (dTn (cx.an 1)).1 (cx.row (dTn (cx.an 1)).2 rfl)
 exact xs4 rfl id fun cx=>aO (n:=7) rfl (by kernel_rfl) (by kernel_rfl) (cx.ou 3) (cx.bi 0 rfl) (nle rfl) rfl
 exact xsc rfl id rfl rfl fun cx=>⟨_,jg np lv rt fr hg false _ _ _ _ (by omega) (by omega) (by first|omega|decide),(br (cx.an 5))⟩
 refine svA fun d b W X cx=>?_
 have D9:d (.tmp 11)= .agg #[vi pg,vi (-1),.string (strOfNums ([2]))]:=(cx.an 3)
 have Ni:d (.tmp 15)= .agg #[vi pg,vi 0,.string (hdB lv rt false hg)]:=(cx.an 7)
 exact bS (e:=99) (sz:=3) (xs:=[vi pg,vi (-1),.string (strOfNums ([2])),vi pg,vi 0,.string (hdB lv rt false hg)]) rfl (by simp[go_sem,D9,Ni]) rfl (by decide) rfl rfl (fun _ _ _ _ _=> .intro)
 exact sv rfl rfl rfl rfl rfl _ (fun _ _ _ h=>h) (fun b j h=>by rw[h 16 (by decide)]) fun d b W X cx=>aN rfl (dTn (cx.an 8)).1
 intro g b X W3 hD bG fr af
 simp only[exq 1 ((dTn (hD 1 lq)).2),exq 2 ((dTn (hD 8 lq)).2)] at bG
 simp only[ed 9 ((dTn (hD 1 lq)).1),ed 16 ((dTn (hD 8 lq)).1),ed 5 ((dTn (hD 9 lq)))] at af
 generalize sA (b 9)=Nj,pb' (b 16)=LD at bG af
 clear hD;subst af;clear g b X
 refine aa (wp_seq (wp_seq (sqr (sqp [.k 17 (.pointer (some ⟨dI,5,none⟩))] ?_))))
 refine al 0 bG ?_
 refine sqp [.k 19 (vi ((n:Int))),.k 20 (vi 0)] ?_
 refine aa (wp_block ?_)
 rw[show [vi pg,vi (-1),.string (strOfNums ([2])),vi pg,vi 0,.string (hdB lv rt false hg)]=(kq pg lv rt hg).flatMap edC from rfl] at bG
 refine aX (fun t_ mz az W=>∃i:Nat,∃nn:Nat,∃O:List EdT,∃OA:Option Addr,∃OC:Nat,i<=n/\O=kq pg lv rt hg++dC pg lv 1 (es.take i)/\O.length=nn/\nn<=10+i/\mz=n-i/\az=⟨(ovr (jv az) [(5,5,0,[.slice OA nn OC]),(0,6,2,[]),(12,20,0,[vi ((i:Int))]),(0,21,15,[])] t_).toArray,[]⟩/\St w [] [eB dI 116 #[vi np,vi lv,vi rt,.string hg,.bool false,.slice EA n ec,vi fr],eO 5 1 (.slice Nj 1 1) 1 ([.int .u8 2]),eO 99 3 (.slice OA nn OC) nn (O.flatMap edC)] W) (n-0) ?_ ?_
 exact⟨0,2,(kq pg lv rt hg),(some ⟨LD,0,none⟩),2,Nat.zero_le _,rfl,rfl,by omega,rfl,(by kernel_rfl),bG.pk [0,1,2]⟩
 rintro n8 a8 W8 ⟨i,nn,O,OA,OC,hi,hO,hOl,hnn,rfl,hj_,bt⟩
 refine ovz hj_ fun IT=>?_
 refine wp_seq (sqr (sqp [.k 21 (.bool (decide ((i:Int)<(n:Int))))] ?_))
 refine aa (wp_seq (wds (fun gA j9=>?_) fun gA j9=>?_))
 refine wp_skip (aa (wp_seq (wp_block (wp_seq (sqr (sqp [.m 22 20] ?_))))))
 refine sql (.pointer (some ((ad EA).add (i*3)))) bt (fun cx=>aD (e:=104) (m:=i) (sz:=3) rfl (by kernel_rfl) (by kernel_rfl) (cx.ou 18) (cx.ou 20) (by omega) (by omega) (hE.ext cx.upd.to_ext) (be (sz:=3) aH (by decide) (by omega))) ?_
 refine sql (.agg #[.string ((es.getD i en0).1),vi (((es.getD i en0).2.1:Int)),vi ((es.getD i en0).2.2)]) bt (fun cx=>aY (f:=enC) (m:=i) (sz:=3) (off:=0) (n:=3) rfl (by kernel_rfl) (by kernel_rfl) (cx.ou 23) rfl aH (hE.ext cx.upd.to_ext) (ck (by omega)) (fun k hk=>match k,hk with|0,_=>rfl|1,_=>rfl|2,_=>rfl|k+3,hk=>absurd hk (by omega))) ?_
 refine bW #[.string ByteArray.empty,vi 0,vi 0] bt fun PA iY bn=>?_
 refine sqp [.m 6 22] ?_
 refine aF (n:=3) 3 #[.string ((es.getD i en0).1),vi (((es.getD i en0).2.1:Int)),vi ((es.getD i en0).2.2)] bn fun ov bP=>?_
 refine aa (sqr (sqp [.m 25 5,.m 26 0,.m 27 6,sI 28 ((i:Int)+1) (by omega)] ?_))
 refine d9 0 7 bP ?_
 refine d9 3 3 bP ?_
 refine sqk (.string (itB lv ((es.getD i en0).2.2) ((es.getD i en0).1))) bP (fun cx=>⟨_,k7 np lv rt fr hg false _ _ _ ((es.getD i en0).1) ((es.getD i en0).2.1:Int) ((es.getD i en0).2.2) _ (cH hez _),(aK (cx.ou 29) (cx.ou 30))⟩) fun uk cK=>?_
 refine sqp [.k 32 (.agg #[vi pg,vi ((i:Int)+1),.string (itB lv ((es.getD i en0).2.2) ((es.getD i en0).1))])] ?_
 refine pT 99 3 1 (edC (pg,(i:Int)+1,itB lv ((es.getD i en0).2.2) ((es.getD i en0).1))) cK (@fun d b W X cx=>by have Nk:d (.tmp 32)= .agg #[vi pg,vi ((i:Int)+1),.string (itB lv ((es.getD i en0).2.2) ((es.getD i en0).1))]:=(cx.ou 32);simp[go_sem,Nk,edC]) fun Oy BT ev=>?_
 refine sN (nn+1) ((O++[(pg,(i:Int)+1,itB lv ((es.getD i en0).2.2) ((es.getD i en0).1))]).flatMap edC) 2 ev Try.infoEdit (fun cx=>(At.of_ownN (cx.ri 4 rfl))) (h1:=by simp[edC,Value.oneCell']) (hC:=dw _ _) fun JD JE ET fh=>?_
 refine sqp [.m 5 34] ?_
 refine aw (aa (sqr (sqp [sI 35 ((i:Int)+1) (by omega),.m 20 35] ?_)))
 refine aa ?_
 refine⟨n-((i+1)),by omega,?_⟩
 exact⟨(i+1),(nn+1),(O++[(pg,(i:Int)+1,itB lv ((es.getD i en0).2.2) ((es.getD i en0).1))]),JD,JE,by omega,by rw[hO,nK (by omega),<-List.append_assoc];(first|rfl|(congr 4;omega)|simp),by rw[List.length_append,hOl];rfl,by omega,rfl,(by kernel_rfl),fh.pk [0,1,2]⟩
 refine wp_exit (am (am (bj (aa (wp_seq (sqr (sqp [.m 36 5,.m 4 36] ?_)))))))
 refine aa (wp_ret ?_)
 refine bpr (.slice OA nn OC) (ak Try.results81 rpt) ?_
 rw[nX (by omega)] at hO
 rw[hO] at bt hOl
 rw[<-hOl] at bt |-
 have ho_:=bt.own' 2 rfl
 exact⟨_,_,rfl,ho_,bt.ext⟩
theorem C9(pg:Int)(w:World):Calls Try.prog 81 #[.int .i64 pg,.agg #[.int .i64 0,.int .i64 0,.int .i64 (-1),.string ⟨#[]⟩,.bool false,.slice none 0 0,.int .i64 0]] w (mw (dU pg) w):=mO pg 0 0 (-1) 0 ⟨#[]⟩ none 0 0 [] w (At.nil _ _) rfl (fun e he=>nomatch he) (by decide) (by decide) (by decide) (by decide)
theorem qA(n:Int)(w:World):
  Calls Try.prog 46 #[.int .i64 n] w (mw (dU n) w):=by
 go_enter Try.func46,Try.ntmps46
 have aq:=St.start w
 refine wp_seq (sqr (sqp [.k 2 (.slice none 0 0)] ?_))
 refine aa (wp_seq (sqr (sqp [.m 3 0,.k 4 (.agg #[vi 0,vi 0,vi (-1),.string ByteArray.empty,.bool false,.slice none 0 0,vi 0])] ?_)))
 refine gQ (fun xb xc=> .slice xb 2 xc) (fun xb xc=>eO 99 3 (.slice xb 2 xc) 2 ((dU n).flatMap edC)) aq (fun cx=>⟨_,(C9 n _).mono (by rintro e W1 ⟨A4,c4,rfl,ho_,hx⟩;exact⟨_,_,rfl,St.one hx (eS (n:=2) (xs:=(dU n).flatMap edC) ho_)⟩),(aK (cx.ou 3) (cx.ou 4))⟩) fun xb xc W4 bQ=>?_
 refine sqp [.m 2 5] ?_
 refine aa (wp_ret ?_)
 refine bpr (.slice xb 2 xc) (ak Try.results46 rpt) ?_
 have ho_:=bQ.own' 0 rfl
 exact⟨_,_,rfl,ho_,bQ.ext⟩
theorem wg(FA:Option Addr)(fc:Nat)(ks:List EnD)(f0:FuncId)(cap:Array Value)(p:EnD->Bool)(w:World)(hF:At w FA (ks.flatMap enC))(hl:ks.length<=100000)(hcf:dV Try.prog f0=true)(hf:∀(W:World) (k:EnD),Ext w W->Calls Try.prog f0 (#[.agg #[.string k.1,.int .i64 (k.2.1:Int),.int .i64 k.2.2]]++cap) W (Ret (.bool (p k)) W)):
  Calls Try.prog 82 #[.slice FA ks.length fc,.func (.func f0) #[] cap] w (Ret (.int .i64 (cG p 0 ks)) w):=by
 go_enter Try.func82,Try.ntmps82
 have aq:=St.start w
 refine wp_seq (sqr (sqp [.k 4 (vi 0)] ?_))
 refine aa (wp_seq (wp_seq (sqr (sqp [.m 6 0,.k 7 (vi ((ks.length:Int))),.k 8 (vi 0)] ?_))))
 refine aa (wp_block ?_)
 refine aX (fun t_ mz az W=>∃k:Nat,k<=ks.length/\cG p 0 ks=cG p (k:Int) (ks.drop k)/\mz=ks.length-k/\az=⟨(ovr (jv az) [(4,4,2,[]),(2,8,0,[vi ((k:Int))]),(0,9,10,[])] t_).toArray,[]⟩/\St w [] [] W) (ks.length-0) ?_ ?_
 exact⟨0,Nat.zero_le _,rfl,rfl,(by kernel_rfl),aq.pk []⟩
 rintro n5 a5 W5 ⟨k,hk,hkr,rfl,hj_,bO⟩
 refine ovz hj_ fun EL=>?_
 refine wp_seq (sqr (sqp [.k 9 (.bool (decide ((k:Int)<(ks.length:Int))))] ?_))
 refine aa (wp_seq (wds (fun wG qn=>?_) fun wG qn=>?_))
 refine wp_skip (aa (wp_seq (wp_block (wp_seq (sqr (sqp [.m 10 8,.m 5 10] ?_))))))
 refine aa (wp_seq ?_)
 obtain⟨kx,ky,kz,hkj⟩:=Eu (l:=ks) (k:=k) (by omega)
 refine sqr (sqp [.m 11 1,.m 12 0,.m 13 5] ?_)
 refine sql (.pointer (some ((ad FA).add (k*3)))) bO (fun cx=>aD (e:=104) (m:=k) (sz:=3) rfl (by kernel_rfl) (by kernel_rfl) (cx.ou 12) (cx.ou 13) (by omega) (by omega) (hF.ext cx.upd.to_ext) (be (sz:=3) aH (by decide) (by omega))) ?_
 refine sql (.agg #[.string kx,vi ((ky:Int)),vi kz]) bO (fun cx=>aY (f:=enC) (m:=k) (sz:=3) (off:=0) (n:=3) rfl (by kernel_rfl) (by kernel_rfl) (cx.ou 14) rfl aH (hF.ext cx.upd.to_ext) hkj (fun k hk=>match k,hk with|0,_=>rfl|1,_=>rfl|2,_=>rfl|k+3,hk=>absurd hk (by omega))) ?_
 refine sqv (.bool ((p (kx,ky,kz)))) bO (eI rfl rfl rfl rfl rfl (fun _ _ _ h=>h) fun b a W X cx=>⟨_,_,fy (f:=f0) (args:=#[.agg #[.string kx,vi ((ky:Int)),vi kz]]) (args':=#[.agg #[.string kx,vi ((ky:Int)),vi kz]]++cap) rfl rfl (cx.ou 11) hcf (br (cx.ou 15)) (by rw[Array.empty_append]),(by have h9:=hf W (kx,ky,kz) cx.upd.to_ext;dsimp only at h9;exact h9)⟩) fun ow cj=>?_
 refine aa (wbs (fun qv=>?_) fun qv=>?_)
 refine wp_seq (sqr (sqp [.m 17 5,.m 4 17] ?_))
 refine aa (wp_ret (aB (ai (ai (aB (ai ?_))))))
 refine bpr (vi ((k:Int))) (ak Try.results82 rpt) ?_
 exact Ret.of (by rw[hkr,pf hkj,qv];rfl) cj.ext
 refine wp_skip (aw (aa (sqr (sqp [sI 18 ((k:Int)+1) (by omega),.m 8 18] ?_))))
 refine aa ?_
 refine⟨ks.length-((k+1)),by omega,?_⟩
 exact⟨(k+1),by omega,by rw[hkr,pf hkj,qv];rfl,rfl,(by kernel_rfl),cj.pk []⟩
 refine wp_exit (am (am (bj (aa (wp_seq (sqr (sqp [.k 4 (vi (-1))] ?_)))))))
 refine aa (wp_ret ?_)
 refine bpr (vi (-1)) (ak Try.results82 rpt) ?_
 exact Ret.of (by rw[hkr,List.drop_of_length_le (by omega)];rfl) bO.ext
theorem uY(FA:Option Addr)(fc:Nat)(ks:List EnD)(f0:FuncId)(cap:Array Value)(p:EnD->Bool)(w:World)(hF:At w FA (ks.flatMap enC))(hl:ks.length<=100000)(hcf:dV Try.prog f0=true)(hf:∀(W:World) (k:EnD),Ext w W->Calls Try.prog f0 (#[.agg #[.string k.1,.int .i64 (k.2.1:Int),.int .i64 k.2.2]]++cap) W (Ret (.bool (p k)) W)):
  Calls Try.prog 51 #[.slice FA ks.length fc,.func (.func f0) #[] cap] w (Ret (.bool (ks.any p)) w):=by
 go_enter Try.func51,Try.ntmps51
 have aq:=St.start w
 refine wp_seq (sqr (sqp [.k 4 (.bool false)] ?_))
 refine aa (wp_seq (sqr (sqp [.m 5 0,.m 6 1] ?_)))
 refine sqv (vi ((cG p 0 ks))) aq (eI rfl rfl rfl rfl rfl (fun _ _ _ h=>h) fun b a W X cx=>⟨_,_,av (args:=#[.slice FA ks.length fc,.func (.func f0) #[] cap]) rfl cx.sees rfl (by kernel_rfl) (aK (cx.ou 5) (cx.ou 6)),wg _ _ ks _ _ p _ (hF.ext cx.upd.to_ext) hl hcf (fun W k hW=>hf W k (cx.upd.to_ext.trans hW))⟩) fun W4 bQ=>?_
 refine sqp [.k 8 (.bool (decide (0<=(cG p 0 ks)))),.m 4 8] ?_
 refine aa (wp_ret ?_)
 refine bpr (.bool (decide (0<=(cG p 0 ks)))) (ak Try.results51 rpt) ?_
 exact Ret.of (by rw[<-CN _ _ 0 (by omega)]) bQ.ext
theorem Ai(x:ByteArray)(y z:Int)(tb:Nat)(te:ByteArray)(t1 tk tl:Int)(w:World)(h1:Blk w tb 106 #[.string te,.int .i64 t1,.int .i64 tk,.int .i64 tl]):
  Calls Try.prog 83 #[.agg #[.string x,.int .i64 y,.int .i64 z],.pointer (some ⟨tb,0,none⟩)] w (Ret (.bool (x.toList==te.toList)) w):=by
 go_enter Try.func83,Try.ntmps83
 have aq:=St.start w
 refine wp_seq (sqr ?_)
 refine bX #[.string x,vi y,vi z] aq fun bV W1 aC=>?_
 refine sqp [.k 3 (.bool false)] ?_
 refine aa (wp_seq (sqr (sqp [.k 4 (vp bV)] ?_)))
 refine al 0 aC ?_
 refine sqp [.k 6 (vp tb),.k 7 (vp tb)] ?_
 refine sql (.string te) aC (fun cx=>ae rfl (by kernel_rfl) (cx.ou 7) ((Blk.ext h1 cx.upd.to_ext).cell 0)) ?_
 refine sqp [.k 9 (.bool (x.toList==te.toList)),.m 3 9] ?_
 refine aa (wp_ret ?_)
 refine bpr (.bool (x.toList==te.toList)) (ak Try.results83 rpt) ?_
 exact Ret.bool rfl aC.ext
theorem Bl{A:Option Addr}{c:Nat}{es:List EnD}{w:World}{tb:Nat}{te:ByteArray}{t1 tk tl:Int}(hE:At w A (es.flatMap enC))(hl:es.length<=100000)(h1:Blk w tb 106 #[.string te,.int .i64 t1,.int .i64 tk,.int .i64 tl]):
  Calls Try.prog 51 #[.slice A es.length c,.func (.func 83) #[] #[.pointer (some ⟨tb,0,none⟩)]] w (Ret (.bool (di es te)) w):=
 uY A c es 83 #[.pointer (some ⟨tb,0,none⟩)] (fun e=>e.1.toList==te.toList) w hE hl (by kernel_rfl) (fun W k hW=>Ai k.1 _ k.2.2 tb te t1 tk tl W (h1.ext hW))
theorem ze(x:ByteArray)(y z:Int)(tb:Nat)(te:ByteArray)(t1 tk tl:Int)(w:World)(h1:Blk w tb 106 #[.string te,.int .i64 t1,.int .i64 tk,.int .i64 tl]):
  Calls Try.prog 48 #[.agg #[.string x,.int .i64 y,.int .i64 z],.pointer (some ⟨tb,0,none⟩)] w (Ret (.bool (x.toList==te.toList)) w):=by
 go_enter Try.func48,Try.ntmps48
 have aq:=St.start w
 refine wp_seq (sqr ?_)
 refine bX #[.string x,vi y,vi z] aq fun bV W1 aC=>?_
 refine sqp [.k 3 (.bool false)] ?_
 refine aa (wp_seq (sqr (sqp [.k 4 (vp bV)] ?_)))
 refine al 0 aC ?_
 refine sqp [.k 6 (vp tb),.k 7 (vp tb)] ?_
 refine sql (.string te) aC (fun cx=>ae rfl (by kernel_rfl) (cx.ou 7) ((Blk.ext h1 cx.upd.to_ext).cell 0)) ?_
 refine sqp [.k 9 (.bool (x.toList==te.toList)),.m 3 9] ?_
 refine aa (wp_ret ?_)
 refine bpr (.bool (x.toList==te.toList)) (ak Try.results48 rpt) ?_
 exact Ret.bool rfl aC.ext
theorem qC{A:Option Addr}{c:Nat}{es:List EnD}{w:World}{tb:Nat}{te:ByteArray}{t1 tk tl:Int}(hE:At w A (es.flatMap enC))(hl:es.length<=100000)(h1:Blk w tb 106 #[.string te,.int .i64 t1,.int .i64 tk,.int .i64 tl]):
  Calls Try.prog 51 #[.slice A es.length c,.func (.func 48) #[] #[.pointer (some ⟨tb,0,none⟩)]] w (Ret (.bool (di es te)) w):=
 uY A c es 48 #[.pointer (some ⟨tb,0,none⟩)] (fun e=>e.1.toList==te.toList) w hE hl (by kernel_rfl) (fun W k hW=>ze k.1 _ k.2.2 tb te t1 tk tl W (h1.ext hW))
end
section
open Go.RowKit
def tkK(t:TaT):List Value:=[.string t.1,.int .i64 0,.int .i64 t.2.2,.int .i64 t.2.1]
theorem fQ(t:TaT):(tkK t).length=4:=rfl
def ePk(b:Nat)(p:PuT)(fp:List Nat):Ent:=⟨fp,fun W=>∃A c g,fp=b::g/\b∉g/\p.left.length<=c/\(∀ad,A=some ad->p.left≠[]->ad.block∈g)/\(∀k∈g,k<W.heap.size)/\Blk W b 109 (puC p A c)/\At W A (p.left.flatMap tkK)⟩
theorem pX{e:Ent}{b:Nat}{p:PuT}{fp:List Nat}(h:e=ePk b p fp):e=ePk b p e.fp:=by subst h;rfl
theorem sP(b:Nat)(p:PuT)(fp:List Nat):(ePk b p fp).loc:=fun W W' hk h=>by
 obtain⟨A,c,g,rfl,h2,h3,h4,h5,h6,h7⟩:=h
 refine⟨A,c,g,rfl,h2,h3,h4,fun k hkg=>?_,(hk b (by simp[ePk])).trans h6,dZ h7 fun ad e hl=>hk _ (by simp[ePk,h4 ad e hl])⟩
 have h8:=hk k (by simp[ePk,hkg])
 rcases Nat.lt_or_ge k W'.heap.size with h9|h9
 exact h9
 rw[Array.getElem?_eq_none h9,Array.getElem?_eq_getElem (h5 k hkg)] at h8;cases h8
theorem dv{w W:World}{b:Nat}{g fp:List Nat}{p:PuT}{A:Option Addr}{c:Nat}{E:Ent}(h:St w [b] [eB b 109 (puC p A c),E] W)(hfp:fp=b::g)(hbg:b∉g)(hlt:∀k∈g,k<w.heap.size)(hc:p.left.length<=c)(hA:At W A (p.left.flatMap tkK))(hAg:∀ad,A=some ad->p.left≠[]->ad.block∈g):∃fp',St w fp [ePk b p fp',E] W:=by
 subst hfp
 have h1:=h.ok _ (List.mem_cons_self ..)
 have h2:=h.ok E (by simp)
 have ha:=List.pairwise_pair.1 h.apart
 have hB:Blk W b 109 (puC p A c):=h1.holds
 have hnew:∀k∈E.fp,w.heap.size<=k:=fun k hk=>by
  rcases(h2.own k hk).1 with h3|h3
  exact absurd hk (ha k (by simpa[eB] using h3))
  exact h3
 refine⟨b::g,h.upd.mono (fun k _ hk=>by simp at hk;simp[hk]),fun x hx=>?_,List.pairwise_pair.2 fun k hk hk'=>?_⟩
 simp only[List.mem_cons,List.not_mem_nil,or_false] at hx
 rcases hx with rfl|rfl
 refine⟨⟨A,c,g,rfl,hbg,hc,hAg,fun k hk=>Nat.lt_of_lt_of_le (hlt k hk) h.upd.size,hB,hA⟩,sP _ _ _,fun k hk=>⟨.inl hk,?_⟩⟩
 rcases List.mem_cons.1 hk with e|hk
 rw[e];exact hB.lt
 exact Nat.lt_of_lt_of_le (hlt k hk) h.upd.size
 exact⟨h2.holds,h2.loc,fun k hk=>⟨.inr (hnew k hk),(h2.own k hk).2⟩⟩
 have h4:=hnew k hk'
 rcases List.mem_cons.1 hk with e|hk
 exact ha k (by simp[eB,e]) hk'
 exact absurd (hlt k hk) (by omega)
theorem HP{w W:World}{b:Nat}{g fp:List Nat}{p:PuT}{A:Option Addr}{c:Nat}{E:Ent}(h:St w [b] [eB b 109 (puC p A c),eO 106 4 (.slice A p.left.length c) p.left.length (p.left.flatMap tkK),E] W)(hfp:fp=b::g):∃fp',St w fp [ePk b p fp',E] W:=by
 subst hfp
 have h1:=h.ok (eB b 109 (puC p A c)) (by simp)
 have h3:=h.ok (eO 106 4 (.slice A p.left.length c) p.left.length (p.left.flatMap tkK)) (by simp)
 have h2:=h.ok E (by simp)
 have hp:=h.apart
 rw[List.pairwise_cons,List.pairwise_pair] at hp
 have hB:Blk W b 109 (puC p A c):=h1.holds
 have hO:W.ownsRow 0 106 4 (.slice A p.left.length c) p.left.length (p.left.flatMap tkK):=h3.holds
 have hAb:∀k,k∈(Value.slice A p.left.length c).ownBlock.toList->w.heap.size<=k/\k<W.heap.size/\k≠b/\k∉E.fp:=fun k hk=>by
  have h4:=h3.own k hk
  have hne:k≠b:=fun e=>hp.1 (eO 106 4 (.slice A p.left.length c) p.left.length (p.left.flatMap tkK)) (by simp) b (by simp[eB]) (e ▸ hk)
  exact⟨h4.1.resolve_left (by simpa using hne),h4.2,hne,hp.2 k hk⟩
 have hnew:∀k∈E.fp,w.heap.size<=k:=fun k hk=>by
  rcases(h2.own k hk).1 with h4|h4
  exact absurd hk (hp.1 E (by simp) k (by simpa[eB] using h4))
  exact h4
 refine⟨b::(Value.slice A p.left.length c).ownBlock.toList,h.upd.mono (fun k _ hk=>by simp at hk;simp[hk]),fun x hx=>?_,List.pairwise_pair.2 fun k hk hk'=>?_⟩
 simp only[List.mem_cons,List.not_mem_nil,or_false] at hx
 rcases hx with rfl|rfl
 refine⟨⟨A,c,_,rfl,fun hm=>(hAb b hm).2.2.1 rfl,d4 hO,fun ad e hl=>?_,fun k hk=>(hAb k hk).2.1,hB,At.of_ownN hO⟩,sP _ _ _,fun k hk=>?_⟩
 subst e
 rcases hO.2 with ⟨hv,hm⟩|⟨g',cap,cur,hv,_⟩
 injection hv with h5;cases h5
 injection hv with h5;injection h5 with h5;subst h5;simp[Value.ownBlock]
 rcases List.mem_cons.1 hk with e|hk
 rw[e];exact⟨.inl (List.mem_cons_self ..),hB.lt⟩
 exact⟨.inr (hAb k hk).1,(hAb k hk).2.1⟩
 exact⟨h2.holds,h2.loc,fun k hk=>⟨.inr (hnew k hk),(h2.own k hk).2⟩⟩
 rcases List.mem_cons.1 hk with e|hk
 exact hp.1 E (by simp) k (by simp[eB,e]) hk'
 exact(hAb k hk).2.2.2 hk'
theorem HQ{w W:World}{b:Nat}{p:PuT}{A:Option Addr}{c:Nat}(h:St w [] [eB b 109 (puC p A c),eO 106 4 (.slice A p.left.length c) p.left.length (p.left.flatMap tkK)] W):∃fp,St w [] [ePk b p fp] W:=by
 have h1:=h.ok (eB b 109 (puC p A c)) (by simp)
 have h3:=h.ok (eO 106 4 (.slice A p.left.length c) p.left.length (p.left.flatMap tkK)) (by simp)
 have hp:=List.pairwise_pair.1 h.apart
 have hB:Blk W b 109 (puC p A c):=h1.holds
 have hO:W.ownsRow 0 106 4 (.slice A p.left.length c) p.left.length (p.left.flatMap tkK):=h3.holds
 refine⟨b::(Value.slice A p.left.length c).ownBlock.toList,h.upd,fun x hx=>?_,List.pairwise_singleton _ _⟩
 rw[List.mem_singleton] at hx
 subst hx
 refine⟨⟨A,c,_,rfl,fun hm=>hp b (by simp[eB]) hm,d4 hO,fun ad e hl=>?_,fun k hk=>(h3.own k hk).2,hB,At.of_ownN hO⟩,sP _ _ _,fun k hk=>?_⟩
 subst e
 rcases hO.2 with ⟨hv,hm⟩|⟨g',cap,cur,hv,_⟩
 injection hv with h5;cases h5
 injection hv with h5;injection h5 with h5;subst h5;simp[Value.ownBlock]
 rcases List.mem_cons.1 hk with e|hk
 rw[e];exact h1.own b (by simp[eB])
 exact h3.own k hk
theorem jK{lc:Nat}{la ad:Addr}(h:(if lc=1 then some la else (some la).map (·.add (1*4)))=some ad):ad.block=la.block:=by
 split at h
 rw[<-Option.some.inj h]
 have h2:=Option.some.inj h;rw[<-h2,gk]
def Iz(p:PuT)(w:World)(e:Ending)(w':World):Prop:=∃b fp,e= .returned (.pointer (some ⟨b,0,none⟩))/\St w [] [ePk b p fp] w'
def Am(b:Nat)(cells:Array Value)(eds:List EdT)(w:World)(e:Ending)(w':World):Prop:=∃A c,e= .returned (.slice A eds.length c)/\St w [b] [eB b 109 cells,eO 99 3 (.slice A eds.length c) eds.length (eds.flatMap edC)] w'
def kE(b:Nat)(r:PuT×GoT)(fp:List Nat)(w:World)(e:Ending)(w':World):Prop:=∃A c,e= .returned (.tuple #[.slice A r.2.eds.length c,.bool r.2.used,.int .i64 r.2.err])/\∃fp',St w fp [ePk b r.1 fp',eO 99 3 (.slice A r.2.eds.length c) r.2.eds.length (r.2.eds.flatMap edC)] w'
theorem qE(root:Int)(key:ByteArray)(pg sl:Int)(w:World)(hk:key.size<=1000000):
  Calls Try.prog 12 #[.int .i64 root,.string key,.agg #[.int .i64 pg,.int .i64 sl]] w (Iz (dD root key pg sl) w):=by
 go_enter Try.func12,Try.ntmps12
 have aq:=St.start w
 refine wp_seq (sqr ?_)
 refine bX #[vi pg,vi sl] aq fun bv W1 aC=>?_
 refine sqp [.k 6 (.pointer none)] ?_
 refine aa (wp_seq (sqr (sqp [.m 7 0,.m 8 0,.m 9 1] ?_)))
 refine d9 0 2 aC ?_
 refine sqk (.string (bu key pg sl)) aC (fun cx=>⟨_,gI key pg sl _ (by omega),(aK (cx.ou 9) (cx.ou 10))⟩) fun W7 bF=>?_
 refine sqp [.k 12 (.agg #[.string (bu key pg sl),vi 0,vi 0]),.k 13 (.agg #[.string (bu key pg sl),vi 0,vi 0,vi 0])] ?_
 refine pT 106 4 1 [.string (bu key pg sl),vi 0,vi 0,vi 0] bF (@fun a b W X cx=>by have qs:a (.tmp 13)= .agg #[.string (bu key pg sl),vi 0,vi 0,vi 0]:=(cx.ou 13);simp[go_sem,qs]) fun Cc ul cX=>?_
 refine sqp [.k 15 (.agg #[vi root,vi root,vi (-1),.slice ((some ⟨Cc,0,none⟩)) 1 1,vi 0,vi 0,.bool false])] ?_
 refine bX #[vi root,vi root,vi (-1),.slice ((some ⟨Cc,0,none⟩)) 1 1,vi 0,vi 0,.bool false] cX fun JF nD cb=>?_
 refine sqp [.m 6 16] ?_
 refine aa (wp_ret ?_)
 refine bpr (vp JF) (ak Try.results12 rpt) ?_
 obtain⟨fp_,hgw_⟩:=HQ (p:=dD root key pg sl) (cb.pick [2,1] (by decide) rfl)
 exact⟨_,_,rfl,hgw_⟩
theorem GK(b:Nat)(root pos leaf fro to:Int)(spl:Bool)(LA:Option Addr)(ln lc:Nat)(w:World)(hb:Blk w b 109 #[.int .i64 root,.int .i64 pos,.int .i64 leaf,.slice LA ln lc,.int .i64 fro,.int .i64 to,.bool spl]):
  Calls Try.prog 21 #[.pointer (some ⟨b,0,none⟩)] w (Ret (.bool ((ln:Int)==0)) w):=by
 go_enter Try.func21,Try.ntmps21
 have aq:=St.start w
 refine wp_seq (sqr (sqp [.k 2 (.bool false)] ?_))
 refine aa (wp_seq (sqr (sqp [.m 3 0] ?_)))
 refine sqv (.bool false) aq (by
   exact sv0 rfl rfl rfl rfl rfl (fun _ _ _ h=>h) fun a c W X cx=>by
    have Cd:a (.tmp 3)=vp b:=(cx.ou 3)
    simp[go_sem,cx.sees.const,Cd]) fun W3 bG=>?_
 refine sqp [.k 5 (.bool false)] ?_
 refine fW 5 [6,7,8,9,10,11] rfl rfl ?_
 refine sqp [.m 6 0,.k 7 (vp b),.k 8 (.pointer (some ⟨b,3,none⟩))] ?_
 refine sql (.slice LA ln lc) bG (fun cx=>ae rfl (by kernel_rfl) (cx.ou 8) ((Blk.ext hb cx.upd.to_ext).cell 3)) ?_
 refine sqp [.k 10 (vi ((ln:Int))),.k 11 (.bool ((ln:Int)==0))] ?_
 refine sqp [.k 12 (.bool ((ln:Int)==0)),.m 2 12] ?_
 refine aa (wp_ret ?_)
 refine bpr (.bool ((ln:Int)==0)) (ak Try.results21 rpt) ?_
 exact Ret.bool (by simp) bG.ext
theorem FQ(b:Nat)(root pos leaf fro to:Int)(spl:Bool)(LA:Option Addr)(ln lc:Nat)(w:World)(hb:Blk w b 109 #[.int .i64 root,.int .i64 pos,.int .i64 leaf,.slice LA ln lc,.int .i64 fro,.int .i64 to,.bool spl]):
  Calls Try.prog 23 #[.pointer (some ⟨b,0,none⟩)] w (Ret (.int .i64 leaf) w):=by
 go_enter Try.func23,Try.ntmps23
 have aq:=St.start w
 refine wp_seq (sqr (sqp [.k 2 (vi 0)] ?_))
 refine aa (wp_seq (wp_seq (sqr (sqp [.m 3 0] ?_))))
 refine sqv (.bool false) aq (by
   exact sv0 rfl rfl rfl rfl rfl (fun _ _ _ h=>h) fun a c W X cx=>by
    have Cd:a (.tmp 3)=vp b:=(cx.ou 3)
    simp[go_sem,cx.sees.const,Cd]) fun W3 bG=>?_
 refine aa (wcf rfl (wp_skip (aa (wp_seq (sqr (sqp [.m 5 0,.k 6 (vp b),.k 7 (.pointer (some ⟨b,2,none⟩))] ?_))))))
 refine sql (vi leaf) bG (fun cx=>ae rfl (by kernel_rfl) (cx.ou 7) ((Blk.ext hb cx.upd.to_ext).cell 2)) ?_
 refine sqp [.m 2 8] ?_
 refine aa (wp_ret ?_)
 refine bpr (vi leaf) (ak Try.results23 rpt) ?_
 exact Ret.of rfl bG.ext
theorem vm{b:Nat}{p:PuT}{fp:List Nat}{w:World}(h:(ePk b p fp).holds w):Calls Try.prog 21 #[.pointer (some ⟨b,0,none⟩)] w (Ret (.bool ((p.left.length:Int)==0)) w):=by
 obtain⟨A,c,g,_,_,_,_,_,hB,_⟩:=h
 exact GK b p.root p.pos p.leaf p.fro p.to p.spl A p.left.length c w hB
theorem Dq{b:Nat}{p:PuT}{fp:List Nat}{w:World}(h:(ePk b p fp).holds w):Calls Try.prog 23 #[.pointer (some ⟨b,0,none⟩)] w (Ret (.int .i64 p.leaf) w):=by
 obtain⟨A,c,g,_,_,_,_,_,hB,_⟩:=h
 exact FQ b p.root p.pos p.leaf p.fro p.to p.spl A p.left.length c w hB
theorem kK(b:Nat)(root pos leaf fro to:Int)(spl:Bool)(la:Addr)(ln lc:Nat)(nd:NoD)(np:Int)(EA:Option Addr)(ec:Nat)(te:ByteArray)(t1 tk tl:Int)(q:Bool)(w:World)(hb:Blk w b 109 #[.int .i64 root,.int .i64 pos,.int .i64 leaf,.slice ((some la)) ln lc,.int .i64 fro,.int .i64 to,.bool spl])(hE:∀W,Upd [b] w W->At W EA (nd.es.flatMap enC))(hel:nd.es.length<=1000)(hln:1<=ln)(hlc:ln<=lc)(hte:te.size<=1000000)(hq:di nd.es te=q):
  Calls Try.prog 52 #[.pointer (some ⟨b,0,none⟩),.agg #[.int .i64 np,.int .i64 nd.lv,.int .i64 nd.right,.string nd.high,.bool nd.dead,.slice EA nd.es.length ec,.int .i64 ((nd.free:Int))],.agg #[.string te,.int .i64 t1,.int .i64 tk,.int .i64 tl]] w (Am b #[.int .i64 root,.int .i64 root,.int .i64 ((if tl=0 then np else leaf)),.slice ((if lc=1 then some la else (some la).map (·.add (1*4)))) ((ln-1)) ((lc-1)),.int .i64 fro,.int .i64 to,.bool spl] (if q=true then [] else [(np,(nd.free:Int),itB nd.lv tk te)]) w):=by
 have st0:=St.lend (E:=eB b 109 #[.int .i64 root,.int .i64 pos,.int .i64 leaf,.slice ((some la)) ln lc,.int .i64 fro,.int .i64 to,.bool spl]) hb (dH _ _ _) (fun k hk=>by simp[eB] at hk;subst hk;exact hb.lt)
 go_enter Try.func52,Try.ntmps52
 have aq:=st0
 refine wp_seq (sqr ?_)
 refine bX #[vi np,vi nd.lv,vi nd.right,.string nd.high,.bool nd.dead,.slice EA nd.es.length ec,vi ((nd.free:Int))] aq fun aW W1 aC=>?_
 refine bX #[.string te,vi t1,vi tk,vi tl] aC fun ir W2 aV=>?_
 refine sqp [.k 6 (.slice none 0 0)] ?_
 refine aa (wp_seq (sqr (sqp [.k 7 (.slice none 0 0)] ?_)))
 refine aa (wp_seq (wp_seq (sqr (sqp [.k 8 (.pointer (some ⟨aW,5,none⟩))] ?_))))
 refine al 1 aV ?_
 refine sqv (.func (.func 83) #[] #[vp ir]) aV (by
   exact sv0 rfl rfl rfl rfl rfl (fun _ _ _ h=>h) fun g d W X cx=>by
    have JG:g (.tmp 5)=vp ir:=(cx.ou 5)
    simp[go_sem,Instr.makeFunc,JG]) fun W7 bF=>?_
 refine sqk (.bool ((di nd.es te))) bF (fun cx=>⟨_,Bl (hE _ cx.upd) (by omega) (cx.bi 2 rfl),(aK (cx.ou 9) (cx.ou 10))⟩) fun W8 bt=>?_
 refine sqp [.k 12 (.bool (!((di nd.es te))))] ?_
 refine aa ?_
 rcases Bool.eq_false_or_eq_true ((di nd.es te)) with gA|gA
 refine wp_cond_false (show Act.eval _ _= .bool false from(congrArg Value.bool (by rw[gA];rfl))) (wp_skip (aa (wp_seq (wp_seq (sqr (sqp [.k 23 (.pointer (some ⟨ir,3,none⟩))] ?_))))))
 refine al 2 bt ?_
 refine sqp [.k 25 (.bool (tl==0))] ?_
 refine aa (wbs (fun gU=>?_) fun gU=>?_)
 have pq:=beq_iff_eq.1 gU
 refine sqr (sqp [.m 26 0,.k 27 (vp aW)] ?_)
 refine al 1 bt ?_
 refine sqp [.k 29 (vp b),.k 30 (.pointer (some ⟨b,2,none⟩))] ?_
 refine aF (n:=1) 0 #[vi root,vi pos,vi np,.slice ((some la)) ln lc,vi fro,vi to,.bool spl] bt fun wD dL=>?_
 refine aa (wp_seq (aj [0,0,0,4,12,28,60,0,128,384,896,2045,4093,8189,16383,32767,65535] [[],[],[],[],[],[0],[],[],[],[],[0],[],[],[0],[],[],[3]] [[],[],[],[],[],[],[],[],[],[],[],[],[],[3],[],[],[4]] [[],[],[],[],[],[],[],[],[],[],[],[],[],[0],[],[],[3]] [.k 31 (vp b),.k 32 (vp b),.k 33 (vp b),.k 34 (vp b),.k 35 (.pointer (some ⟨b,3,none⟩)),.c 36 (.slice ((some la)) ln lc),.c 37 (.slice ((if lc=1 then (some la) else ((some la)).map (·.add (1*4)))) ((ln-1)) ((lc-1))),.k 38 (vp b),.k 39 (vp b),.k 40 (vp b),.c 41 (vi root),.k 42 (vp b),.k 43 (.pointer (some ⟨b,3,none⟩)),.n,.k 44 (vp b),.k 45 (.pointer (some ⟨b,1,none⟩)),.n] (fun ix f d X=>match ix with|0|1|2|3|4|5|6|7|8|9|10|11|12=>True|13=>X 3=eB b 109 #[vi root,vi pos,vi np,.slice ((if lc=1 then (some la) else ((some la)).map (·.add (1*4)))) ((ln-1)) ((lc-1)),vi fro,vi to,.bool spl]|14|15=>True|16=>X 4=eB b 109 #[vi root,vi root,vi np,.slice ((if lc=1 then (some la) else ((some la)).map (·.add (1*4)))) ((ln-1)) ((lc-1)),vi fro,vi to,.bool spl]|_=>True) [1,2,4] [5,6,10,13,16] [(31,0,16,46)] dL ?_ ?_ ?_))
 exact fun ix _ _ _ _ _ _ hs hb hx h=>match ix,h with
 |13,h=>by dsimp only;rw[<-hx 3 rfl];exact h
 |16,h=>by dsimp only;rw[<-hx 4 rfl];exact h
 |0,_|1,_|2,_|3,_|4,_|5,_|6,_|7,_|8,_|9,_|10,_|11,_|12,_|14,_|15,_|_+17,_=>trivial
 refine⟨?_,?_,?_,?_,?_,trivial⟩
 exact xs4 rfl id fun cx=>ae rfl (by kernel_rfl) (cx.an 4) ((cx.bi 0 rfl).cell 3)
 exact xs4 rfl id fun cx=>b6 (e:=106) (sz:=4) (l:=1) rfl (by kernel_rfl) (by kernel_rfl) (cx.an 5) (cx.co _) (by omega) (by omega)
 exact xs4 rfl id fun cx=>ae rfl (by kernel_rfl) (cx.an 9) ((cx.bi 0 rfl).cell 0)
 refine svA fun g d W X cx=>?_
 exact ar (n:=1) rfl (cx.an 12) (cx.an 6) (by kernel_rfl) (by kernel_rfl) (by kernel_rfl) cx (cx.init 0 _ rfl) rfl (nle rfl) (by kernel_rfl) rfl rfl rfl (fun _ _ _ _ _=>id)
 refine svA fun g d W X cx=>?_
 exact ar (n:=1) rfl (cx.an 15) (cx.an 10) (by kernel_rfl) (by kernel_rfl) (by kernel_rfl) cx (dTn (cx.an 13)) rfl (nle rfl) (by kernel_rfl) rfl rfl rfl (fun _ _ _ _ _=>id)
 intro f d X BN hD fI fr af
 simp only[exq 4 ((dTn (hD 16 lq)))] at fI
 clear hD;subst af;clear f d X
 refine aa (wp_seq (sqr (sqp [.m 46 7,.m 6 46] ?_)))
 refine aa (wp_ret ?_)
 refine bpr (.slice none 0 0) (ak Try.results52 rpt) ?_
 have hqq:q=true:=hq.symm.trans gA
 have htl0:tl=0:=by have h_:=gU;simpa using h_
 rw[if_pos htl0,hqq]
 have hn24:=bM fI 99 3
 simp only[List.cons_append,List.nil_append] at hn24
 exact⟨_,_,rfl,hn24.pick [2,3] (by decide) rfl⟩
 have pq:=beq_eq_false_iff_ne.1 gU
 refine wp_skip (aa (wp_seq (aj [0,0,0,4,12,28,60,0,128,384,896,2045,4093,8189,16383,32767,65535] [[],[],[],[],[],[0],[],[],[],[],[0],[],[],[0],[],[],[3]] [[],[],[],[],[],[],[],[],[],[],[],[],[],[3],[],[],[4]] [[],[],[],[],[],[],[],[],[],[],[],[],[],[0],[],[],[3]] [.k 31 (vp b),.k 32 (vp b),.k 33 (vp b),.k 34 (vp b),.k 35 (.pointer (some ⟨b,3,none⟩)),.c 36 (.slice ((some la)) ln lc),.c 37 (.slice ((if lc=1 then (some la) else ((some la)).map (·.add (1*4)))) ((ln-1)) ((lc-1))),.k 38 (vp b),.k 39 (vp b),.k 40 (vp b),.c 41 (vi root),.k 42 (vp b),.k 43 (.pointer (some ⟨b,3,none⟩)),.n,.k 44 (vp b),.k 45 (.pointer (some ⟨b,1,none⟩)),.n] (fun ix f d X=>match ix with|0|1|2|3|4|5|6|7|8|9|10|11|12=>True|13=>X 3=eB b 109 #[vi root,vi pos,vi leaf,.slice ((if lc=1 then (some la) else ((some la)).map (·.add (1*4)))) ((ln-1)) ((lc-1)),vi fro,vi to,.bool spl]|14|15=>True|16=>X 4=eB b 109 #[vi root,vi root,vi leaf,.slice ((if lc=1 then (some la) else ((some la)).map (·.add (1*4)))) ((ln-1)) ((lc-1)),vi fro,vi to,.bool spl]|_=>True) [1,2,4] [5,6,10,13,16] [(31,0,16,46)] bt ?_ ?_ ?_)))
 exact fun ix _ _ _ _ _ _ hs hb hx h=>match ix,h with
 |13,h=>by dsimp only;rw[<-hx 3 rfl];exact h
 |16,h=>by dsimp only;rw[<-hx 4 rfl];exact h
 |0,_|1,_|2,_|3,_|4,_|5,_|6,_|7,_|8,_|9,_|10,_|11,_|12,_|14,_|15,_|_+17,_=>trivial
 refine⟨?_,?_,?_,?_,?_,trivial⟩
 exact xs4 rfl id fun cx=>ae rfl (by kernel_rfl) (cx.an 4) ((cx.bi 0 rfl).cell 3)
 exact xs4 rfl id fun cx=>b6 (e:=106) (sz:=4) (l:=1) rfl (by kernel_rfl) (by kernel_rfl) (cx.an 5) (cx.co _) (by omega) (by omega)
 exact xs4 rfl id fun cx=>ae rfl (by kernel_rfl) (cx.an 9) ((cx.bi 0 rfl).cell 0)
 refine svA fun g d W X cx=>?_
 exact ar (n:=1) rfl (cx.an 12) (cx.an 6) (by kernel_rfl) (by kernel_rfl) (by kernel_rfl) cx (cx.init 0 _ rfl) rfl (nle rfl) (by kernel_rfl) rfl rfl rfl (fun _ _ _ _ _=>id)
 refine svA fun g d W X cx=>?_
 exact ar (n:=1) rfl (cx.an 15) (cx.an 10) (by kernel_rfl) (by kernel_rfl) (by kernel_rfl) cx (dTn (cx.an 13)) rfl (nle rfl) (by kernel_rfl) rfl rfl rfl (fun _ _ _ _ _=>id)
 intro f d X BT hD ev fr af
 simp only[exq 4 ((dTn (hD 16 lq)))] at ev
 clear hD;subst af;clear f d X
 refine aa (wp_seq (sqr (sqp [.m 46 7,.m 6 46] ?_)))
 refine aa (wp_ret ?_)
 refine bpr (.slice none 0 0) (ak Try.results52 rpt) ?_
 have hqq:q=true:=hq.symm.trans gA
 have htl0:¬tl=0:=by have h_:=gU;simpa using h_
 rw[if_neg htl0,hqq]
 have hn28:=bM ev 99 3
 simp only[List.cons_append,List.nil_append] at hn28
 exact⟨_,_,rfl,hn28.pick [2,3] (by decide) rfl⟩
 refine wp_cond_true (show Act.eval _ _= .bool true from(congrArg Value.bool (by rw[gA];rfl))) (aj [0,1,0,4,0,0,32,112,255,511,1023] [[],[1],[],[1],[1],[],[2]] [[],[],[],[],[],[],[],[],[],[3]] [] [.k 13 (vp aW),.c 14 (vi np),.k 15 (.pointer (some ⟨aW,6,none⟩)),.c 16 (vi ((nd.free:Int))),.c 17 (.agg #[vi np,vi nd.lv,vi nd.right,.string nd.high,.bool nd.dead,.slice EA nd.es.length ec,vi ((nd.free:Int))]),.k 18 (vp ir),.c 19 (.agg #[.string te,vi t1,vi tk]),.c 20 (.string (itB nd.lv tk te)),.k 21 (.agg #[vi np,vi ((nd.free:Int)),.string (itB nd.lv tk te)]),.a 22,.a 7] (fun ix f d X=>match ix with|0|1|2|3|4|5|6|7|8=>True|9=>f 22= .slice ((some ⟨(pb' (d 22)),0,none⟩)) 1 1/\X 3=eO 99 3 (.slice ((some ⟨(pb' (d 22)),0,none⟩)) 1 1) 1 ([vi np,vi ((nd.free:Int)),.string (itB nd.lv tk te)])|10=>f 7= .slice ((some ⟨(pb' (d 22)),0,none⟩)) 1 1|_=>True) [0,1,2,3] [1,3,4,6,7,9,10] [(7,10,1,8),(5,0,10,15)] bt ?_ ?_ ?_)
 exact fun ix _ _ _ _ _ _ hs hb hx h=>match ix,h with
 |9,h=>by dsimp only;rw[<-hs 22 rfl,<-hb 22 rfl,<-hx 3 rfl];exact h
 |10,h=>by dsimp only;rw[<-hs 7 rfl,<-hb 22 rfl];exact h
 |0,_|1,_|2,_|3,_|4,_|5,_|6,_|7,_|8,_|_+11,_=>trivial
 refine⟨?_,?_,?_,?_,?_,?_,?_,trivial⟩
 exact xs4 rfl id fun cx=>ae rfl (by kernel_rfl) (cx.an 0) ((cx.bi 1 rfl).cell 0)
 exact xs4 rfl id fun cx=>ae rfl (by kernel_rfl) (cx.an 2) ((cx.bi 1 rfl).cell 6)
 exact xs4 rfl id fun cx=>aO (n:=7) rfl (by kernel_rfl) (by kernel_rfl) (cx.ou 4) (cx.bi 1 rfl) (nle rfl) rfl
 exact xs4 rfl id fun cx=>aO (n:=3) rfl (by kernel_rfl) (by kernel_rfl) (cx.an 5) (cx.bi 2 rfl) (nle rfl) rfl
 exact xsc rfl id rfl rfl fun cx=>⟨_,k7 np nd.lv nd.right (nd.free:Int) nd.high nd.dead _ _ _ te t1 tk _ (by omega),(aK (cx.an 4) (cx.an 6))⟩
 refine svA fun g d W X cx=>?_
 have Ea:g (.tmp 21)= .agg #[vi np,vi ((nd.free:Int)),.string (itB nd.lv tk te)]:=(cx.an 8)
 exact bS (e:=99) (sz:=3) (xs:=[vi np,vi ((nd.free:Int)),.string (itB nd.lv tk te)]) rfl (by simp[go_sem,Ea]) rfl (by decide) rfl rfl (fun _ _ _ _ _=> .intro)
 exact sv rfl rfl rfl rfl rfl _ (fun _ _ _ h=>h) (fun d i h=>by rw[h 22 (by decide)]) fun g d W X cx=>aN rfl (dTn (cx.an 9)).1
 intro f d X EO hD ew fr af
 simp only[exq 3 ((dTn (hD 9 lq)).2)] at ew
 simp only[ed 22 ((dTn (hD 9 lq)).1),ed 7 ((dTn (hD 10 lq)))] at af
 generalize pb' (d 22)=Ce at ew af
 clear hD;subst af;clear f d X
 refine aa (wp_seq (wp_seq (sqr (sqp [.k 23 (.pointer (some ⟨ir,3,none⟩))] ?_))))
 refine al 2 ew ?_
 refine sqp [.k 25 (.bool (tl==0))] ?_
 refine aa (wbs (fun jo=>?_) fun jo=>?_)
 have rR:=beq_iff_eq.1 jo
 refine sqr (sqp [.m 26 0,.k 27 (vp aW)] ?_)
 refine al 1 ew ?_
 refine sqp [.k 29 (vp b),.k 30 (.pointer (some ⟨b,2,none⟩))] ?_
 refine aF (n:=1) 0 #[vi root,vi pos,vi np,.slice ((some la)) ln lc,vi fro,vi to,.bool spl] ew fun wR ey=>?_
 refine aa (wp_seq (aj [0,0,0,4,12,28,60,0,128,384,896,2045,4093,8189,16383,32767,65535] [[],[],[],[],[],[0],[],[],[],[],[0],[],[],[0],[],[],[4]] [[],[],[],[],[],[],[],[],[],[],[],[],[],[4],[],[],[5]] [[],[],[],[],[],[],[],[],[],[],[],[],[],[0],[],[],[4]] [.k 31 (vp b),.k 32 (vp b),.k 33 (vp b),.k 34 (vp b),.k 35 (.pointer (some ⟨b,3,none⟩)),.c 36 (.slice ((some la)) ln lc),.c 37 (.slice ((if lc=1 then (some la) else ((some la)).map (·.add (1*4)))) ((ln-1)) ((lc-1))),.k 38 (vp b),.k 39 (vp b),.k 40 (vp b),.c 41 (vi root),.k 42 (vp b),.k 43 (.pointer (some ⟨b,3,none⟩)),.n,.k 44 (vp b),.k 45 (.pointer (some ⟨b,1,none⟩)),.n] (fun ix f d X=>match ix with|0|1|2|3|4|5|6|7|8|9|10|11|12=>True|13=>X 4=eB b 109 #[vi root,vi pos,vi np,.slice ((if lc=1 then (some la) else ((some la)).map (·.add (1*4)))) ((ln-1)) ((lc-1)),vi fro,vi to,.bool spl]|14|15=>True|16=>X 5=eB b 109 #[vi root,vi root,vi np,.slice ((if lc=1 then (some la) else ((some la)).map (·.add (1*4)))) ((ln-1)) ((lc-1)),vi fro,vi to,.bool spl]|_=>True) [1,2,3,5] [5,6,10,13,16] [(31,0,16,46)] ey ?_ ?_ ?_))
 exact fun ix _ _ _ _ _ _ hs hb hx h=>match ix,h with
 |13,h=>by dsimp only;rw[<-hx 4 rfl];exact h
 |16,h=>by dsimp only;rw[<-hx 5 rfl];exact h
 |0,_|1,_|2,_|3,_|4,_|5,_|6,_|7,_|8,_|9,_|10,_|11,_|12,_|14,_|15,_|_+17,_=>trivial
 refine⟨?_,?_,?_,?_,?_,trivial⟩
 exact xs4 rfl id fun cx=>ae rfl (by kernel_rfl) (cx.an 4) ((cx.bi 0 rfl).cell 3)
 exact xs4 rfl id fun cx=>b6 (e:=106) (sz:=4) (l:=1) rfl (by kernel_rfl) (by kernel_rfl) (cx.an 5) (cx.co _) (by omega) (by omega)
 exact xs4 rfl id fun cx=>ae rfl (by kernel_rfl) (cx.an 9) ((cx.bi 0 rfl).cell 0)
 refine svA fun g d W X cx=>?_
 exact ar (n:=1) rfl (cx.an 12) (cx.an 6) (by kernel_rfl) (by kernel_rfl) (by kernel_rfl) cx (cx.init 0 _ rfl) rfl (nle rfl) (by kernel_rfl) rfl rfl rfl (fun _ _ _ _ _=>id)
 refine svA fun g d W X cx=>?_
 exact ar (n:=1) rfl (cx.an 15) (cx.an 10) (by kernel_rfl) (by kernel_rfl) (by kernel_rfl) cx (dTn (cx.an 13)) rfl (nle rfl) (by kernel_rfl) rfl rfl rfl (fun _ _ _ _ _=>id)
 intro f d X EI hD gL fr af
 simp only[exq 5 ((dTn (hD 16 lq)))] at gL
 clear hD;subst af;clear f d X
 refine aa (wp_seq (sqr (sqp [.m 46 7,.m 6 46] ?_)))
 refine aa (wp_ret ?_)
 refine bpr (.slice ((some ⟨Ce,0,none⟩)) 1 1) (ak Try.results52 rpt) ?_
 have hqq:q=false:=hq.symm.trans gA
 have htl0:tl=0:=by have h_:=jo;simpa using h_
 rw[if_pos htl0,hqq]
 exact⟨_,_,rfl,gL.pick [3,2] (by decide) rfl⟩
 have rR:=beq_eq_false_iff_ne.1 jo
 refine wp_skip (aa (wp_seq (aj [0,0,0,4,12,28,60,0,128,384,896,2045,4093,8189,16383,32767,65535] [[],[],[],[],[],[0],[],[],[],[],[0],[],[],[0],[],[],[4]] [[],[],[],[],[],[],[],[],[],[],[],[],[],[4],[],[],[5]] [[],[],[],[],[],[],[],[],[],[],[],[],[],[0],[],[],[4]] [.k 31 (vp b),.k 32 (vp b),.k 33 (vp b),.k 34 (vp b),.k 35 (.pointer (some ⟨b,3,none⟩)),.c 36 (.slice ((some la)) ln lc),.c 37 (.slice ((if lc=1 then (some la) else ((some la)).map (·.add (1*4)))) ((ln-1)) ((lc-1))),.k 38 (vp b),.k 39 (vp b),.k 40 (vp b),.c 41 (vi root),.k 42 (vp b),.k 43 (.pointer (some ⟨b,3,none⟩)),.n,.k 44 (vp b),.k 45 (.pointer (some ⟨b,1,none⟩)),.n] (fun ix f d X=>match ix with|0|1|2|3|4|5|6|7|8|9|10|11|12=>True|13=>X 4=eB b 109 #[vi root,vi pos,vi leaf,.slice ((if lc=1 then (some la) else ((some la)).map (·.add (1*4)))) ((ln-1)) ((lc-1)),vi fro,vi to,.bool spl]|14|15=>True|16=>X 5=eB b 109 #[vi root,vi root,vi leaf,.slice ((if lc=1 then (some la) else ((some la)).map (·.add (1*4)))) ((ln-1)) ((lc-1)),vi fro,vi to,.bool spl]|_=>True) [1,2,3,5] [5,6,10,13,16] [(31,0,16,46)] ew ?_ ?_ ?_)))
 exact fun ix _ _ _ _ _ _ hs hb hx h=>match ix,h with
 |13,h=>by dsimp only;rw[<-hx 4 rfl];exact h
 |16,h=>by dsimp only;rw[<-hx 5 rfl];exact h
 |0,_|1,_|2,_|3,_|4,_|5,_|6,_|7,_|8,_|9,_|10,_|11,_|12,_|14,_|15,_|_+17,_=>trivial
 refine⟨?_,?_,?_,?_,?_,trivial⟩
 exact xs4 rfl id fun cx=>ae rfl (by kernel_rfl) (cx.an 4) ((cx.bi 0 rfl).cell 3)
 exact xs4 rfl id fun cx=>b6 (e:=106) (sz:=4) (l:=1) rfl (by kernel_rfl) (by kernel_rfl) (cx.an 5) (cx.co _) (by omega) (by omega)
 exact xs4 rfl id fun cx=>ae rfl (by kernel_rfl) (cx.an 9) ((cx.bi 0 rfl).cell 0)
 refine svA fun g d W X cx=>?_
 exact ar (n:=1) rfl (cx.an 12) (cx.an 6) (by kernel_rfl) (by kernel_rfl) (by kernel_rfl) cx (cx.init 0 _ rfl) rfl (nle rfl) (by kernel_rfl) rfl rfl rfl (fun _ _ _ _ _=>id)
 refine svA fun g d W X cx=>?_
 exact ar (n:=1) rfl (cx.an 15) (cx.an 10) (by kernel_rfl) (by kernel_rfl) (by kernel_rfl) cx (dTn (cx.an 13)) rfl (nle rfl) (by kernel_rfl) rfl rfl rfl (fun _ _ _ _ _=>id)
 intro f d X Jq hD fi fr af
 simp only[exq 5 ((dTn (hD 16 lq)))] at fi
 clear hD;subst af;clear f d X
 refine aa (wp_seq (sqr (sqp [.m 46 7,.m 6 46] ?_)))
 refine aa (wp_ret ?_)
 refine bpr (.slice ((some ⟨Ce,0,none⟩)) 1 1) (ak Try.results52 rpt) ?_
 have hqq:q=false:=hq.symm.trans gA
 have htl0:¬tl=0:=by have h_:=jo;simpa using h_
 rw[if_neg htl0,hqq]
 exact⟨_,_,rfl,fi.pick [3,2] (by decide) rfl⟩
theorem od(np lv rt fr:Int)(hg:ByteArray)(dead:Bool)(EA:Option Addr)(ec n:Nat)(x:ByteArray)(es:List EnD)(w:World)(hE:At w EA (es.flatMap enC))(hn:es.length=n)(hez:∀e∈es,e.1.size<=1000000)(hnb:n<=100000)(hx:x.size<=1000000):
  Calls Try.prog 50 #[.agg #[.int .i64 np,.int .i64 lv,.int .i64 rt,.string hg,.bool dead,.slice EA n ec,.int .i64 fr],.string x] w (Ret (.int .i64 (cl x es (-1))) w):=by
 go_enter Try.func50,Try.ntmps50
 have aq:=St.start w
 refine wp_seq (sqr ?_)
 refine bX #[vi np,vi lv,vi rt,.string hg,.bool dead,.slice EA n ec,vi fr] aq fun bV W1 aC=>?_
 refine sqp [.k 4 (vi 0)] ?_
 refine aa (wp_seq (sqr (sqp [.k 5 (vi (-1))] ?_)))
 refine aa (wp_seq (wp_seq (sqr (sqp [.k 8 (.pointer (some ⟨bV,5,none⟩))] ?_))))
 refine al 0 aC ?_
 refine sqp [.k 10 (vi ((n:Int))),.k 11 (vi 0)] ?_
 refine aa (wp_block ?_)
 refine aX (fun t_ mz az W=>∃j:Nat,∃d:Int,j<=n/\cl x es (-1)=cl x (es.drop j) d/\mz=n-j/\az=⟨(ovr (jv az) [(5,5,0,[vi d]),(1,7,1,[]),(3,11,0,[vi ((j:Int))]),(0,12,15,[])] t_).toArray,[]⟩/\St w [] [eB bV 116 #[vi np,vi lv,vi rt,.string hg,.bool dead,.slice EA n ec,vi fr]] W) (n-0) ?_ ?_
 exact⟨0,(-1),Nat.zero_le _,rfl,rfl,(by kernel_rfl),aC.pk [0]⟩
 rintro n8 a8 W8 ⟨j,d,hj,hI,rfl,hj_,bt⟩
 refine ovz hj_ fun IT=>?_
 refine wp_seq (sqr (sqp [.k 12 (.bool (decide ((j:Int)<(n:Int))))] ?_))
 refine aa (wp_seq (wds (fun gA j9=>?_) fun gA j9=>?_))
 ·refine wp_skip (aa (wp_seq (wp_block (wp_seq (sqr ?_)))))
  refine sql (.pointer (some ((ad EA).add (j*3)))) bt (fun cx=>aD (e:=104) (m:=j) (sz:=3) rfl (by kernel_rfl) (by kernel_rfl) (cx.ou 9) (cx.ou 11) (by omega) (by omega) (hE.ext cx.upd.to_ext) (be (sz:=3) aH (by decide) (by omega))) ?_
  refine sql (.agg #[.string ((es.getD j en0).1),vi (((es.getD j en0).2.1:Int)),vi ((es.getD j en0).2.2)]) bt (fun cx=>aY (f:=enC) (m:=j) (sz:=3) (off:=0) (n:=3) rfl (by kernel_rfl) (by kernel_rfl) (cx.ou 13) rfl aH (hE.ext cx.upd.to_ext) (ck (by omega)) (fun k hk=>match k,hk with|0,_=>rfl|1,_=>rfl|2,_=>rfl|k+3,hk=>absurd hk (by omega))) ?_
  refine bW #[.string ByteArray.empty,vi 0,vi 0] bt fun E4 kO bE=>?_
  refine aF (n:=3) 1 #[.string ((es.getD j en0).1),vi (((es.getD j en0).2.1:Int)),vi ((es.getD j en0).2.2)] bE fun iY bn=>?_
  refine aa (wp_seq (sqr (sqp [.m 15 5,.k 16 (.bool (decide (d<0))),.m 17 16] ?_)))
  refine nM 17 [18,19,20,21,22] ?_ bn rfl (fun hq=>?_) fun uk cK=>?_
  rotate_left
  have hq_:=of_decide_eq_false hq
  refine sqp [.m 18 1,.k 19 (vp E4)] ?_
  refine al 1 bn ?_
  refine sqk (.bool (ag x ((es.getD j en0).1))) bn (fun cx=>⟨_,gl x ((es.getD j en0).1) _ (by omega) (cH hez _),(aK (cx.ou 18) (cx.ou 20))⟩) fun BN fI=>?_
  refine sqp [.k 22 (.bool (!(ag x ((es.getD j en0).1))))] ?_
  exact sqE fI
  refine dn ?_
  refine sqp [sPo 23 (decide (d<0)) (!(ag x ((es.getD j en0).1)))] ?_
  refine aa (wbs (fun xd=>?_) fun xd=>?_)
  have uJ:=xd
  simp only[zB] at uJ
  refine sqr (sqp [.k 24 (.pointer (some ⟨E4,2,none⟩))] ?_)
  refine al 1 cK ?_
  refine sqp [.m 5 25] ?_
  refine aw (aa (sqr (sqp [sI 26 ((j:Int)+1) (by omega),.m 11 26] ?_)))
  refine aa ?_
  refine⟨n-((j+1)),by omega,?_⟩
  exact⟨(j+1),((es.getD j en0).2.2),by omega,by rw[hI,mK (by omega),if_pos (Bq xd)],rfl,(by kernel_rfl),cK.pk [0]⟩
  have uJ:=xd
  simp only[zB] at uJ
  obtain⟨Oz,OB⟩:=uJ
  refine wp_skip (aw (aa (sqr (sqp [sI 26 ((j:Int)+1) (by omega),.m 11 26] ?_))))
  refine aa ?_
  refine⟨n-((j+1)),by omega,?_⟩
  exact⟨(j+1),d,by omega,by rw[hI,mK (by omega),if_neg (ED xd)],rfl,(by kernel_rfl),cK.pk [0]⟩
 refine wp_exit (am (am (bj (aa (wp_seq (sqr (sqp [.m 27 5,.m 4 27] ?_)))))))
 refine aa (wp_ret ?_)
 refine bpr (vi d) (ak Try.results50 rpt) ?_
 exact Ret.of (by rw[hI,List.drop_of_length_le (by omega)];rfl) bt.ext
theorem FG(b:Nat)(tt:TypeId)(tv:Value)(root pos leaf fro to:Int)(spl:Bool)(la:Addr)(ln lc:Nat)(te:ByteArray)(tl tk:Int)(lf:List TaT)(ps:List PgS)(fresh:Int)(fp g:List Nat)(w:World)(hb:Blk w b 109 #[.int .i64 root,.int .i64 pos,.int .i64 leaf,.slice ((some la)) ln lc,.int .i64 fro,.int .i64 to,.bool spl])(hL:∀W,Upd [b] w W->At W (some la) (((te,tl,tk)::lf).flatMap tkK))(hln:((te,tl,tk)::lf).length=ln)(hlc:((te,tl,tk)::lf).length<=lc)(hlnb:ln<=10000)(hS:∀W,Upd [b] w W->PgsOk W tt tv ps)(hok:OkS ps)(hoc:OkC ps)(hfp:fp=b::g)(hbg:b∉g)(hlt:∀k∈g,k<w.heap.size)(hla:la.block∈g)(hte:te.size<=900000)(htl:0<=tl/\tl<=90000)(h8:∀nd,ao ps pos=some nd->nd.es.length<8):
  Calls Try.prog 16 #[.pointer (some ⟨b,0,none⟩),.iface tt (tv),.int .i64 fresh] w (kE b (aU ps ⟨root,pos,leaf,(te,tl,tk)::lf,fro,to,spl⟩ fresh) fp w):=by
 have st0:=St.lend (E:=eB b 109 #[.int .i64 root,.int .i64 pos,.int .i64 leaf,.slice ((some la)) ln lc,.int .i64 fro,.int .i64 to,.bool spl]) hb (dH _ _ _) (fun k hk=>by simp[eB] at hk;subst hk;exact hb.lt)
 have hln1:1<=ln:=by rw[<-hln];simp
 have hlc1:lf.length+1<=lc:=hlc
 have hln2:lf.length+1=ln:=hln
 go_enter Try.func16,Try.ntmps16
 have aq:=st0
 refine wp_seq (sqr (sqp [.k 6 (.slice none 0 0),.k 7 (.bool false),.k 8 (vi 0)] ?_))
 refine aa (wp_seq (wp_seq (sqr (sqp [.m 14 0] ?_))))
 refine sqv (.bool false) aq (by
   exact sv0 rfl rfl rfl rfl rfl (fun _ _ _ h=>h) fun j d W X cx=>by
    have xf:j (.tmp 14)=vp b:=(cx.ou 14)
    simp[go_sem,cx.sees.const,xf]) fun W5 bO=>?_
 refine aa (wcf rfl (wp_skip (aa (wp_seq (sqr (sqp [.m 16 0,.m 17 0,.m 18 0,.k 19 (vp b),.k 20 (.pointer (some ⟨b,4,none⟩))] ?_))))))
 refine aF (n:=1) 0 #[vi root,vi pos,vi leaf,.slice ((some la)) ln lc,vi 0,vi to,.bool spl] bO fun pH cA=>?_
 refine sqp [.k 21 (vp b),.k 22 (.pointer (some ⟨b,5,none⟩))] ?_
 refine aF (n:=1) 0 #[vi root,vi pos,vi leaf,.slice ((some la)) ln lc,vi 0,vi 0,.bool spl] cA fun iY bn=>?_
 refine sqp [.k 23 (vp b),.k 24 (.pointer (some ⟨b,6,none⟩))] ?_
 refine aF (n:=1) 0 #[vi root,vi pos,vi leaf,.slice ((some la)) ln lc,vi 0,vi 0,.bool false] bn fun um ca=>?_
 refine aa (wp_seq (wp_seq (sqr (sqp [.m 25 0,.k 26 (vp b),.k 27 (.pointer (some ⟨b,3,none⟩))] ?_))))
 refine al 0 ca ?_
 have hd24:((ln:Int)==0)=false:=(by rw[beq_eq_false_iff_ne];omega)
 refine sqp [.k 29 (vi ((ln:Int))),.e 30 (.bool ((ln:Int)==0)) (.bool false) (congrArg Value.bool hd24)] ?_
 refine aa (wcf rfl (wp_skip (aa (wp_seq (sqr (sqp [.m 31 0,.k 32 (vp b),.k 33 (.pointer (some ⟨b,3,none⟩))] ?_))))))
 refine al 0 ca ?_
 refine sql (.pointer (some ((ad ((some la))).add (0*4)))) ca (fun cx=>aD (e:=106) (m:=0) (sz:=4) rfl (by kernel_rfl) (by kernel_rfl) (cx.ou 34) (cx.co _) (by omega) (by omega) (hL _ cx.upd) (be (sz:=4) fQ (by decide) (by omega))) ?_
 refine sql (.agg #[.string te,vi 0,vi tk,vi tl]) ca (fun cx=>aY (f:=tkK) (m:=0) (sz:=4) (off:=0) (n:=4) rfl (by kernel_rfl) (by kernel_rfl) (cx.ou 35) rfl fQ (hL _ cx.upd) rfl (fun k hk=>match k,hk with|0,_=>rfl|1,_=>rfl|2,_=>rfl|3,_=>rfl|k+4,hk=>absurd hk (by omega))) ?_
 refine bW #[.string ByteArray.empty,vi 0,vi 0,vi 0] ca fun dm JB kh=>?_
 refine aF (n:=4) 1 #[.string te,vi 0,vi tk,vi tl] kh fun Mf fL=>?_
 refine aa (wp_seq ?_)
 rcases hnd:ao ps pos with _|nd
 refine aj [0,0,2,6,14,31,63,127,127,0,767,2047] [[],[],[],[],[0],[],[],[],[],[],[2]] [[],[],[],[],[],[],[],[],[],[2],[3]] [[],[],[],[],[],[],[],[],[],[],[2]] [.k 38 (.iface tt (tv)),.k 39 (vp b),.k 40 (vp b),.k 41 (.pointer (some ⟨b,1,none⟩)),.c 42 (vi pos),.a 43,.a 37,.a 44,.c 45 (.bool false),.a 10,.n,.k 11 (.bool false)] (fun ix i d X=>match ix with|0|1|2|3|4=>True|5=>i 43= .tuple #[.agg #[vi (iv (tg (tg (d 43) 0) 0)),vi 0,vi 0,.string ((⟨#[]⟩:ByteArray)),.bool false,.slice none 0 0,vi 0],.bool false]|6=>i 37= .tuple #[.agg #[vi (iv (tg (tg (d 43) 0) 0)),vi 0,vi 0,.string ((⟨#[]⟩:ByteArray)),.bool false,.slice none 0 0,vi 0],.bool false]|7=>i 44= .agg #[vi (iv (tg (tg (d 43) 0) 0)),vi 0,vi 0,.string ((⟨#[]⟩:ByteArray)),.bool false,.slice none 0 0,vi 0]|8=>True|9=>i 10=vp (pb (d 10))/\X 2=eB (pb (d 10)) 116 #[vi 0,vi 0,vi 0,.string ByteArray.empty,.bool false,.slice none 0 0,vi 0]|10=>X 3=eB (pb (d 10)) 116 #[vi (iv (tg (tg (d 43) 0) 0)),vi 0,vi 0,.string ((⟨#[]⟩:ByteArray)),.bool false,.slice none 0 0,vi 0]|_=>True) [0,1,3] [4,5,6,7,8,9,10] [(10,9,3,12),(25,6,1,26),(0,0,6,6),(0,7,2,2)] fL ?_ ?_ ?_
 exact fun ix _ _ _ _ _ _ hs hb hx h=>match ix,h with
 |5,h=>by dsimp only;rw[<-hs 43 rfl,<-hb 43 rfl];exact h
 |6,h=>by dsimp only;rw[<-hs 37 rfl,<-hb 43 rfl];exact h
 |7,h=>by dsimp only;rw[<-hs 44 rfl,<-hb 43 rfl];exact h
 |9,h=>by dsimp only;rw[<-hs 10 rfl,<-hb 10 rfl,<-hx 2 rfl];exact h
 |10,h=>by dsimp only;rw[<-hb 10 rfl,<-hb 43 rfl,<-hx 3 rfl];exact h
 |0,_|1,_|2,_|3,_|4,_|8,_|_+11,_=>trivial
 refine⟨?_,?_,?_,?_,?_,?_,?_,trivial⟩
 exact xs4 rfl id fun cx=>ae rfl (by kernel_rfl) (cx.an 3) ((cx.bi 0 rfl).cell 1)
 refine svA fun j d W X cx=>?_
 refine ax.call (av (args:=#[.iface tt (tv),vi pos]) rfl cx.sees rfl (by kernel_rfl) (aK (cx.an 0) (cx.an 4))) ?_
 refine(rh hnd (gF _ _ ps pos _ (hS _ cx.upd) hok hoc)).mono ?_
 rintro e W1 ⟨p4,rfl,hx⟩
 refine⟨_,rfl,cR [] rfl rfl hx (by simp) List.Pairwise.nil (fun i l X' hs hb hv hN=>?_)⟩
 have aZ:=(hv 43 rfl).1;have aJ:=(hv 43 rfl).2
 exact aZ.trans (by rw[aJ];rfl)
 exact sv rfl rfl rfl rfl rfl _ (fun _ _ _ h=>h) (fun d l h=>by rw[h 43 (by decide)]) fun j d W X cx=>b7 rfl (dTn (cx.an 5))
 exact sv rfl rfl rfl rfl rfl _ (fun _ _ _ h=>h) (fun d l h=>by rw[h 43 (by decide)]) fun j d W X cx=>aG rfl (dTn (cx.an 6)) rfl
 exact xs4 rfl id fun cx=>aG rfl (dTn (cx.an 6)) rfl
 refine svA fun j d W X cx=>?_
 exact bx (cs:=#[vi 0,vi 0,vi 0,.string ByteArray.empty,.bool false,.slice none 0 0,vi 0]) rfl (by kernel_rfl) rfl rfl (fun _ _ _ _ _=> .intro)
 refine svA fun j d W X cx=>?_
 exact ar (n:=7) rfl (dTn (cx.an 9)).1 (dTn (cx.an 7)) (by kernel_rfl) (by kernel_rfl) (by kernel_rfl) cx (dTn (cx.an 9)).2 rfl (nle rfl) (by kernel_rfl) rfl rfl rfl (fun i l X' hs hb hx=>by rw[hb 10,hb 43];exact hx)
 intro i d X EP hD fJ fr af
 simp only[exq 3 ((dTn (hD 10 lq)))] at fJ
 simp only[ed 43 ((dTn (hD 5 lq))),ed 37 ((dTn (hD 6 lq))),ed 44 ((dTn (hD 7 lq))),ed 10 ((dTn (hD 9 lq)).1)] at af
 generalize iv (tg (tg (d 43) 0) 0)=pg43_33,pb (d 10)=JH at fJ af
 clear hD;subst af;clear i d X
 refine aa (wp_seq (sqr ?_))
 refine sqv (.func (.func 48) #[] #[vp dm]) fJ (by
   exact sv0 rfl rfl rfl rfl rfl (fun _ _ _ h=>h) fun j d W X cx=>by
    have rZ:j (.tmp 9)=vp dm:=(cx.ou 9)
    simp[go_sem,Instr.makeFunc,rZ]) fun BY f8=>?_
 refine sqp [.m 12 46] ?_
 refine aa (wp_seq (wp_block (wp_seq (sqr (sqp [.k 48 (.bool false),.k 49 (.bool true),.k 47 (.bool true)] ?_)))))
 refine aa (wct rfl (wp_seq (sqr (sqp [.k 6 (.slice none 0 0),.k 7 (.bool false),.k 8 (vi 22)] ?_))))
 refine aa (wp_ret (aB (ai ?_)))
 refine bpr (.tuple #[.slice none 0 0,.bool false,vi 22]) (bq Try.results16 rpt rpt rpt) ?_
 rw[o8 hnd]
 have hn42:=bM f8 99 3
 simp only[List.cons_append,List.nil_append] at hn42
 have hup_:=hn42.upd
 have hpk_:=hn42.pick [0,3] (by decide) rfl
 subst hln
 exact⟨_,_,rfl,dv hpk_ hfp hbg hlt hlc (hL _ hup_) (fun ad e _=>by rw[<-Option.some.inj e];exact hla)⟩
 have hN0:=e8 hok hnd
 have hN:NdQ nd:=⟨hN0.lv,fun e he=>Nat.le_trans (hN0.es e he) (by decide)⟩
 have hN1:=hN0.len
 have hN2:=hN0.rt
 have hN3:=hN0.hi
 have hN4:=hN0.lv
 have hN5:=hN0.fr
 have hN7:=hN0.es
 have hn8:=h8 nd hnd
 refine sqr (sqp [.m 38 1,.m 39 0,.k 40 (vp b),.k 41 (.pointer (some ⟨b,1,none⟩))] ?_)
 refine al 0 fL ?_
 refine gQ (fun EA43_48 ec43_48=> .tuple #[.agg #[vi pos,vi nd.lv,vi nd.right,.string nd.high,.bool nd.dead,.slice EA43_48 nd.es.length ec43_48,vi ((nd.free:Int))],.bool true]) (fun EA43_48 ec43_48=>eO 104 3 (.slice EA43_48 nd.es.length ec43_48) nd.es.length (nd.es.flatMap enC)) fL (fun cx=>⟨_,(nF hnd (gF _ _ ps pos _ (hS _ cx.upd) hok hoc)).mono (by rintro e W1 ⟨EA4,ec4,rfl,aR⟩;exact⟨_,_,rfl,aR⟩),(aK (cx.ou 38) (cx.ou 42))⟩) fun EA43_48 ec43_48 OD zF=>?_
 refine sqp [.m 37 43,.k 44 (.agg #[vi pos,vi nd.lv,vi nd.right,.string nd.high,.bool nd.dead,.slice EA43_48 nd.es.length ec43_48,vi ((nd.free:Int))]),.k 45 (.bool true)] ?_
 refine bW #[vi 0,vi 0,vi 0,.string ByteArray.empty,.bool false,.slice none 0 0,vi 0] zF fun eh BX ib=>?_
 refine aF (n:=7) 3 #[vi pos,vi nd.lv,vi nd.right,.string nd.high,.bool nd.dead,.slice EA43_48 nd.es.length ec43_48,vi ((nd.free:Int))] ib fun EU ke=>?_
 refine sqp [.k 11 (.bool true)] ?_
 refine aa (wp_seq (sqr ?_))
 refine sqv (.func (.func 48) #[] #[vp dm]) ke (by
   exact sv0 rfl rfl rfl rfl rfl (fun _ _ _ h=>h) fun j d W X cx=>by
    have rZ:j (.tmp 9)=vp dm:=(cx.ou 9)
    simp[go_sem,Instr.makeFunc,rZ]) fun EY eV=>?_
 refine sqp [.m 12 46] ?_
 refine aa (wp_seq (wp_block (wp_seq (sqr (sqp [.k 48 (.bool true),.k 49 (.bool false),.k 47 (.bool false)] ?_)))))
 refine aa (wcf rfl (wp_seq (sqr ?_)))
 refine d9 3 7 eV ?_
 refine sqp [.k 52 (vp dm),.k 53 (vp dm)] ?_
 refine al 1 eV ?_
 refine sqk (.bool (cL nd.dead nd.high te)) eV (fun cx=>⟨_,mL pos nd.lv nd.right (nd.free:Int) nd.high nd.dead _ _ _ te _ (by omega) (by omega),(aK (cx.ou 51) (cx.ou 54))⟩) fun EV bJ=>?_
 refine sqp [.m 50 55] ?_
 refine aa (wbs (fun fx=>?_) fun fx=>?_)
 refine wp_seq (wp_seq (sqr (sqp [.k 56 (.pointer (some ⟨eh,2,none⟩))] ?_)))
 refine al 3 bJ ?_
 refine sqp [.k 58 (.bool (decide (nd.right<0)))] ?_
 refine aa (wds (fun iQ m8=>?_) fun iQ m8=>?_)
 refine wp_seq (sqr (sqp [.k 6 (.slice none 0 0),.k 7 (.bool false),.k 8 (vi 11)] ?_))
 refine aa (wp_ret (ai (aB (ai ?_))))
 refine bpr (.tuple #[.slice none 0 0,.bool false,vi 11]) (bq Try.results16 rpt rpt rpt) ?_
 rw[o5 hnd fx (by omega)]
 have hn74:=bM bJ 99 3
 simp only[List.cons_append,List.nil_append] at hn74
 have hup_:=hn74.upd
 have hpk_:=hn74.pick [0,4] (by decide) rfl
 subst hln
 exact⟨_,_,rfl,dv hpk_ hfp hbg hlt hlc (hL _ hup_) (fun ad e _=>by rw[<-Option.some.inj e];exact hla)⟩
 refine wp_skip (aa (wp_seq (sqr (sqp [.m 59 0,.k 60 (.pointer (some ⟨eh,2,none⟩))] ?_))))
 refine al 3 bJ ?_
 refine sqp [.k 62 (vp b),.k 63 (.pointer (some ⟨b,1,none⟩))] ?_
 refine aF (n:=1) 0 #[vi root,vi nd.right,vi leaf,.slice ((some la)) ln lc,vi 0,vi 0,.bool false] bJ fun BP dY=>?_
 refine aa (wp_seq (sqr (sqp [.k 6 (.slice none 0 0),.k 7 (.bool false),.k 8 (vi 0)] ?_)))
 refine aa (wp_ret (aB (ai ?_)))
 refine bpr (.tuple #[.slice none 0 0,.bool false,vi 0]) (bq Try.results16 rpt rpt rpt) ?_
 rw[jc hnd fx (by omega)]
 have hn84:=bM dY 99 3
 simp only[List.cons_append,List.nil_append] at hn84
 have hup_:=hn84.upd
 have hpk_:=hn84.pick [0,4] (by decide) rfl
 subst hln
 exact⟨_,_,rfl,dv hpk_ hfp hbg hlt hlc (hL _ hup_) (fun ad e _=>by rw[<-Option.some.inj e];exact hla)⟩
 refine wp_seq (sqr (sqp [.k 65 (.pointer (some ⟨eh,1,none⟩))] ?_))
 refine al 3 bJ ?_
 refine sqp [.k 67 (.pointer (some ⟨dm,3,none⟩))] ?_
 refine al 1 bJ ?_
 refine sqp [.k 69 (.bool (decide (tl<nd.lv))),.m 64 69] ?_
 refine aa (wds (fun Eb zG=>?_) fun Eb zG=>?_)
 refine wp_seq (sqr (sqp [.m 70 0] ?_))
 refine d9 3 7 bJ ?_
 refine sqp [.k 72 (vp dm),.k 73 (vp dm)] ?_
 refine al 1 bJ ?_
 refine sqk (vi (cl te nd.es (-1))) bJ (fun cx=>⟨_,od _ _ _ _ _ _ _ _ _ _ nd.es _ (At.of_ownN (cx.ri 2 rfl)) rfl hN.es6 (by omega) (by omega),(aK (cx.ou 71) (cx.ou 74))⟩) fun OE zH=>?_
 refine sqp [.k 76 (vp b),.k 77 (.pointer (some ⟨b,1,none⟩))] ?_
 refine aF (n:=1) 0 #[vi root,vi (cl te nd.es (-1)),vi leaf,.slice ((some la)) ln lc,vi 0,vi 0,.bool false] zH fun Nl xg=>?_
 refine aa (wp_seq (sqr (sqp [.k 6 (.slice none 0 0),.k 7 (.bool false),.k 8 (vi 0)] ?_)))
 refine aa (wp_ret (aB (ai ?_)))
 refine bpr (.tuple #[.slice none 0 0,.bool false,vi 0]) (bq Try.results16 rpt rpt rpt) ?_
 rw[ma hnd fx (by omega)]
 have hn104:=bM xg 99 3
 simp only[List.cons_append,List.nil_append] at hn104
 have hup_:=hn104.upd
 have hpk_:=hn104.pick [0,4] (by decide) rfl
 subst hln
 exact⟨_,_,rfl,dv hpk_ hfp hbg hlt hlc (hL _ hup_) (fun ad e _=>by rw[<-Option.some.inj e];exact hla)⟩
 refine wp_seq (sqr (sqp [.k 79 (.pointer (some ⟨eh,1,none⟩))] ?_))
 refine al 3 bJ ?_
 refine sqp [.k 81 (.pointer (some ⟨dm,3,none⟩))] ?_
 refine al 1 bJ ?_
 refine sqp [.k 83 (.bool (decide (nd.lv<tl))),.m 78 83] ?_
 refine aa (wds (fun zI xh=>?_) fun zI xh=>?_)
 refine wp_seq (sqr (sqp [.k 6 (.slice none 0 0),.k 7 (.bool false),.k 8 (vi 11)] ?_))
 refine aa (wp_ret (aB (ai ?_)))
 refine bpr (.tuple #[.slice none 0 0,.bool false,vi 11]) (bq Try.results16 rpt rpt rpt) ?_
 rw[oT hnd fx (by omega) (by omega)]
 have hn115:=bM bJ 99 3
 simp only[List.cons_append,List.nil_append] at hn115
 have hup_:=hn115.upd
 have hpk_:=hn115.pick [0,4] (by decide) rfl
 subst hln
 exact⟨_,_,rfl,dv hpk_ hfp hbg hlt hlc (hL _ hup_) (fun ad e _=>by rw[<-Option.some.inj e];exact hla)⟩
 refine wp_seq (sqr (sqp [.k 85 (.pointer (some ⟨eh,5,none⟩))] ?_))
 refine al 3 bJ ?_
 have hd120:(decide ((nd.es.length:Int)<8))=true:=(decide_eq_true (by omega))
 refine sqp [.k 87 (vi ((nd.es.length:Int))),.e 88 (.bool (decide ((nd.es.length:Int)<8))) (.bool true) (congrArg Value.bool hd120),.k 89 (.bool true)] ?_
 refine sY 89 [90,91,92,93] rfl rfl ?_
 refine sqp [.k 94 (.bool true),.k 84 (.bool true)] ?_
 refine aa (wct rfl (wp_seq ?_))
 rcases hq:di nd.es te with _|_
 refine aj [0,0,0,7,15,31,63] [[],[3],[1],[0,2]] [[],[],[],[4,5]] [[],[],[],[0]] [.k 95 (vp b),.c 96 (.agg #[vi pos,vi nd.lv,vi nd.right,.string nd.high,.bool nd.dead,.slice EA43_48 nd.es.length ec43_48,vi ((nd.free:Int))]),.c 97 (.agg #[.string te,vi 0,vi tk,vi tl]),.a 98,.a 6,.k 7 (.bool false),.k 8 (vi 0)] (fun ix i d X=>match ix with|0|1|2=>True|3=>i 98= .slice (sA (d 98)) 1 (sC (d 98))/\X 4=eB b 109 #[vi root,vi root,vi ((if tl=0 then pos else leaf)),.slice ((if lc=1 then some la else (some la).map (·.add (1*4)))) ((ln-1)) ((lc-1)),vi 0,vi 0,.bool false]/\X 5=eO 99 3 (.slice (sA (d 98)) 1 (sC (d 98))) 1 ([(pos,(nd.free:Int),itB nd.lv tk te)].flatMap edC)|4=>i 6= .slice (sA (d 98)) 1 (sC (d 98))|_=>True) [1,2,3,4,5] [1,2,3,4] [(6,4,3,9),(86,0,4,90)] bJ ?_ ?_ ?_
 exact fun ix _ _ _ _ _ _ hs hb hx h=>match ix,h with
 |3,h=>by dsimp only;rw[<-hs 98 rfl,<-hb 98 rfl,<-hx 4 rfl,<-hx 5 rfl];exact h
 |4,h=>by dsimp only;rw[<-hs 6 rfl,<-hb 98 rfl];exact h
 |0,_|1,_|2,_|_+5,_=>trivial
 refine⟨?_,?_,?_,?_,trivial⟩
 exact xs4 rfl id fun cx=>aO (n:=7) rfl (by kernel_rfl) (by kernel_rfl) (cx.ou 10) (cx.bi 3 rfl) (nle rfl) rfl
 exact xs4 rfl id fun cx=>aO (n:=4) rfl (by kernel_rfl) (by kernel_rfl) (cx.ou 9) (cx.bi 1 rfl) (nle rfl) rfl
 refine svA fun j d W X cx=>?_
 refine ax.call (av (args:=#[vp b,.agg #[vi pos,vi nd.lv,vi nd.right,.string nd.high,.bool nd.dead,.slice EA43_48 nd.es.length ec43_48,vi ((nd.free:Int))],.agg #[.string te,vi 0,vi tk,vi tl]]) rfl cx.sees rfl (by kernel_rfl) (eC (cx.an 0) (cx.an 1) (cx.an 2))) ?_
 refine(kK _ _ _ _ _ _ _ _ _ _ nd pos _ _ te 0 tk tl false _ (cx.bi 0 rfl) (CtxV.keepAt cx (cx.init 2 _ rfl) (cx.init 0 _ rfl) rfl rfl (by decide)) (by omega) (by omega) (by omega) (by omega) hq).mono ?_
 rintro e W1 ⟨A4,c4,rfl,aR⟩
 refine⟨_,rfl,bw (E:=eB b 109 #[vi root,vi pos,vi leaf,.slice ((some la)) ln lc,vi 0,vi 0,.bool false]) [eB b 109 #[vi root,vi root,vi ((if tl=0 then pos else leaf)),.slice ((if lc=1 then some la else (some la).map (·.add (1*4)))) ((ln-1)) ((lc-1)),vi 0,vi 0,.bool false],eO 99 3 (.slice A4 1 c4) 1 ([(pos,(nd.free:Int),itB nd.lv tk te)].flatMap edC)] (cx.init 0 _ rfl) rfl rfl aR (fun i l X' hs hb hv hN=>?_)⟩
 have aZ:=(hv 98 rfl).1;have aJ:=(hv 98 rfl).2
 exact⟨aZ.trans (by rw[aJ];rfl),(List.cons.inj hN).1,(by rw[aJ];exact(List.cons.inj (List.cons.inj hN).2).1)⟩
 exact sv rfl rfl rfl rfl rfl _ (fun _ _ _ h=>h) (fun d l h=>by rw[h 98 (by decide)]) fun j d W X cx=>aN rfl (dTn (cx.an 3)).1
 intro i d X Nm hD iU fr af
 simp only[exq 4 ((dTn (hD 3 lq)).2.1),exq 5 ((dTn (hD 3 lq)).2.2)] at iU
 simp only[ed 98 ((dTn (hD 3 lq)).1),ed 6 ((dTn (hD 4 lq)))] at af
 generalize sA (d 98)=tn,sC (d 98)=tp at iU af
 clear hD;subst af;clear i d X
 refine aa (wp_ret (aB (ai ?_)))
 refine bpr (.tuple #[.slice tn 1 tp,.bool false,vi 0]) (bq Try.results16 rpt rpt rpt) ?_
 rw[ml hnd fx (by omega) (by omega) hq hn8]
 have hup_:=iU.upd
 have hpk_:=iU.pick [3,4] (by decide) rfl
 have hl1_:ln-1=lf.length:=by omega
 have hlv_:nd.lv=tl:=by omega
 rw[hl1_,hlv_] at hpk_
 exact⟨_,_,rfl,dv hpk_ hfp hbg hlt (by show lf.length<=lc-1;omega) (At.dropF (ts:=(te,tl,tk)::lf) fQ (hL _ hup_) 1 lc hlc) (fun ad e _=>by rw[jK e];exact hla)⟩
 refine aj [0,0,0,7,15,31,63] [[],[3],[1],[0,2]] [[],[],[],[4,5]] [[],[],[],[0]] [.k 95 (vp b),.c 96 (.agg #[vi pos,vi nd.lv,vi nd.right,.string nd.high,.bool nd.dead,.slice EA43_48 nd.es.length ec43_48,vi ((nd.free:Int))]),.c 97 (.agg #[.string te,vi 0,vi tk,vi tl]),.a 98,.a 6,.k 7 (.bool false),.k 8 (vi 0)] (fun ix i d X=>match ix with|0|1|2=>True|3=>i 98= .slice (sA (d 98)) 0 (sC (d 98))/\X 4=eB b 109 #[vi root,vi root,vi ((if tl=0 then pos else leaf)),.slice ((if lc=1 then some la else (some la).map (·.add (1*4)))) ((ln-1)) ((lc-1)),vi 0,vi 0,.bool false]/\X 5=eO 99 3 (.slice (sA (d 98)) 0 (sC (d 98))) 0 (([]:List EdT).flatMap edC)|4=>i 6= .slice (sA (d 98)) 0 (sC (d 98))|_=>True) [1,2,3,4,5] [1,2,3,4] [(6,4,3,9),(86,0,4,90)] bJ ?_ ?_ ?_
 exact fun ix _ _ _ _ _ _ hs hb hx h=>match ix,h with
 |3,h=>by dsimp only;rw[<-hs 98 rfl,<-hb 98 rfl,<-hx 4 rfl,<-hx 5 rfl];exact h
 |4,h=>by dsimp only;rw[<-hs 6 rfl,<-hb 98 rfl];exact h
 |0,_|1,_|2,_|_+5,_=>trivial
 refine⟨?_,?_,?_,?_,trivial⟩
 exact xs4 rfl id fun cx=>aO (n:=7) rfl (by kernel_rfl) (by kernel_rfl) (cx.ou 10) (cx.bi 3 rfl) (nle rfl) rfl
 exact xs4 rfl id fun cx=>aO (n:=4) rfl (by kernel_rfl) (by kernel_rfl) (cx.ou 9) (cx.bi 1 rfl) (nle rfl) rfl
 refine svA fun j d W X cx=>?_
 refine ax.call (av (args:=#[vp b,.agg #[vi pos,vi nd.lv,vi nd.right,.string nd.high,.bool nd.dead,.slice EA43_48 nd.es.length ec43_48,vi ((nd.free:Int))],.agg #[.string te,vi 0,vi tk,vi tl]]) rfl cx.sees rfl (by kernel_rfl) (eC (cx.an 0) (cx.an 1) (cx.an 2))) ?_
 refine(kK _ _ _ _ _ _ _ _ _ _ nd pos _ _ te 0 tk tl true _ (cx.bi 0 rfl) (CtxV.keepAt cx (cx.init 2 _ rfl) (cx.init 0 _ rfl) rfl rfl (by decide)) (by omega) (by omega) (by omega) (by omega) hq).mono ?_
 rintro e W1 ⟨A4,c4,rfl,aR⟩
 refine⟨_,rfl,bw (E:=eB b 109 #[vi root,vi pos,vi leaf,.slice ((some la)) ln lc,vi 0,vi 0,.bool false]) [eB b 109 #[vi root,vi root,vi ((if tl=0 then pos else leaf)),.slice ((if lc=1 then some la else (some la).map (·.add (1*4)))) ((ln-1)) ((lc-1)),vi 0,vi 0,.bool false],eO 99 3 (.slice A4 0 c4) 0 (([]:List EdT).flatMap edC)] (cx.init 0 _ rfl) rfl rfl aR (fun i l X' hs hb hv hN=>?_)⟩
 have aZ:=(hv 98 rfl).1;have aJ:=(hv 98 rfl).2
 exact⟨aZ.trans (by rw[aJ];rfl),(List.cons.inj hN).1,(by rw[aJ];exact(List.cons.inj (List.cons.inj hN).2).1)⟩
 exact sv rfl rfl rfl rfl rfl _ (fun _ _ _ h=>h) (fun d l h=>by rw[h 98 (by decide)]) fun j d W X cx=>aN rfl (dTn (cx.an 3)).1
 intro i d X QC hD sa fr af
 simp only[exq 4 ((dTn (hD 3 lq)).2.1),exq 5 ((dTn (hD 3 lq)).2.2)] at sa
 simp only[ed 98 ((dTn (hD 3 lq)).1),ed 6 ((dTn (hD 4 lq)))] at af
 generalize sA (d 98)=G6,sC (d 98)=G7 at sa af
 clear hD;subst af;clear i d X
 refine aa (wp_ret (aB (ai ?_)))
 refine bpr (.tuple #[.slice G6 0 G7,.bool false,vi 0]) (bq Try.results16 rpt rpt rpt) ?_
 rw[ik hnd fx (by omega) (by omega) hq]
 have hup_:=sa.upd
 have hpk_:=sa.pick [3,4] (by decide) rfl
 have hl1_:ln-1=lf.length:=by omega
 have hlv_:nd.lv=tl:=by omega
 rw[hl1_] at hpk_
 exact⟨_,_,rfl,dv hpk_ hfp hbg hlt (by show lf.length<=lc-1;omega) (At.dropF (ts:=(te,tl,tk)::lf) fQ (hL _ hup_) 1 lc hlc) (fun ad e _=>by rw[jK e];exact hla)⟩
end
section
open Go.RowKit
abbrev Rnd(l:Nat):Fence:=Fence.wide.inRound l
def gG(ops:Array Oper):Bool:=ops.all fun o=>match o.op with| .defer _=>false|_=>true
theorem y9{ops:Array Oper}(h:gG ops=true){i:Nat}{o:Oper}(ho:ops[i]? =some o):∀c,o.op≠ .defer c:=by
 intro c hc
 obtain⟨hi,he⟩:=Array.getElem?_eq_some_iff.1 ho
 have h2:=(Array.all_eq_true.1 h) i hi
 rw[he,hc] at h2
 cases h2
theorem Mn{P:Program}{l n:Nat}{o:Oper}{a:Act}{w:World}{K:Act->World->Prop}{Q:Exit->Act->World->Prop}(hd:∀c,o.op≠ .defer c)(h:o.wp P a w K Q):o.wpIn (Rnd l) n P a w K Q:=by
 unfold Oper.wp at h
 refine⟨fun _ _=>trivial,?_⟩
 show o.uponIn (Rnd l) n P a K Q ((o.semAt (some l) a.eval).run P w)
 rw[Oper.semAt_eq (some l) a.eval o hd]
 generalize (execOp a.eval o).run P w=r at h |-
 cases r with
 |ok x w'=>
  cases x<;>simp only[Oper.upon,Oper.uponIn] at h |- <;>first
   |exact h
   |exact⟨fun hh=>by simp[Rnd,Fence.wide] at hh,CallsIn.inRound l (callsIn_wide.2 h)⟩
   |exact⟨fun hh=>by simp[Rnd,Fence.wide] at hh,fun c cs _=>let ⟨v,w',r,s⟩:=h c cs;⟨v,w',r,stepsIn_wide.2 s⟩⟩
 |halt x w'=>cases x<;>simp only[Oper.upon,Oper.uponIn] at h |- <;>exact h
section
variable{P:Program}{l n:Nat}{ops:Array Oper}{Q:Exit->Act->World->Prop}
theorem t7(hnd:gG ops=true)(hLo:¬LetsOut Q){i:Nat}{K:Act->World->Prop}{a:Act}{w:World}(h:wpOp P ops Q i K a w):wpOpIn (Rnd l) n P ops Q i K a w:=by
 unfold wpOp at h
 unfold wpOpIn
 cases ho:ops[i]? with
 |none=>simp only[ho] at h |-;exact h
 |some o=>
  simp only[ho] at h |-
  split
  rename_i hw
  rw[if_pos hw] at h
  exact Mn (y9 hnd ho) (h.resolve_right fun hh=>hLo hh.2)
  rename_i hw
  rw[if_neg hw] at h
  exact⟨fun _ _=>trivial,h⟩
theorem q9(hnd:gG ops=true)(hLo:¬LetsOut Q):∀(m:Nat) (listed:Array Bool) (a:Act) (w:World),wpAny P .any ops Q m listed a w->wpAnyIn (Rnd l) n P .any ops Q m listed a w
 |0,listed,a,w,h=>h
 |m+1,listed,a,w,h=>⟨h.1,fun i hi=>wpOpIn_mono (fun a w hh=>q9 hnd hLo m _ a w hh) (t7 hnd hLo (h.2 i hi))⟩
theorem qB(hnd:gG ops=true)(hLo:¬LetsOut Q):∀(is:List Nat) (a:Act) (w:World),wpOps P ops Q is a w->wpOpsIn (Rnd l) n P ops Q is a w
 | [],a,w,h=>h
 |i::is,a,w,h=>by
  rw[wpOps_cons] at h
  rw[wpOpsIn_cons]
  exact wpOpIn_mono (fun a w hh=>qB hnd hLo is a w hh) (t7 hnd hLo h)
end
section
variable{P:Program}{ops:Array Oper}{L:List Nat}{w0:World}{bor:List Nat}{X0:List Ent}{us cr kl:List (List Nat)}{Q:Exit->Act->World->Prop}{l n:Nat}
theorem jY{id:Nat}{dr:Bool}{w:World}{t0:Array Value}{d0:List Deferred}(hnd:gG ops=true)(hm:P.follows .mixedOrders=true)(L:List Nat)(us cr kl:List (List Nat))(D:Nat->(Tmp->Value)->(Tmp->Value)->(Nat->Ent)->Prop)(fin:List Nat)
  (hL:el ops L=true) (hd:dJ ops t0.size=true) (hflow:ei ops.size X0.length L us cr kl=true) (hfin:il ops.size X0.length cr kl fin=true)
  (hloc:gW ops X0.length L cr D) (aL:St w0 bor X0 w) (dk:fA (bD P ops L ⟨t0,d0⟩ w0 bor X0 us cr kl D) ops.size)
  (hrest:∀(b c:Tmp->Value) (X:Nat->Ent) (w':World),(∀i,i<ops.size->D i b c X)->(∀q e,X0[q]? =some e->X q=e)->St w0 bor (fin.map X) w'->
   ∀fr,fr=cz (bI ops) ((bI ops).map b) t0->Q .normal ⟨fr,d0⟩ w'):(Code.region id ops dr).wpIn (Rnd l) n P Q ⟨t0,d0⟩ w:=by
 have hs:∀i,i<ops.size->bD P ops L ⟨t0,d0⟩ w0 bor X0 us cr kl D i:=fun i hi=>dk.get i hi
 obtain⟨Q',hQ'⟩:∃Q':Exit->Act->World->Prop,Q'=fun e a w=>e= .normal/\Q .normal a w:=⟨_,rfl⟩
 have hr:∀(a:Act) (w:World) (listed:Array Bool),(∀i,i<ops.size->listed.getD i false=true)->VInv ops L ⟨t0,d0⟩ w0 bor X0 cr kl D listed a w->Q' .normal a w:=fun a w listed hall inv=>by
  rw[hQ'];exact⟨rfl,u1 (a0:=⟨t0,d0⟩) hd hfin (fun b c X w' h1 h2 h3=>hrest b c X w' h1 h2 h3 _ rfl) hall inv⟩
 have hLo:¬LetsOut Q':=by rw[hQ'];rintro⟨a,w,h,_⟩;cases h
 refine wpIn_mono (Q:=Q') ?_ fun e a w h=>by rw[hQ'] at h;obtain⟨rfl,h⟩:=h;exact h
 cases dr with
 |true=>
  refine wpIn_region_any hm (q9 hnd hLo _ _ _ _ (yy hL hd hflow hloc hs hr ops.size (Array.replicate ops.size false) ⟨t0,d0⟩ w.drew ?_ (j8 aL.drew)))
  rw[List.countP_eq_length.2]
  simp
  intro i _
  rw[getD_replicate_false]
  rfl
 |false=>
  refine wpIn_region ?_
  rw[List.range_eq_range']
  exact qB hnd hLo _ _ _ (xU hL hd hflow hloc hs hr ops.size 0 (Array.replicate ops.size false) ⟨t0,d0⟩ w (by omega) (fun j=>by rw[getD_replicate_false];simp) (j8 aL))
end
theorem ut{l n:Nat}{P:Program}{ops:Array Oper}{Q:Exit->Act->World->Prop}{w0:World}{bor:List Nat}{X0:List Ent}{id:Nat}{dr:Bool}{w:World}{t0:List Value}{d0:List Deferred}(L:List Nat)(us cr kl:List (List Nat))(tb:List TE)
  (A:Nat->(Tmp->Value)->(Tmp->Value)->(Nat->Ent)->Prop) (fin sp:List Nat) (rs:List (Nat×Nat×Nat×Nat)) (aL:St w0 bor X0 w) (hloc:gW ops X0.length L cr A)
  (dk:k8 (bD P ops L ⟨t0.toArray,d0⟩ w0 bor X0 us cr kl (fun ix b c X=>dT tb ix b (A ix b c X))) sp)
  (hrest:∀(b c:Tmp->Value) (X:Nat->Ent) (w':World),(∀i,i<ops.size->dT tb i b (A i b c X))->(∀q e,X0[q]? =some e->X q=e)->St w0 bor (fin.map X) w'->∀fr,fr=mgT tb b rs t0->Q .normal ⟨fr.toArray,d0⟩ w')
  (ht:jW P ops L t0.toArray tb 0 tb=tb.map f7:=by kernel_rfl) (hl:fM ops L cr kl sp 0 tb=true:=by kernel_rfl) (hn:tb.length=ops.size:=by kernel_rfl)
  (af:∀b,cz (bI ops) ((eX ops).map (eD ops tb b)) t0.toArray=(mgT tb b rs t0).toArray:=by intro b;kernel_rfl)
  (hm:P.follows .mixedOrders=true:=by kernel_rfl) (hnd:gG ops=true:=by kernel_rfl) (hL:el ops L=true:=by kernel_rfl) (hd:dJ ops t0.toArray.size=true:=by kernel_rfl) (hflow:ei ops.size X0.length L us cr kl=true:=by kernel_rfl) (hfin:il ops.size X0.length cr kl fin=true:=by kernel_rfl):
  (Code.region id ops dr).wpIn (Rnd l) n P Q ⟨t0.toArray,d0⟩ w:=by
 refine jY hnd hm L us cr kl (fun ix b c X=>dT tb ix b (A ix b c X)) fin hL hd hflow hfin (fun i b g c f X X' h1 h2 h3 h=>?_) aL (fA.of fun i hi=>?_) fun b c X w' hD hX hst' fr hfr'=>?_
 dsimp only at h |-
 rw[dQ] at h |-
 cases hdd:(tb.getD i .n).dst with
 |some d=>
  rw[hdd] at h
  dsimp only at h |-
  have hi:i<tb.length:=fT (by rw[hdd];simp)
  have:=(c8 ht hi hdd).1
  rw[<-h1 d (by unfold jt;simp[this])]
  exact h
 |none=>
  rw[hdd] at h
  exact hloc i b g c f X X' h1 h2 h3 h
 have hi':i<tb.length:=by rw[hn];exact hi
 have h:=eN (i:=i) hl hi'
 rw[Nat.zero_add] at h
 rcases h with ⟨_,h⟩|⟨h,_⟩
 exact jH dk i h
 exact iz hd ht hl hi' h
 subst hfr'
 have e:(bI ops).map b=(eX ops).map (eD ops tb b):=by
  unfold bI
  rw[List.map_map]
  refine List.map_congr_left fun i hi=>?_
  have him:=List.mem_filter.1 hi
  have hlt:i<ops.size:=List.mem_range.1 him.1
  have h:=hD i hlt
  rw[dQ] at h
  unfold eD
  cases hdd:(tb.getD i .n).dst with
  |none=>rfl
  |some d=>
   rw[hdd] at h
   dsimp only at h |-
   have:=(c8 ht (i:=i) (by rw[hn];exact hlt) hdd).1
   simp only[Function.comp,this,Option.getD_some]
   exact h
 rw[e,af b]
 exact hrest b c X w' hD hX hst' _ rfl
theorem ny{l n:Nat}{P:Program}{ops:Array Oper}{Q:Exit->Act->World->Prop}{w0:World}{bor:List Nat}{X0:List Ent}{id:Nat}{dr:Bool}{w:World}{t0 t1:List Value}{d0:List Deferred}(L:List Nat)(tb:List TE)
  (rs:List (Nat×Nat×Nat×Nat)) (aL:St w0 bor X0 w) (hrest:∀w',St w0 bor X0 w'->Q .normal ⟨t1.toArray,d0⟩ w')
  (h1:mgT tb (fun _=>undef) rs t0=t1:=by dsimp only[mgT,gy,List.take,List.drop,List.cons_append,List.nil_append])
  (ht:jW P ops L t0.toArray tb 0 tb=tb.map f7:=by kernel_rfl) (hl:fM ops L [] [] [] 0 tb=true:=by kernel_rfl) (hn:tb.length=ops.size:=by kernel_rfl)
  (af:∀a,cz (bI ops) ((eX ops).map (eD ops tb a)) t0.toArray=(mgT tb (fun _=>undef) rs t0).toArray:=by intro a;kernel_rfl)
  (hm:P.follows .mixedOrders=true:=by kernel_rfl) (hnd:gG ops=true:=by kernel_rfl) (hL:el ops L=true:=by kernel_rfl) (hd:dJ ops t0.toArray.size=true:=by kernel_rfl):
  (Code.region id ops dr).wpIn (Rnd l) n P Q ⟨t0.toArray,d0⟩ w:=by
 have hat:∀i,atV ([]:List (List Nat)) i=[]:=fun i=>by simp[atV]
 refine jY hnd hm L [] [] [] (fun ix a b X=>dT tb ix a True) (List.range X0.length) hL hd ?_ ?_ (fun i a f b c X X' h1 h2 h3 h=>?_) aL (fA.of fun i hi=>?_) fun a b X w' hD hX hst' fr hfr'=>?_
 unfold ei;simp[hat]
 unfold il;simp[hat,List.nodup_range]
 dsimp only at h |-
 rw[dQ] at h |-
 cases hdd:(tb.getD i .n).dst with
 |some d=>
  rw[hdd] at h
  dsimp only at h |-
  have hi:i<tb.length:=fT (by rw[hdd];simp)
  have:=(c8 ht hi hdd).1
  rw[<-h1 d (by unfold jt;simp[this])]
  exact h
 |none=>trivial
 have hi':i<tb.length:=by rw[hn];exact hi
 have h:=eN (i:=i) hl hi'
 rw[Nat.zero_add] at h
 rcases h with ⟨_,h⟩|⟨h,_⟩
 cases h
 exact iz (A:=fun _ _ _ _=>True) hd ht hl hi' h
 subst hfr'
 have e:(bI ops).map a=(eX ops).map (eD ops tb a):=by
  unfold bI
  rw[List.map_map]
  refine List.map_congr_left fun i hi=>?_
  have him:=List.mem_filter.1 hi
  have hlt:i<ops.size:=List.mem_range.1 him.1
  have h:=hD i hlt
  rw[dQ] at h
  unfold eD
  cases hdd:(tb.getD i .n).dst with
  |none=>rfl
  |some d=>
   rw[hdd] at h
   dsimp only at h |-
   have:=(c8 ht (i:=i) (by rw[hn];exact hlt) hdd).1
   simp only[Function.comp,this,Option.getD_some]
   exact h
 rw[e,af a,h1]
 refine hrest w' ?_
 have:(List.range X0.length).map X=X0:=by
  apply List.ext_getElem (by simp)
  intro q h1 h2
  rw[List.getElem_map,List.getElem_range]
  exact hX q _ (List.getElem?_eq_getElem h2)
 rw[this] at hst'
 exact hst'
theorem bm{l n:Nat}{P:Program}{ops:Array Oper}{Q:Exit->Act->World->Prop}{w0:World}{bor:List Nat}{X0:List Ent}{id:Nat}{dr:Bool}{w:World}{t0:List Value}{t1:(Tmp->Value)->List Value}{E:(Nat->Ent)->List Ent}{d0:List Deferred}(L:List Nat)(us cr kl:List (List Nat))(tb:List TE)
  (A:Nat->(Tmp->Value)->(Tmp->Value)->(Nat->Ent)->Prop) (fin sp:List Nat) (rs:List (Nat×Nat×Nat×Nat)) (aL:St w0 bor X0 w) (hloc:gW ops X0.length L cr A)
  (dk:k8 (bD P ops L ⟨t0.toArray,d0⟩ w0 bor X0 us cr kl (fun ix a b X=>dT tb ix a (A ix a b X))) sp)
  (hrest:∀(a b:Tmp->Value) (X:Nat->Ent) (w':World),(∀i,i<ops.size->dT tb i a (A i a b X))->St w0 bor (E X) w'->∀fr,fr=t1 a->Q .normal ⟨fr.toArray,d0⟩ w')
  (h1:∀a,mgT tb a rs t0=t1 a:=by intro a;dsimp only[mgT,gy,List.take,List.drop,List.cons_append,List.nil_append]) (hE:∀X,gm X0 X fin=E X:=by intro X;dsimp only[gm,my])
  (ht:jW P ops L t0.toArray tb 0 tb=tb.map f7:=by kernel_rfl) (hl:fM ops L cr kl sp 0 tb=true:=by kernel_rfl) (hn:tb.length=ops.size:=by kernel_rfl)
  (af:∀a,cz (bI ops) ((eX ops).map (eD ops tb a)) t0.toArray=(mgT tb a rs t0).toArray:=by intro a;kernel_rfl)
  (hm:P.follows .mixedOrders=true:=by kernel_rfl) (hnd:gG ops=true:=by kernel_rfl) (hL:el ops L=true:=by kernel_rfl) (hd:dJ ops t0.toArray.size=true:=by kernel_rfl) (hflow:ei ops.size X0.length L us cr kl=true:=by kernel_rfl) (hfin:il ops.size X0.length cr kl fin=true:=by kernel_rfl):
  (Code.region id ops dr).wpIn (Rnd l) n P Q ⟨t0.toArray,d0⟩ w:=
 ut L us cr kl tb A fin sp rs aL hloc dk (fun a b X w' hD hX hs fr hf=>hrest a b X w' hD (by rw[<-hE X,mc hX];exact hs) fr (hf.trans (h1 a))) ht hl hn af hm hnd hL hd hflow hfin
theorem hG{l n:Nat}{P:Program}{ops:Array Oper}{Q:Exit->Act->World->Prop}{w0:World}{bor:List Nat}{X0 E:List Ent}{id:Nat}{dr:Bool}{w:World}{t0 t1:List Value}{d0:List Deferred}(L:List Nat)(us:List (List Nat))(tb:List TE)
  (fin sp:List Nat) (rs:List (Nat×Nat×Nat×Nat)) (aL:St w0 bor X0 w)
  (dk:k8 (bD P ops L ⟨t0.toArray,d0⟩ w0 bor X0 us [] [] (fun ix a b X=>dT tb ix a True)) sp)
  (hrest:∀(w':World),St w0 bor E w'->Q .normal ⟨t1.toArray,d0⟩ w')
  (h1:mgT tb (fun _=>undef) rs t0=t1:=by dsimp only[mgT,gy,List.take,List.drop,List.cons_append,List.nil_append]) (hE:gm X0 (fun _=>⟨[],fun _=>True⟩) fin=E:=by dsimp only[gm,my])
  (hfz:fin.all (fun q=>Nat.blt q X0.length)=true:=by kernel_rfl)
  (ht:jW P ops L t0.toArray tb 0 tb=tb.map f7:=by kernel_rfl) (hl:fM ops L [] [] sp 0 tb=true:=by kernel_rfl) (hn:tb.length=ops.size:=by kernel_rfl)
  (af:∀a,cz (bI ops) ((eX ops).map (eD ops tb a)) t0.toArray=(mgT tb (fun _=>undef) rs t0).toArray:=by intro a;kernel_rfl)
  (hm:P.follows .mixedOrders=true:=by kernel_rfl) (hnd:gG ops=true:=by kernel_rfl) (hL:el ops L=true:=by kernel_rfl) (hd:dJ ops t0.toArray.size=true:=by kernel_rfl) (hflow:ei ops.size X0.length L us [] []=true:=by kernel_rfl) (hfin:il ops.size X0.length [] [] fin=true:=by kernel_rfl):
  (Code.region id ops dr).wpIn (Rnd l) n P Q ⟨t0.toArray,d0⟩ w:=by
 have hfr2:∀a,cz (bI ops) ((eX ops).map (eD ops tb a)) t0.toArray=t1.toArray:=fun a=>by rw[af a,h1]
 refine jY hnd hm L us [] [] (fun ix a b X=>dT tb ix a True) fin hL hd hflow hfin (fun i a f b c X X' h1 h2 h3 h=>?_) aL (fA.of fun i hi=>?_) fun a b X w' hD hX hst' fr hfr'=>?_
 dsimp only at h |-
 rw[dQ] at h |-
 cases hdd:(tb.getD i .n).dst with
 |some d=>
  rw[hdd] at h
  dsimp only at h |-
  have hi:i<tb.length:=fT (by rw[hdd];simp)
  have:=(c8 ht hi hdd).1
  rw[<-h1 d (by unfold jt;simp[this])]
  exact h
 |none=>trivial
 have hi':i<tb.length:=by rw[hn];exact hi
 have h:=eN (i:=i) hl hi'
 rw[Nat.zero_add] at h
 rcases h with ⟨_,h⟩|⟨h,_⟩
 exact jH dk i h
 exact iz (A:=fun _ _ _ _=>True) hd ht hl hi' h
 subst hfr'
 have e:(bI ops).map a=(eX ops).map (eD ops tb a):=by
  unfold bI
  rw[List.map_map]
  refine List.map_congr_left fun i hi=>?_
  have him:=List.mem_filter.1 hi
  have hlt:i<ops.size:=List.mem_range.1 him.1
  have h:=hD i hlt
  rw[dQ] at h
  unfold eD
  cases hdd:(tb.getD i .n).dst with
  |none=>rfl
  |some d=>
   rw[hdd] at h
   dsimp only at h |-
   have:=(c8 ht (i:=i) (by rw[hn];exact hlt) hdd).1
   simp only[Function.comp,this,Option.getD_some]
   exact h
 rw[e,hfr2 a]
 refine hrest w' ?_
 have h2:gm X0 X fin=E:=by rw[<-hE];exact mM hfz
 rw[<-h2,mc hX]
 exact hst'
abbrev fps(L:List Ent):List Nat:=L.flatMap (·.fp)
theorem cS{L:List Ent}{k:Nat}:k∈fps L<->∃e∈L,k∈e.fp:=by simp[fps]
theorem St.fps_own{w0 w:World}{bor:List Nat}{L:List Ent}(h:St w0 bor L w){k:Nat}(hk:k∈fps L):(k∈bor\/w0.heap.size<=k)/\k<w.heap.size:=by
 obtain⟨e,he,hk⟩:=cS.1 hk
 exact(h.ok e he).own k hk
def fu(D:Nat):Ent:=⟨[D],fun W=>W.heap[D]? =some (.deferred (some []))⟩
theorem H0(D:Nat):(fu D).loc:=fun W W' h hb=>(h D (by simp[fu])).trans hb
theorem St.takeD{w0 W:World}{bor:List Nat}{L:List Ent}{D:Nat}(h:St w0 bor (L++[fu D]) W):St w0 bor L (W.putObj D (.deferred none)):=by
 have hd:=h.ok (fu D) (by simp)
 have hown:=hd.own D (by simp[fu])
 have hap:∀e∈L,D∉e.fp:=fun e he hk=>by
  have:=(List.pairwise_append.1 h.apart).2.2 e he (fu D) (by simp)
  exact this D hk (by simp[fu])
 have hg:=grownBy_putObj' W D (.deferred none)
 refine⟨⟨hg.os.trans h.upd.os,hg.tape.trans h.upd.tape,hg.output.trans h.upd.output,Nat.le_trans h.upd.size hg.size,fun k hk hb=>?_⟩,fun e he=>?_,(List.pairwise_append.1 h.apart).1⟩
 rw[hg.block k (Nat.lt_of_lt_of_le hk h.upd.size) fun e'=>?_]
 exact h.upd.block k hk hb
 cases e'
 rcases hown.1 with h1|h1
 exact hb h1
 omega
 have h2:=h.ok e (by simp[he])
 refine⟨h2.loc W _ (fun k hk=>hg.block k (h2.own k hk).2 fun e'=>?_) h2.holds,h2.loc,fun k hk=>⟨(h2.own k hk).1,Nat.lt_of_lt_of_le (h2.own k hk).2 hg.size⟩⟩
 cases e'
 exact hap e he hk
theorem kH{P:Program}{n:Nat}{fn:Func}{R:Ending->World->Prop}{t0:Array Value}{w0 w:World}{bor:List Nat}{L:List Ent}{D:Nat}(aL:St w0 bor (L++[fu D]) w)
  (h:∀W,St w0 bor L W->∃v,(results fn t0).run P W= .ok v W/\R (.returned v) W):bodyPostM Fence.wide n P fn R .ret ⟨t0,[{target:= .collected D,args:=#[]}]⟩ w:=by
 have hK:w.heap[D]? =some (.deferred (some [])):=(aL.ok (fu D) (by simp)).holds
 show LeavesInM Fence.wide n P fn t0 R [{target:= .collected D,args:=#[]}] .returning w
 exact⟨by simp,.inl ⟨_,_,rfl,run_takeDeferred hK,h _ aL.takeD⟩⟩
end
section
open Go.RowKit
def eJ{α:Type}(J:List Nat->List α->World->Prop)(C:List Nat)(pre:List α):Ent:=⟨C,J C pre⟩
theorem Upd.putObj{S:List Nat}{A B:World}{l:Nat}{o:Obj}(h:Upd S A B)(hl:l∈S\/A.heap.size<=l):Upd S A (B.putObj l o):=by
 have hg:=grownBy_putObj' B l o
 refine⟨hg.os.trans h.os,hg.tape.trans h.tape,hg.output.trans h.output,Nat.le_trans h.size hg.size,fun k hk hn=>?_⟩
 rw[hg.block k (Nat.lt_of_lt_of_le hk h.size) fun e=>?_]
 exact h.block k hk hn
 cases e
 rcases hl with h1|h1
 exact hn h1
 omega
theorem fP(W:World)(l:Nat)(o:Obj):(W.putObj l o).heap.size=W.heap.size:=by simp
end
section
open Go.RowKit
section
variable{P:Program}{o:Oper}{ρ:Operand->Value}{W:World}
theorem Bp{c:Call}{x:Operand}{l:Nat}{args:Array Value}(h:o.op= .call c)(hcal:c.callee= .value x)(hx:ρ x= .func (.yield l) #[] #[])(ha:c.args.map ρ=args){r:Result Next}(hr:(Instr.yield l args).run P W=r):(execOp ρ o).run P W=r:=by
 subst hr
 unfold execOp;rw[h]
 simp only[resolve,hcal,hx,Deferred.ofValue,ha,Sem.run_bind,Sem.run_pure,Result.andThen_ok,invoke]
 simp
end
theorem lR{P:Program}{ops:Array Oper}{Q:Exit->Act->World->Prop}{i:Nat}{rest:List Nat}{o:Oper}{t:List Value}{d0:List Deferred}{W:World}{v:Value}{d:Tmp}{t':List Value}(ho:ops[i]? =some o)(hg:o.guard=none)(hd:o.dst=some d)(hr:(execOp (Act.eval ⟨t.toArray,d0⟩) o).run P W= .ok (.value v) W)(ht:t.set d v=t')(h:wpOpsIn Fence.wide 2 P ops Q rest ⟨t'.toArray,d0⟩ W):wpOpsIn Fence.wide 2 P ops Q (i::rest) ⟨t.toArray,d0⟩ W:=by
 unfold wpOpsIn
 simp only[ho]
 rw[if_pos (show Region.wanted o _=true by unfold Region.wanted;rw[hg])]
 refine⟨fun _ _=>trivial,?_⟩
 show o.uponIn Fence.wide 2 P _ _ Q ((execOp (Act.eval ⟨t.toArray,d0⟩) o).run P W)
 rw[hr,Oper.uponIn_value,hd]
 show wpOpsIn Fence.wide 2 P ops Q rest ⟨t.toArray.setIfInBounds d v,d0⟩ W
 rw[List.setIfInBounds_toArray,ht]
 exact h
theorem vj{P:Program}{id:Nat}{o0 o1 o2 o3:Oper}{Q:Exit->Act->World->Prop}{a:Act}{W:World}(h:wpOpsIn Fence.wide 2 P #[o0,o1,o2,o3] Q [0,1,2,3] a W):(Code.region id #[o0,o1,o2,o3] false).wp P Q a W:=
 (wpIn_wide (n:=2)).1 (wpIn_region h)
abbrev YnD:=NoD×Int×Option Addr×Nat
def ynE(x:YnD):Array Value:=#[knV x.2.1 x.1 x.2.2.1 x.2.2.2]
def ynC(x:YnD):List Value:=[.int .i64 x.2.1,.int .i64 x.1.lv,.int .i64 x.1.right,.string x.1.high,.bool x.1.dead,.slice x.2.2.1 x.1.es.length x.2.2.2,.int .i64 (x.1.free:Int)]
def ynR(x:YnD):Ent:=eO 104 3 (.slice x.2.2.1 x.1.es.length x.2.2.2) x.1.es.length (x.1.es.flatMap enC)
end
section
open Go.RowKit
theorem zq{F:Fence}{nf:Nat}{P:Program}{Q:Exit->Act->World->Prop}{a:Act}{w:World}{c:Code}(I:Nat->Act->World->Prop)(n0:Nat)(h₀:I n0 a w)
  (round:∀n a w,I n a w->c.wpIn F nf P (Exit.then (fun a' w'=>∃m,m<n/\I m a' w') Q) a w):(Code.loop c).wpIn F nf P Q a w:=by
 intro b k cs hro hb hr
 have key:∀m a w,I m a w->∃e a' w',Q e a' w'/\ArrivesIn (Machine.fenced P F) P (lone (b.atR a (.code c:: .inLoop c::k)) cs w) b k cs e a' w':=by
  intro m
  induction m using Nat.strongRecOn with
  |_ m ih=>
   intro a w h
   obtain⟨e,a₁,w₁,hq,harr⟩:=round m a w h b (.inLoop c::k) cs hro hb hr
   cases e with
   |normal=>
    obtain⟨m',hlt,hI₁⟩:=hq
    obtain⟨e₂,a₂,w₂,hq₂,harr₂⟩:=ih m' hlt a₁ w₁ hI₁
    exact⟨e₂,a₂,w₂,hq₂,.of_steps (StepsIn.trans harr (.one (fenced_calm hb hr rfl) stepR_inLoop)) harr₂⟩
   |exit id=>exact⟨_,a₁,w₁,hq,.pass (x:= .inLoop c) rfl (fun _ _=> .inl (by simp)) harr⟩
   |goto l=>exact⟨_,a₁,w₁,hq,.pass (x:= .inLoop c) rfl (fun _ _=> .inl (by simp)) harr⟩
   |ret=>exact⟨_,a₁,w₁,hq,.pass (x:= .inLoop c) rfl (fun _ _=> .inl (by simp)) harr⟩
   |panic ch=>exact⟨_,a₁,w₁,hq,.pass (x:= .inLoop c) rfl (fun _ _=> .inl (by simp)) harr⟩
   |outgrown=>exact⟨_,a₁,w₁,hq,.pass (x:= .inLoop c) rfl (fun _ _=> .inl (by simp)) harr⟩
 obtain⟨e,a',w',hq,harr⟩:=key n0 a w h₀
 exact⟨e,a',w',hq,.of_steps (.one (fenced_calm hb hr rfl) stepR_loop) harr⟩
def zg{α:Type}(P:Program)(gf:Nat)(lb:Array Value)(encs:α->Array Value)(Ex:α->Ent)(Px:α->Prop)(N:Nat)(Z:Bool->List α->Ent->Prop)(Rd:World->Prop):Prop:=
 ∀(l:Nat) (J:Bool->List Nat->List α->World->Prop) (W:World) (C0:List Nat),(∀A,Upd C0 W A->Rd A)->(∀b C pre,(eJ (J b) C pre).loc)->(∀k∈C0,k<W.heap.size)->J true C0 [] W->
  (∀C pre x A,Px x->St A (C++(Ex x).fp) [eJ (J true) C pre,Ex x] A->pre.length<N->YieldAt Fence.wide 1 P l (encs x) A fun e B=>∃b,e= .returned (.bool b)/\∃C',St A (C++(Ex x).fp) [eJ (J b) C' (pre++[x]),Ex x] B)->
  CallsIn Fence.wide 2 P gf (#[.func (.yield l) #[] #[]]++lb) W fun e B=>(∃v,e= .returned v)/\∃b C xs E,St W C0 [eJ (J b) C xs,E] B/\Z b xs E
theorem j3{α:Type}{P:Program}{g:Operand}{ps:Array Tmp}{assign body:Code}{Q:Exit->Act->World->Prop}{t0:Array Value}{w0 w:World}{L0:List Ent}(aL:St w0 [] L0 w)
  {gf:Nat}{lb:Array Value}(hg:Act.eval ⟨t0,[]⟩ g= .func (.func gf) #[] lb) (eg:∀args w,(callFunc gf args).run P w= .ok (.enter gf args) w)
  {encs:α->Array Value}{Ex:α->Ent}{Px:α->Prop}{N:Nat}{Z:Bool->List α->Ent->Prop}{Rd:World->Prop}(hseq:zg P gf lb encs Ex Px N Z Rd) (hRd:∀A,Upd (fps L0) w A->Rd A) (hps:∀x,(encs x).size=ps.size) (I:Bool->List α->List Ent->Prop) (h0:I true [] L0) (Ax:α->Act->Ent->Prop) (t1:α->List Value) (ht1:∀x,(ps.zip (encs x)).foldl (fun t (p,v)=>t.setIfInBounds p v) t0=(t1 x).toArray)
  (hassign:∀(l:Nat) (x:α) (W:World) (K:Act->World->Prop),(∀a' W' E,Ax x a' E->St W [] [E] W'->K a' W')->assign.wpIn (Rnd l) 1 P (Exit.then K (fun _ _ _=>False)) ⟨(t1 x).toArray,[]⟩ W)
  (hbody:∀(l:Nat) (pre:List α) (x:α) (W:World) (L:List Ent) (a':Act) (E:Ent),I true pre L->pre.length<N->Px x->Ax x a' E->St W (fps (L++[Ex x,E])) (L++[Ex x,E]) W->body.wpIn (Rnd l) 1 P (fun e _ W'=>∃b,((b=true/\e= .normal)\/(b=false/\e= .ret))/\∃L',I b (pre++[x]) L'/\St W (fps (L++[Ex x,E])) (L'++[Ex x]) W') a' W)
  (hdone:∀(D:Nat) (W:World) (L:List Ent) (xs:List α) (E:Ent),I true xs L->Z true xs E->St w0 [] (L++[E,fu D]) W->Q .normal ⟨t0,[{target:= .collected D,args:=#[]}]⟩ W)
  (hret:∀(D:Nat) (W:World) (L:List Ent) (xs:List α) (E:Ent),I false xs L->Z false xs E->St w0 [] (L++[E,fu D]) W->Q .ret ⟨t0,[{target:= .collected D,args:=#[]}]⟩ W):
  (Code.rangeFunc g ps assign body).wp P Q ⟨t0,[]⟩ w:=by
 refine(wpIn_wide (n:=3)).1 (wpIn_rangeFunc fun fn hfn=>?_)
 obtain⟨D,hD⟩:∃D,w.heap.size=D:=⟨_,rfl⟩
 obtain⟨rec,hrec⟩:∃rec:LoopState->Option Code->Loop,rec=fun s p=>{state:=s,pending:=p,fn,tmps:=t0,params:=ps,assign,body,defers:=D}:=⟨_,rfl⟩
 obtain⟨rb,hrb⟩:∃rb:Bool->Loop,rb=fun b=>if b then rec .ready none else rec .done (some .ret):=⟨_,rfl⟩
 obtain⟨W1,hW1⟩:∃W1,(w.alloc (.deferred (some []))).alloc (.loop (rec .ready none))=W1:=⟨_,rfl⟩
 have hL1:W1.heap[D+1]? =some (.loop (rec .ready none)):=by
  rw[<-hW1,<-hD];have:=World.alloc_heap_new (w.alloc (.deferred (some []))) (.loop (rec .ready none));rwa [World.size_alloc] at this
 have hK1:W1.heap[D]? =some (.deferred (some [])):=by
  rw[<-hW1,<-hD];exact(Below.heap_alloc _ _ _ (by simp)).trans (World.alloc_heap_new w _)
 have hx1:Ext w W1:=by rw[<-hW1];exact((Below.refl _ w).alloc (Nat.le_refl _) _).alloc (by simp) _
 have iX:W1.heap.size=D+2:=by rw[<-hW1,World.size_alloc,World.size_alloc,hD]
 have h0w:=aL.upd.size
 obtain⟨J,hJ⟩:∃J:Bool->List Nat->List α->World->Prop,J=fun b C pre A=>∃L,I b pre L/\C=(D+1)::D::fps L/\(∀e∈L,e.holds A/\e.loc)/\L.Pairwise Ent.apart/\(∀k∈fps L,k≠D+1/\k≠D)/\A.heap[D+1]? =some (.loop (rb b))/\A.heap[D]? =some (.deferred (some [])):=⟨_,rfl⟩
 have hloc:∀b C pre,(eJ (J b) C pre).loc:=fun b C pre A B hk h=>by
  subst hJ
  obtain⟨L,h1,rfl,h2,h3,h4,h5,h6⟩:=h
  refine⟨L,h1,rfl,fun e he=>⟨(h2 e he).2 A B (fun k hk'=>hk k ?_) (h2 e he).1,(h2 e he).2⟩,h3,h4,(hk (D+1) (by simp[eJ])).trans h5,(hk D (by simp[eJ])).trans h6⟩
  exact List.mem_cons_of_mem _ (List.mem_cons_of_mem _ (cS.2 ⟨e,he,hk'⟩))
 have hC0:∀k∈(D+1)::D::fps L0,w0.heap.size<=k/\k<W1.heap.size:=fun k hk=>by
  rcases List.mem_cons.1 hk with rfl|hk
  exact⟨by omega,by omega⟩
  rcases List.mem_cons.1 hk with rfl|hk
  exact⟨by omega,by omega⟩
  have:=aL.fps_own hk
  have h5:=this.1.resolve_left (by simp)
  exact⟨h5,by omega⟩
 have hrbt:rb true=rec .ready none:=by rw[hrb];rfl
 have hrbf:rb false=rec .done (some .ret):=by rw[hrb];rfl
 have hJ0:J true ((D+1)::D::fps L0) [] W1:=by
  subst hJ
  refine⟨L0,h0,rfl,fun e he=>⟨(aL.ok e he).loc w W1 (fun k hk=>hx1.block ((aL.ok e he).own k hk).2) (aL.ok e he).holds,(aL.ok e he).loc⟩,aL.apart,fun k hk=>?_,by rw[hrbt];exact hL1,hK1⟩
  have:=(aL.fps_own hk).2
  exact⟨by omega,by omega⟩
 refine⟨D+1,[{target:= .collected D,args:=#[]}],W1,{target:= .fn (.func gf) lb,args:=#[.func (.yield (D+1)) #[] #[]]},W1,gf,#[.func (.yield (D+1)) #[] #[]]++lb,W1,?_,?_,?_,?_,fun _=>by omega,?_⟩
 rw[<-hW1,hrec,<-hD];exact run_enterLoop_outer _ _ _ _ _
 simp only[resolve,hg]
 simp[go_sem]
 intro f' hf';trivial
 simp[invoke,go_sem,eg]
 refine(hseq (D+1) J W1 _ (fun A hA=>hRd A ((Upd.mono (S:=[]) (Upd.of_ext hx1) (fun k _ hk'=>by simp at hk')).join hA fun i hi=>?_)) hloc (fun k hk=>(hC0 k hk).2) hJ0 ?_).mono ?_
 rcases List.mem_cons.1 hi with rfl|hi
 exact .inr (by omega)
 rcases List.mem_cons.1 hi with rfl|hi
 exact .inr (by omega)
 exact .inl hi
 intro C pre x A hPx hsA hlen
 have hjo:=hsA.ok (eJ (J true) C pre) (by simp)
 have hxo:=hsA.ok (Ex x) (by simp)
 have hapx:=List.pairwise_pair.1 hsA.apart
 have hlt:∀k∈C,k<A.heap.size:=fun k hk=>(hjo.own k hk).2
 have hj:J true C pre A:=hjo.holds
 clear hjo hsA
 subst hJ
 obtain⟨L,hi,rfl,hall,hap,hne,hl,hk⟩:=hj
 rw[hrbt] at hl
 have hlA:D+1<A.heap.size:=hlt _ (by simp)
 have hDA:D<A.heap.size:=hlt _ (by simp)
 have hxne:∀k∈(Ex x).fp,k≠D+1/\k≠D/\k∉fps L:=fun k hk'=>by
  refine⟨fun e=>?_,fun e=>?_,fun e=>?_⟩
  subst e;exact hapx (D+1) (by simp[eJ]) hk'
  subst e;exact hapx k (by simp[eJ]) hk'
  exact hapx k (by simp[eJ,e]) hk'
 have hxlt:∀k∈(Ex x).fp,k<A.heap.size:=fun k hk'=>(hxo.own k hk').2
 have hy:=run_yield (P:=P) (args:=encs x) hl (by rw[hrec];exact hps x)
 rw[hrec] at hy
 refine⟨fn,_,assign,body,hy,roundIn_of_wpIn hfn ?_⟩
 rw[ht1 x]
 refine hassign _ x A _ fun a' A1 E1 hAx hE1=>?_
 have hxA:=hE1.ext
 have hl1:A1.heap[D+1]? =some (.loop (rec .ready none)):=(hxA.block hlA).trans hl
 have hk1:A1.heap[D]? =some (.deferred (some [])):=(hxA.block hDA).trans hk
 have hEo:=hE1.ok E1 (by simp)
 have hEn:∀k∈E1.fp,A.heap.size<=k/\k<A1.heap.size:=fun k hk'=>⟨(hEo.own k hk').1.resolve_left (by simp),(hEo.own k hk').2⟩
 have hsA1:=hxA.size
 refine⟨_,run_beginRound hl1 (by rw[hrec]),?_⟩
 obtain⟨A2,hA2⟩:∃A2,A1.putObj (D+1) (.loop {rec .ready none with state:= .busy})=A2:=⟨_,rfl⟩
 have hsz:A2.heap.size=A1.heap.size:=by rw[<-hA2];exact fP _ _ _
 have hoth:∀k,k≠D+1->A2.heap[k]? =A1.heap[k]? :=fun k hk'=>by rw[<-hA2];exact World.putObj_heap_other hk'
 have hbusy:A2.heap[D+1]? =some (.loop {rec .ready none with state:= .busy}):=by rw[<-hA2];exact World.putObj_heap_same (by omega)
 have hLlt:∀k∈fps L,k<A.heap.size:=fun k hk'=>hlt k (List.mem_cons_of_mem _ (List.mem_cons_of_mem _ hk'))
 have aV:St A2 (fps (L++[Ex x,E1])) (L++[Ex x,E1]) A2:=by
  refine⟨Upd.refl _ _,fun e he=>?_,?_⟩
  have hin:∀k∈e.fp,k∈fps (L++[Ex x,E1]):=fun k hk'=>cS.2 ⟨e,he,hk'⟩
  rcases List.mem_append.1 he with he|he
  refine⟨(hall e he).2 A A2 (fun k hk'=>?_) (hall e he).1,(hall e he).2,fun k hk'=>⟨.inl (hin k hk'),?_⟩⟩
  have h1:=cS.2 ⟨e,he,hk'⟩
  exact(hoth k (hne k h1).1).trans (hxA.block (hLlt k h1))
  have:=hLlt k (cS.2 ⟨e,he,hk'⟩);omega
  simp only[List.mem_cons,List.not_mem_nil,or_false] at he
  rcases he with rfl|rfl
  refine⟨hxo.loc A A2 (fun k hk'=>(hoth k (hxne k hk').1).trans (hxA.block (hxlt k hk'))) hxo.holds,hxo.loc,fun k hk'=>⟨.inl (hin k hk'),?_⟩⟩
  have:=hxlt k hk';omega
  exact⟨hEo.loc A1 A2 (fun k hk'=>hoth k (by have:=(hEn k hk').1;omega)) hEo.holds,hEo.loc,fun k hk'=>⟨.inl (hin k hk'),by have:=(hEn k hk').2;omega⟩⟩
  rw[List.pairwise_append,List.pairwise_pair]
  refine⟨hap,fun k hk' hkb=>?_,fun a ha b hb k hk' hkb=>?_⟩
  have h1:=hxlt k hk'
  have h2:=(hEn k hkb).1
  omega
  simp only[List.mem_cons,List.not_mem_nil,or_false] at hb
  have hkf:k∈fps L:=cS.2 ⟨a,ha,hk'⟩
  rcases hb with rfl|rfl
  exact(hxne k hkb).2.2 hkf
  have h1:=hLlt k hkf
  have h2:=(hEn k hkb).1
  omega
 rw[hA2]
 have hfin:∀k∈fps (L++[Ex x,E1]),k∈fps L\/k∈(Ex x).fp\/A.heap.size<=k:=fun k hk'=>by
  obtain⟨e,he,hke⟩:=cS.1 hk'
  rcases List.mem_append.1 he with he|he
  exact .inl (cS.2 ⟨e,he,hke⟩)
  simp only[List.mem_cons,List.not_mem_nil,or_false] at he
  rcases he with rfl|rfl
  exact .inr (.inl hke)
  exact .inr (.inr (hEn k hke).1)
 refine wpIn_mono (hbody _ pre x A2 L a' E1 hi hlen hPx hAx aV) ?_
 rintro e a W3 ⟨b,hbe,L',hi',hs'⟩
 have hno:∀m,m=D+1\/m=D->m∉fps (L++[Ex x,E1]):=fun m hm hmm=>by
  rcases hfin m hmm with h1|h1|h1
  have:=hne m h1;rcases hm with rfl|rfl<;>simp at this
  have:=hxne m h1;rcases hm with rfl|rfl<;>simp at this
  omega
 have hl3:W3.heap[D+1]? =some (.loop {rec .ready none with state:= .busy}):=(hs'.upd.block _ (by omega) (hno _ (.inl rfl))).trans hbusy
 have hk3:W3.heap[D]? =some (.deferred (some [])):=(hs'.upd.block _ (by omega) (hno _ (.inr rfl))).trans ((hoth D (by omega)).trans hk1)
 have hsz3:=hs'.upd.size
 have hne':∀k∈fps (L'++[Ex x]),k≠D+1/\k≠D:=fun k hk'=>by
  rcases(hs'.fps_own hk').1 with h1|h1
  rcases hfin k h1 with h2|h2|h2
  exact hne k h2
  exact⟨(hxne k h2).1,(hxne k h2).2.1⟩
  exact⟨by omega,by omega⟩
  exact⟨by omega,by omega⟩
 have hupA:Upd (((D+1)::D::fps L)++(Ex x).fp) A A2:=by rw[<-hA2];exact(Upd.mono (S:=[]) (Upd.of_ext hxA) (fun k _ hk'=>by simp at hk')).putObj (.inl (by simp))
 have hup:Upd (((D+1)::D::fps L)++(Ex x).fp) A W3:=hupA.join hs'.upd (fun i hi=>by
  rcases hfin i hi with h1|h1|h1
  exact Or.inl (List.mem_append_left _ (List.mem_cons_of_mem _ (List.mem_cons_of_mem _ h1)))
  exact Or.inl (List.mem_append_right _ h1)
  exact .inr h1)
 have h3l:D+1<W3.heap.size:=by omega
 have hapL:=List.pairwise_append.1 hs'.apart
 have fin:∀(ob:Loop),rb b=ob->St A (((D+1)::D::fps L)++(Ex x).fp) [eJ (fun C pre A=>∃L,I b pre L/\C=(D+1)::D::fps L/\(∀e∈L,e.holds A/\e.loc)/\L.Pairwise Ent.apart/\(∀k∈fps L,k≠D+1/\k≠D)/\A.heap[D+1]? =some (.loop (rb b))/\A.heap[D]? =some (.deferred (some []))) ((D+1)::D::fps L') (pre++[x]),Ex x] (W3.putObj (D+1) (.loop ob)):=by
  intro ob hob
  have own3:∀k,k∈fps (L'++[Ex x])->(k∈((D+1)::D::fps L)++(Ex x).fp\/A.heap.size<=k)/\k<W3.heap.size:=fun k hk'=>by
   have h6:=hs'.fps_own hk'
   refine⟨?_,h6.2⟩
   rcases h6.1 with h7|h7
   rcases hfin k h7 with h8|h8|h8
   exact .inl (List.mem_append_left _ (List.mem_cons_of_mem _ (List.mem_cons_of_mem _ h8)))
   exact .inl (List.mem_append_right _ h8)
   exact .inr h8
   exact .inr (by omega)
  have inL:∀k∈fps L',k∈fps (L'++[Ex x]):=fun k hk'=>by
   obtain⟨e,he,hke⟩:=cS.1 hk'
   exact cS.2 ⟨e,List.mem_append_left _ he,hke⟩
  have inX:∀k∈(Ex x).fp,k∈fps (L'++[Ex x]):=fun k hk'=>cS.2 ⟨Ex x,by simp,hk'⟩
  have hxo3:=hs'.ok (Ex x) (by simp)
  refine⟨hup.putObj (.inl (by simp)),fun e he=>?_,List.pairwise_pair.2 fun k hk' hkx=>?_⟩
  simp only[List.mem_cons,List.not_mem_nil,or_false] at he
  rcases he with rfl|rfl
  refine⟨⟨L',hi',rfl,fun e he=>⟨(hs'.ok e (List.mem_append_left _ he)).loc W3 _ (fun k hk'=>World.putObj_heap_other (hne' k (inL k (cS.2 ⟨e,he,hk'⟩))).1) (hs'.ok e (List.mem_append_left _ he)).holds,(hs'.ok e (List.mem_append_left _ he)).loc⟩,hapL.1,fun k hk'=>hne' k (inL k hk'),?_,?_⟩,hloc b _ _,fun k hk'=>?_⟩
  rw[hob];exact World.putObj_heap_same h3l
  exact(World.putObj_heap_other (by omega)).trans hk3
  rw[fP]
  have hk':k∈(D+1)::D::fps L':=hk'
  rcases List.mem_cons.1 hk' with rfl|hk'
  exact⟨.inl (by simp),h3l⟩
  rcases List.mem_cons.1 hk' with rfl|hk'
  exact⟨.inl (by simp),by omega⟩
  exact own3 k (inL k hk')
  refine⟨hxo3.loc W3 _ (fun k hk'=>World.putObj_heap_other (hne' k (inX k hk')).1) hxo3.holds,hxo3.loc,fun k hk'=>?_⟩
  rw[fP]
  exact own3 k (inX k hk')
  have hk':k∈(D+1)::D::fps L':=hk'
  rcases List.mem_cons.1 hk' with rfl|hk'
  exact(hne' _ (inX _ hkx)).1 rfl
  rcases List.mem_cons.1 hk' with rfl|hk'
  exact(hne' _ (inX _ hkx)).2 rfl
  obtain⟨e,he,hke⟩:=cS.1 hk'
  exact hapL.2.2 e he (Ex x) (by simp) k hke hkx
 rcases hbe with ⟨rfl,rfl⟩|⟨rfl,rfl⟩
 refine⟨_,_,run_endRound none hl3,true,rfl,(D+1)::D::fps L',?_⟩
 exact fin _ (by rw[hrbt,hrec];rfl)
 refine⟨_,_,run_endRound (some .ret) hl3,false,rfl,(D+1)::D::fps L',?_⟩
 exact fin _ (by rw[hrbf,hrec];rfl)
 rintro e W2 ⟨⟨v,rfl⟩,b,C,xs,E,hs,hz⟩
 have hE:=hs.ok E (by simp)
 have hjo:=hs.ok (eJ (J b) C xs) (by simp)
 have hap2:=List.pairwise_pair.1 hs.apart
 have hj:J b C xs W2:=hjo.holds
 have hjown:∀k∈C,(k∈(D+1)::D::fps L0\/W1.heap.size<=k)/\k<W2.heap.size:=fun k hk'=>hjo.own k hk'
 have hsupd:=hs.upd
 clear hjo hs
 subst hJ
 obtain⟨L,hi,rfl,hall,hap,hne,hl,hk⟩:=hj
 have hap2:∀k∈(D+1)::D::fps L,k∉E.fp:=hap2
 have hend:=run_endLoop (P:=P) hl (by rw[hrb,hrec];cases b<;>simp)
 have hCo:∀k∈(D+1)::D::fps L,(w0.heap.size<=k/\k<W2.heap.size):=fun k hk'=>by
  have h5:=hjown k hk'
  refine⟨?_,h5.2⟩
  rcases h5.1 with h6|h6
  exact(hC0 k h6).1
  omega
 have hup:Upd [] w0 W2:=(Upd.of_ext (aL.ext.trans hx1)).join hsupd (fun i hi=> .inr (hC0 i hi).1)
 have hlA:=(hCo (D+1) (by simp)).2
 have hw0D:w0.heap.size<=D+1:=by omega
 have fin:∀ob:Obj,St w0 [] (L++[E,fu D]) (W2.putObj (D+1) ob):=by
  intro ob
  refine⟨hup.putObj (.inr hw0D),fun e he=>?_,?_⟩
  rcases List.mem_append.1 he with he|he
  refine⟨(hall e he).2 W2 _ (fun k hk'=>World.putObj_heap_other (hne k (cS.2 ⟨e,he,hk'⟩)).1) (hall e he).1,(hall e he).2,fun k hk'=>?_⟩
  rw[fP]
  have:=hCo k (List.mem_cons_of_mem _ (List.mem_cons_of_mem _ (cS.2 ⟨e,he,hk'⟩)))
  exact⟨.inr this.1,this.2⟩
  simp only[List.mem_cons,List.not_mem_nil,or_false] at he
  rcases he with rfl|rfl
  refine⟨hE.loc W2 _ (fun k hk'=>World.putObj_heap_other fun e=>?_) hE.holds,hE.loc,fun k hk'=>?_⟩
  subst e;exact hap2 (D+1) (by simp) hk'
  rw[fP]
  have h5:=hE.own k hk'
  refine⟨.inr ?_,h5.2⟩
  rcases h5.1 with h6|h6
  exact(hC0 k h6).1
  omega
  refine⟨(World.putObj_heap_other (by omega)).trans hk,H0 D,fun k hk'=>?_⟩
  have:k=D:=by simpa[fu] using hk'
  subst this
  rw[fP]
  exact⟨.inr (by omega),by omega⟩
  rw[List.pairwise_append,List.pairwise_pair]
  refine⟨hap,fun k hk' hkD=>?_,fun a ha b hb k hk' hkb=>?_⟩
  have:k=D:=by simpa[fu] using hkD
  subst this
  exact hap2 k (by simp) hk'
  simp only[List.mem_cons,List.not_mem_nil,or_false] at hb
  have hkf:k∈fps L:=cS.2 ⟨a,ha,hk'⟩
  rcases hb with rfl|rfl
  exact hap2 k (List.mem_cons_of_mem _ (List.mem_cons_of_mem _ hkf)) hkb
  have:k=D:=by simpa[fu] using hkb
  exact(hne k hkf).2 this
 cases b with
 |true=>
  have hpend:(rb true).pending=none:=by rw[hrb,hrec];rfl
  rw[hpend] at hend
  exact⟨none,_,hend,hdone D _ L xs E hi hz (fin _)⟩
 |false=>
  have hpend:(rb false).pending=some .ret:=by rw[hrb,hrec];rfl
  rw[hpend] at hend
  exact⟨some .ret,_,hend,wpIn_ret (hret D _ L xs E hi hz (fin _))⟩
end
section
open Go.RowKit
def cZ:NoD:=⟨0,0,⟨#[]⟩,false,[],0⟩
def ndZ(ps:List PgS)(x:Int):NoD:=(ao ps x).getD cZ
def pgN(y:YnD):Int×NoD:=(y.2.1,y.1)
def eFt(a:Prop):Ent:=⟨[],fun _=>a⟩
theorem AJ{c:Prop}{w W:World}{bor:List Nat}{L:List Ent}(h:St w bor L W)(hp:c):St w bor (L++[eFt c]) W:=by
 refine⟨h.upd,fun e he=>?_,List.pairwise_append.2 ⟨h.apart,List.pairwise_singleton _ _,fun a ha b hb k hk hkb=>?_⟩⟩
 rcases List.mem_append.1 he with he|he
 exact h.ok e he
 rw[List.mem_singleton] at he;subst he
 exact⟨hp,fun W W' _ h=>h,fun k hk=>by simp[eFt] at hk⟩
 rw[List.mem_singleton] at hb;subst hb;simp[eFt] at hkb
def eYs(xs:List YnD)(fp:List Nat):Ent:=⟨fp,fun W=>∀y∈xs,(∀ad,y.2.2.1=some ad->ad.block∈fp)/\At W y.2.2.1 (y.1.es.flatMap enC)⟩
theorem x9(xs:List YnD)(fp:List Nat):(eYs xs fp).loc:=fun W W' hk h y hy=>⟨(h y hy).1,dZ (h y hy).2 fun ad e _=>hk _ ((h y hy).1 ad e)⟩
theorem St.yn0{w W:World}{bor:List Nat}{L:List Ent}(h:St w bor L W):St w bor (L++[eYs [] []]) W:=by
 refine⟨h.upd,fun e he=>?_,List.pairwise_append.2 ⟨h.apart,List.pairwise_singleton _ _,fun a ha b hb k hk hkb=>?_⟩⟩
 rcases List.mem_append.1 he with he|he
 exact h.ok e he
 rw[List.mem_singleton] at he;subst he
 exact⟨fun y hy=>absurd hy (by simp),x9 _ _,fun k hk=>by simp[eYs] at hk⟩
 rw[List.mem_singleton] at hb;subst hb;simp[eYs] at hkb
theorem yj{W:World}{t sz m lc:Nat}{LA:Option Addr}{xs:List Value}(h:W.ownsRow 0 t sz (.slice LA m lc) m xs):∀ad,LA=some ad->ad.block∈(Value.ownBlock (.slice LA m lc)).toList:=fun ad e=>by
 rcases h.2 with ⟨hv,_⟩|⟨g,cap,cur,hv,_⟩
 injection hv with h2;rw[e] at h2;cases h2
 subst e;injection hv with h5;injection h5 with h5;subst h5;simp[Value.ownBlock]
theorem St.yn1{w W:World}{bor:List Nat}{L:List Ent}{xs:List YnD}{fp:List Nat}{y:YnD}(h:St w bor (eYs xs fp::ynR y::L) W):St w bor (eYs (xs++[y]) (fp++(ynR y).fp)::L) W:=by
 have h1:=h.ok (eYs xs fp) (by simp)
 have h2:=h.ok (ynR y) (by simp)
 have hp:=List.pairwise_cons.1 h.apart
 have gN:=List.pairwise_cons.1 hp.2
 have hR:W.ownsRow 0 104 3 (.slice y.2.2.1 y.1.es.length y.2.2.2) y.1.es.length (y.1.es.flatMap enC):=h2.holds
 refine⟨h.upd,fun e he=>?_,List.pairwise_cons.2 ⟨fun e he k hk hke=>?_,gN.2⟩⟩
 rcases List.mem_cons.1 he with rfl|he
 refine⟨fun z hz=>?_,x9 _ _,fun k hk=>?_⟩
 rcases List.mem_append.1 hz with hz|hz
 exact⟨fun ad e=>List.mem_append_left _ ((h1.holds z hz).1 ad e),(h1.holds z hz).2⟩
 rw[List.mem_singleton] at hz;subst hz
 exact⟨fun ad e=>List.mem_append_right _ (yj hR ad e),At.of_ownN hR⟩
 rcases List.mem_append.1 hk with hk|hk
 exact h1.own k hk
 exact h2.own k hk
 exact h.ok e (by simp[he])
 rcases List.mem_append.1 hk with hk|hk
 exact hp.1 e (by simp[he]) k hk hke
 exact gN.1 e he k hk hke
theorem St.borrow{w W:World}{bor:List Nat}{a b:Ent}{L:List Ent}(h:St w bor (a::b::L) W):St W (a.fp++b.fp) [a,b] W:=by
 have ha:=h.ok a (by simp)
 have hb:=h.ok b (by simp)
 refine⟨Upd.refl _ _,fun e he=>?_,List.pairwise_pair.2 ((List.pairwise_cons.1 h.apart).1 b (by simp))⟩
 simp only[List.mem_cons,List.not_mem_nil,or_false] at he
 rcases he with rfl|rfl
 exact⟨ha.holds,ha.loc,fun k hk=>⟨.inl (List.mem_append_left _ hk),(ha.own k hk).2⟩⟩
 exact⟨hb.holds,hb.loc,fun k hk=>⟨.inl (List.mem_append_right _ hk),(hb.own k hk).2⟩⟩
theorem St.back{w A B:World}{bor:List Nat}{a b a' b':Ent}{L:List Ent}(h:St w bor (a::b::L) A)(hj:St A (a.fp++b.fp) [a',b'] B):St w bor (a'::b'::L) B:=by
 have hp:=List.pairwise_cons.1 h.apart
 have gN:=List.pairwise_cons.1 hp.2
 have hab:∀k∈a.fp++b.fp,(k∈bor\/w.heap.size<=k)/\k<A.heap.size:=fun k hk=>by
  rcases List.mem_append.1 hk with hk|hk
  exact(h.ok a (by simp)).own k hk
  exact(h.ok b (by simp)).own k hk
 have hL:∀e∈L,∀k∈e.fp,k∉a.fp++b.fp:=fun e he k hke hk=>by
  rcases List.mem_append.1 hk with hk|hk
  exact hp.1 e (by simp[he]) k hk hke
  exact gN.1 e he k hk hke
 have hnew:∀e∈[a',b'],∀k∈e.fp,(k∈a.fp++b.fp\/A.heap.size<=k):=fun e he k hk=>((hj.ok e he).own k hk).1
 have hapart:∀e∈[a',b'],∀x∈L,e.apart x:=fun e he x hx k hk hkx=>by
  rcases hnew e he k hk with h1|h1
  exact hL x hx k hkx h1
  have:=((h.ok x (by simp[hx])).own k hkx).2;omega
 refine⟨h.upd.join hj.upd (fun i hi=>(hab i hi).1),fun e he=>?_,List.pairwise_cons.2 ⟨fun e he=>?_,List.pairwise_cons.2 ⟨fun e he=>hapart b' (by simp) e he,gN.2⟩⟩⟩
 have key:∀e∈[a',b'],e.ok w bor B:=fun e he=>by
  have h2:=hj.ok e he
  refine⟨h2.holds,h2.loc,fun k hk=>⟨?_,(h2.own k hk).2⟩⟩
  rcases(h2.own k hk).1 with h1|h1
  exact(hab k h1).1
  exact .inr (Nat.le_trans h.upd.size h1)
 rcases List.mem_cons.1 he with rfl|he
 exact key _ (by simp)
 rcases List.mem_cons.1 he with rfl|he
 exact key _ (by simp)
 exact(h.ok e (by simp[he])).keep hj.upd (fun k hk hkC=>hL e he k hk hkC)
 rcases List.mem_cons.1 he with rfl|he
 exact(List.pairwise_pair.1 hj.apart)
 exact hapart a' (by simp) e he
def YnZ(L:List (Int×NoD))(b:Bool)(xs:List YnD)(E:Ent):Prop:=E=eYs xs E.fp/\(b=true->xs.map pgN=L)/\∃r,xs.map pgN++r=L
theorem YnZ.all{L:List (Int×NoD)}{xs:List YnD}{fp:List Nat}(h:xs.map pgN=L):YnZ L true xs (eYs xs fp):=⟨rfl,fun _=>h,[],by rw[h,List.append_nil]⟩
theorem YnZ.some{L r:List (Int×NoD)}{xs:List YnD}{fp:List Nat}(h:xs.map pgN++r=L):YnZ L false xs (eYs xs fp):=⟨rfl,fun h=>(nomatch h),r,h⟩
structure RdR (b1 b2 b3:Nat) (tt:TypeId) (tv:Value) (root lv:Int) (ps:List PgS) (A:World):Prop where
 b1:Blk A b1 113 #[.iface tt tv]
 b2:Blk A b2 3 #[.int .i64 root]
 b3:Blk A b3 3 #[.int .i64 lv]
 pgs:PgsOk A tt tv ps
def H6(o:Option NoD)(x:Int)(w:World)(e:Ending)(w':World):Prop:=∃px EA ec,e= .returned (.tuple #[knV px (o.getD cZ) EA ec,.bool o.isSome])/\St w [] [eO 104 3 (.slice EA (o.getD cZ).es.length ec) (o.getD cZ).es.length ((o.getD cZ).es.flatMap enC),eFt (o.isSome=true->px=x)] w'
theorem yQ(tt:TypeId)(tv:Value)(ps:List PgS)(x:Int)(w:World)(hS:PgsOk w tt tv ps)(hok:OkS ps)(hoc:OkC ps):Calls Try.prog 47 #[.iface tt tv,.int .i64 x] w (H6 (ao ps x) x w):=by
 refine(gF tt tv ps x w hS hok hoc).mono fun e w' h=>?_
 cases ho:ao ps x with
 |none=>
  rw[ho] at h
  obtain⟨p,rfl,hx⟩:=h
  exact⟨p,none,0,rfl,AJ (L:=[_]) (by have h1:=bM (⟨Upd.of_ext hx,(fun e he=>absurd he (by simp)),List.Pairwise.nil⟩:St w [] [] w') 104 3;exact h1) fun h=>(nomatch h)⟩
 |some n=>
  rw[ho] at h
  obtain⟨EA,ec,rfl,hs⟩:=h
  exact⟨x,EA,ec,rfl,AJ hs fun _=>rfl⟩
theorem Hz{ps:List PgS}(hok:OkS ps)(x:Int):NdOk (ndZ ps x):=by
 unfold ndZ
 cases h:ao ps x with
 |none=>exact⟨by decide,by decide,by decide,by decide,(fun e he=>nomatch he),by decide⟩
 |some n=>exact e8 hok h
theorem xJ{P:Program}{ops:Array Oper}{Q:Exit->Act->World->Prop}{i:Nat}{rest:List Nat}{o:Oper}{t:List Value}{d0:List Deferred}{W:World}{d l:Nat}{args:Array Value}{R:Bool->World->Prop}(t':Bool->List Value)(ho:ops[i]? =some o)(hg:o.guard=none)(hd:o.dst=some d)
  (hr:∀r,(Instr.yield l args).run P W=r->(execOp (Act.eval ⟨t.toArray,d0⟩) o).run P W=r) (hy:YieldAt Fence.wide 1 P l args W fun e B=>∃b,e= .returned (.bool b)/\R b B) (ht:∀b,t.set d (.bool b)=t' b) (h:∀b B,R b B->∀tt,tt=t' b->wpOpsIn Fence.wide 2 P ops Q rest ⟨tt.toArray,d0⟩ B):wpOpsIn Fence.wide 2 P ops Q (i::rest) ⟨t.toArray,d0⟩ W:=by
 obtain⟨fn,tmps,assign,body,h1,h2⟩:=hy
 unfold wpOpsIn
 simp only[ho]
 rw[if_pos (show Region.wanted o _=true by unfold Region.wanted;rw[hg])]
 refine⟨fun _ _=>trivial,?_⟩
 show o.uponIn Fence.wide 2 P _ _ Q ((execOp (Act.eval ⟨t.toArray,d0⟩) o).run P W)
 rw[hr _ h1,Oper.uponIn_round]
 refine⟨fun hh=>by simp[Fence.wide] at hh,h2.mono ?_⟩
 rintro e B ⟨b,rfl,hB⟩
 show wpOpsIn Fence.wide 2 P ops Q rest (Act.put ⟨t.toArray,d0⟩ o.dst (.bool b)) B
 rw[hd]
 show wpOpsIn Fence.wide 2 P ops Q rest ⟨t.toArray.setIfInBounds d (.bool b),d0⟩ B
 rw[List.setIfInBounds_toArray,ht]
 exact h b B hB _ rfl
theorem CZ{ps:List PgS}{root lv x:Int}{nd:NoD}{s:Nat}(hd:dE ps lv 1000 root=dE ps lv (1001-s) x)(hs:1<=s/\s<1000)(hn:ao ps x=some nd)(hl:lv<nd.lv)(h2:0<nd.es.length):dE ps lv 1000 root=dE ps lv (1001-(s+1)) (nd.es.getD 0 en0).2.2:=by
 rw[hd,show 1001-s=(1001-(s+1))+1 by omega];exact qd hn hl (by omega)
theorem DI{ps:List PgS}{root lv:Int}(h:dE ps lv 1000 root=none):bH ps root lv=[]:=by rw[bH,h]
theorem By{ps:List PgS}{root lv x:Int}{nd:NoD}(h:dE ps lv 1000 root=some (x,nd)):bH ps root lv=dS ps lv 1000 x:=by rw[bH,h]
theorem Gs{ps:List PgS}{lv x:Int}{nd:NoD}{s:Nat}(hn:ao ps x=some nd)(hl:nd.lv≠lv)(h:¬(lv<nd.lv/\0<nd.es.length/\s<1000))(hs:1<=s/\s<=1000):dE ps lv (1001-s) x=none:=by
 by_cases h1:nd.lv<lv\/nd.es.length=0
 exact Db hn hl h1
 have:s=1000:=by omega
 subst this
 rw[show 1001-1000=0+1 by omega,qd hn (by omega) (by omega)];rfl
theorem GN{ps:List PgS}{root lv x:Int}{s:Bool}{nd:NoD}{k:Nat}(his:s=(ao ps x).isSome)(hnz:nd=ndZ ps x)(hds:dE ps lv 1000 root=dE ps lv (1001-k) x)(hs:1<=k/\k<=1000)(h1:s=true->¬(lv<nd.lv/\0<nd.es.length/\k<1000))(h2:s=true->nd.lv≠lv):bH ps root lv=[]:=by
 refine DI (hds.trans ?_)
 cases ho:ao ps x with
 |none=>exact Ct ho
 |some n=>
  have e:s=true:=by rw[his,ho];rfl
  have hn:nd=n:=by rw[hnz,ndZ,ho];rfl
  subst hn
  exact Gs ho (h2 e) (h1 e) hs
theorem GL{ps:List PgS}{lv x:Int}{k:Nat}(h:(ao ps x).isSome=true->(ndZ ps x).lv≠lv):dS ps lv k x=[]:=by
 cases ho:ao ps x with
 |none=>exact vG ho
 |some n=>exact Dp ho (by have:=h (by rw[ho];rfl);rwa [ndZ,ho] at this)
theorem zY{ps:List PgS}{root lv x:Int}{nd:NoD}{k:Nat}(hds:dE ps lv 1000 root=dE ps lv (1001-k) x)(hs:1<=k/\k<=1000)(hn:ao ps x=some nd)(hl:nd.lv=lv):([]:List YnD).map pgN++dS ps lv (1000-0) x=bH ps root lv:=by
 rw[By (hds.trans (by rw[show 1001-k=(1000-k)+1 by omega];exact yA hn hl))];rfl
theorem GP{L:List (Int×NoD)}{ps:List PgS}{lv x:Int}{i:Nat}{pre:List YnD}(h:pre.map pgN++dS ps lv (1000-i) x=L)(hi:¬i<1000):pre.map pgN=L:=by
 rw[show 1000-i=0 by omega] at h
 rw[<-h,dS,List.append_nil]
theorem Do{ps:List PgS}{root lv x:Int}{nd:NoD}{i:Nat}{pre:List YnD}{EA:Option Addr}{ec:Nat}(hrow:pre.map pgN++dS ps lv (1000-i) x=bH ps root lv)(hn:ao ps x=some nd)(hl:nd.lv=lv)(hi:i<1000)(h:(ao ps nd.right).isSome=true->(ndZ ps nd.right).lv≠lv):(pre++[(nd,x,EA,ec)]).map pgN=bH ps root lv:=by
 rw[<-hrow,show 1000-i=(1000-(i+1))+1 by omega,s6 hn hl,GL h,List.map_append];rfl
theorem Er{ps:List PgS}{x:Int}{s:Bool}{nd:NoD}(his:s=(ao ps x).isSome)(hnz:nd=ndZ ps x)(h:s=true):ao ps x=some nd:=by
 subst h
 cases ho:ao ps x with
 |none=>rw[ho] at his;cases his
 |some n=>rw[hnz,ndZ,ho];rfl
def IE(w:World)(root lv:Int)(ps:List PgS)(J:Bool->List Nat->List YnD->World->Prop)(C0:List Nat)(e:Ending)(B:World):Prop:=(∃v,e= .returned v)/\∃b C xs E,St w C0 [eJ (J b) C xs,E] B/\YnZ (bH ps root lv) b xs E
theorem vA{ps:List PgS}{root lv x:Int}{nd:NoD}{i:Nat}{pre:List YnD}{EA:Option Addr}{ec:Nat}(hrow:pre.map pgN++dS ps lv (1000-i) x=bH ps root lv)(hn:ao ps x=some nd)(hl:nd.lv=lv)(hi:i<1000):(pre++[(nd,x,EA,ec)]).map pgN++dS ps lv (1000-(i+1)) nd.right=bH ps root lv:=by
 rw[<-hrow,show 1000-i=(1000-(i+1))+1 by omega,s6 hn hl,List.map_append,List.append_assoc];rfl
theorem Dl(l:Nat)(b1 b2 b3:Nat)(tt:TypeId)(tv:Value)(root lv:Int)(ps:List PgS)(J:Bool->List Nat->List YnD->World->Prop)(C0:List Nat)(w:World)(hRd:∀A,Upd C0 w A->RdR b1 b2 b3 tt tv root lv ps A)(hok:OkS ps)(hoc:OkC ps)(hloc:∀b C pre,(eJ (J b) C pre).loc)(hlt:∀k∈C0,k<w.heap.size)(hJ0:J true C0 [] w)(hY:∀C pre x A,ao ps x.2.1=some x.1->St A (C++(ynR x).fp) [eJ (J true) C pre,ynR x] A->pre.length<1000->YieldAt Fence.wide 1 Try.prog l (ynE x) A fun e B=>∃b,e= .returned (.bool b)/\∃C',St A (C++(ynR x).fp) [eJ (J b) C' (pre++[x]),ynR x] B):
  Calls Try.prog 99 #[.func (.yield l) #[] #[],.pointer (some ⟨b1,0,none⟩),.pointer (some ⟨b2,0,none⟩),.pointer (some ⟨b3,0,none⟩)] w (IE w root lv ps J C0):=by
 have st0:St w C0 [eJ (J true) C0 [],eYs [] []] w:=(St.lend (E:=eJ (J true) C0 []) hJ0 (hloc _ _ _) hlt).yn0
 go_enter Try.func99,Try.ntmps99
 have aq:=st0
 refine wp_seq (aj [0,0,3,7,15,15,0,95,255] [[],[],[],[],[],[],[],[4]] [[],[],[2,3],[],[],[],[4],[5]] [[],[],[],[],[],[],[],[4]] [.c 9 (.iface tt (tv)),.c 10 (vi root),.a 11,.a 8,.a 12,.c 13 (.bool ((ao ps root).isSome)),.a 5,.n,.k 6 (.bool ((ao ps root).isSome))] (fun ix g d X=>match ix with|0|1=>True|2=>g 11= .tuple #[.agg #[vi (iv (tg (tg (d 11) 0) 0)),vi ((ndZ ps root).lv),vi ((ndZ ps root).right),.string ((ndZ ps root).high),.bool ((ndZ ps root).dead),.slice (sA (tg (tg (d 11) 0) 5)) ((ndZ ps root).es.length) (sC (tg (tg (d 11) 0) 5)),vi (((ndZ ps root).free:Int))],.bool ((ao ps root).isSome)]/\X 2=eO 104 3 (.slice (sA (tg (tg (d 11) 0) 5)) ((ndZ ps root).es.length) (sC (tg (tg (d 11) 0) 5))) ((ndZ ps root).es.length) ((ndZ ps root).es.flatMap enC)/\X 3=eFt ((ao ps root).isSome=true->(iv (tg (tg (d 11) 0) 0))=root)|3=>g 8= .tuple #[.agg #[vi (iv (tg (tg (d 11) 0) 0)),vi ((ndZ ps root).lv),vi ((ndZ ps root).right),.string ((ndZ ps root).high),.bool ((ndZ ps root).dead),.slice (sA (tg (tg (d 11) 0) 5)) ((ndZ ps root).es.length) (sC (tg (tg (d 11) 0) 5)),vi (((ndZ ps root).free:Int))],.bool ((ao ps root).isSome)]|4=>g 12= .agg #[vi (iv (tg (tg (d 11) 0) 0)),vi ((ndZ ps root).lv),vi ((ndZ ps root).right),.string ((ndZ ps root).high),.bool ((ndZ ps root).dead),.slice (sA (tg (tg (d 11) 0) 5)) ((ndZ ps root).es.length) (sC (tg (tg (d 11) 0) 5)),vi (((ndZ ps root).free:Int))]|5=>True|6=>g 5=vp (pb (d 5))/\X 4=eB (pb (d 5)) 116 #[vi 0,vi 0,vi 0,.string ByteArray.empty,.bool false,.slice none 0 0,vi 0]|7=>X 5=eB (pb (d 5)) 116 #[vi (iv (tg (tg (d 11) 0) 0)),vi ((ndZ ps root).lv),vi ((ndZ ps root).right),.string ((ndZ ps root).high),.bool ((ndZ ps root).dead),.slice (sA (tg (tg (d 11) 0) 5)) ((ndZ ps root).es.length) (sC (tg (tg (d 11) 0) 5)),vi (((ndZ ps root).free:Int))]|_=>True) [0,1,2,3,5] [0,1,2,3,4,5,6,7] [(5,6,3,7),(1,3,1,2),(0,0,3,3),(0,4,2,2)] aq ?_ ?_ ?_)
 exact fun ix _ _ _ _ _ _ hs hb hx h=>match ix,h with
 |2,h=>by dsimp only;rw[<-hs 11 rfl,<-hb 11 rfl,<-hx 2 rfl,<-hx 3 rfl];exact h
 |3,h=>by dsimp only;rw[<-hs 8 rfl,<-hb 11 rfl];exact h
 |4,h=>by dsimp only;rw[<-hs 12 rfl,<-hb 11 rfl];exact h
 |6,h=>by dsimp only;rw[<-hs 5 rfl,<-hb 5 rfl,<-hx 4 rfl];exact h
 |7,h=>by dsimp only;rw[<-hb 5 rfl,<-hb 11 rfl,<-hx 5 rfl];exact h
 |0,_|1,_|5,_|_+8,_=>trivial
 refine⟨?_,?_,?_,?_,?_,?_,?_,?_,trivial⟩
 exact xs4 rfl id fun cx=>ae rfl (by kernel_rfl) (cx.ou 1) ((Blk.ext (hRd _ cx.upd).b1 (Ext.refl _)).cell 0)
 exact xs4 rfl id fun cx=>ae rfl (by kernel_rfl) (cx.ou 2) ((Blk.ext (hRd _ cx.upd).b2 (Ext.refl _)).cell 0)
 refine svA fun j d W X cx=>?_
 refine ax.call (av (args:=#[.iface tt (tv),vi root]) rfl cx.sees rfl (by kernel_rfl) (aK (cx.an 0) (cx.an 1))) ?_
 refine(yQ _ _ ps root _ (hRd _ cx.upd).pgs hok hoc).mono ?_
 rintro e W1 ⟨px4,EA4,ec4,rfl,aR⟩
 refine⟨_,rfl,dy [eO 104 3 (.slice EA4 (ndZ ps root).es.length ec4) (ndZ ps root).es.length ((ndZ ps root).es.flatMap enC),eFt ((ao ps root).isSome=true->px4=root)] rfl rfl aR (fun g o X' hs hb hv hN=>?_)⟩
 have aZ:=(hv 11 rfl).1;have aJ:=(hv 11 rfl).2
 exact⟨aZ.trans (by rw[aJ];rfl),(by rw[aJ];exact(List.cons.inj hN).1),(by rw[aJ];exact(List.cons.inj (List.cons.inj hN).2).1)⟩
 exact sv rfl rfl rfl rfl rfl _ (fun _ _ _ h=>h) (fun d o h=>by rw[h 11 (by decide)]) fun j d W X cx=>b7 rfl (dTn (cx.an 2)).1
 exact sv rfl rfl rfl rfl rfl _ (fun _ _ _ h=>h) (fun d o h=>by rw[h 11 (by decide)]) fun j d W X cx=>aG rfl (dTn (cx.an 3)) rfl
 exact xs4 rfl id fun cx=>aG rfl (dTn (cx.an 3)) rfl
 refine svA fun j d W X cx=>?_
 exact bx (cs:=#[vi 0,vi 0,vi 0,.string ByteArray.empty,.bool false,.slice none 0 0,vi 0]) rfl (by kernel_rfl) rfl rfl (fun _ _ _ _ _=> .intro)
 refine svA fun j d W X cx=>?_
 exact ar (n:=7) rfl (dTn (cx.an 6)).1 (dTn (cx.an 4)) (by kernel_rfl) (by kernel_rfl) (by kernel_rfl) cx (dTn (cx.an 6)).2 rfl (nle rfl) (by kernel_rfl) rfl rfl rfl (fun g o X' hs hb hx=>by rw[hb 5,hb 11];exact hx)
 intro g d X W1 hD aC fr af
 simp only[exq 2 ((dTn (hD 2 lq)).2.1),exq 3 ((dTn (hD 2 lq)).2.2),exq 5 ((dTn (hD 7 lq)))] at aC
 simp only[ed 11 ((dTn (hD 2 lq)).1),ed 8 ((dTn (hD 3 lq))),ed 12 ((dTn (hD 4 lq))),ed 5 ((dTn (hD 6 lq)).1)] at af
 generalize iv (tg (tg (d 11) 0) 0)=px11_1,sA (tg (tg (d 11) 0) 5)=EA11_1,sC (tg (tg (d 11) 0) 5)=ec11_1,pb (d 5)=bv at aC af
 clear hD;subst af;clear g d X
 refine aa (wp_seq (sqr (sqp [.k 7 (vi 1)] ?_)))
 refine aa (wp_seq (wp_block ?_))
 refine aX (fun t_ mz az W=>∃x:Int,∃px:Int,∃nd:NoD,∃is:Bool,∃EA:Option Addr,∃ec:Nat,∃s:Nat,(1<=s/\s<=1000)/\is=(ao ps x).isSome/\nd=ndZ ps x/\(is=true->px=x)/\dE ps lv 1000 root=dE ps lv (1001-s) x/\mz=1000-s/\az=⟨(ovr (jv az) [(6,6,0,[.bool is,vi ((s:Int))]),(6,14,29,[])] t_).toArray,[]⟩/\St w C0 [eJ (J true) C0 [],eB bv 116 #[vi px,vi nd.lv,vi nd.right,.string nd.high,.bool nd.dead,.slice EA nd.es.length ec,vi ((nd.free:Int))],eO 104 3 (.slice EA nd.es.length ec) nd.es.length (nd.es.flatMap enC),eYs [] []] W) (1000-1) ?_ ?_
 exact⟨root,px11_1,(ndZ ps root),(ao ps root).isSome,EA11_1,ec11_1,1,⟨Nat.le_refl _,by decide⟩,rfl,rfl,fun h=>(aC.get 3 rfl).holds h,rfl,rfl,(by kernel_rfl),aC.pk [0,4,2,1]⟩
 rintro n3 a3 W3 ⟨x,px,nd,is,EA,ec,s,hs,his,hnz,hpx,hds,rfl,hj_,bG⟩
 refine ovz hj_ fun ga=>?_
 have hN:=Hz hok x
 rw[<-hnz] at hN
 have hN1:=hN.len
 refine wp_seq (wp_seq (sqr (sqp [.m 14 6,.m 15 14] ?_)))
 refine fo 15 [16,17,18,19] ?_ rfl (fun hq=>?_) ?_
 rotate_left
 refine sqp [.k 16 (.pointer (some ⟨bv,1,none⟩))] ?_
 refine al 1 bG ?_
 refine sql (vi lv) bG (fun cx=>ae rfl (by kernel_rfl) (cx.ou 3) ((Blk.ext (hRd _ cx.upd).b3 (Ext.refl _)).cell 0)) ?_
 refine sqp [.k 19 (.bool (decide (lv<nd.lv)))] ?_
 exact sqe
 refine dn ?_
 refine sqp [sPa 20 is (decide (lv<nd.lv)),.m 21 20] ?_
 refine fo 21 [22,23,24,25] ?_ rfl (fun hq=>?_) ?_
 rotate_left
 refine sqp [.k 22 (.pointer (some ⟨bv,5,none⟩))] ?_
 refine al 1 bG ?_
 refine sqp [.k 24 (vi ((nd.es.length:Int))),.k 25 (.bool (decide (0<(nd.es.length:Int))))] ?_
 exact sqe
 refine dn ?_
 refine sqp [sPa 26 (is&&(decide (lv<nd.lv))) (decide (0<(nd.es.length:Int))),.m 27 26] ?_
 refine sqw 27 [28,29] rfl (fun _=>sqp [.m 28 7,.k 29 (.bool (decide ((s:Int)<1000)))] sqe) ?_
 refine sqp [sPa 30 ((is&&(decide (lv<nd.lv)))&&(decide (0<(nd.es.length:Int)))) (decide ((s:Int)<1000))] ?_
 refine aa (wbs (fun j1=>?_) fun j1=>?_)
 have lF:=j1
 simp only[zB] at lF
 obtain⟨⟨⟨JI,OF⟩,OG⟩,OH⟩:=lF
 refine wp_skip (aa (wp_seq (wp_block ?_)))
 have hno_:ao ps x=some nd:=Er his hnz JI
 refine aj [0,0,2,6,14,30,63,127,255,255,511,2047] [[],[],[1],[2],[],[2],[],[],[],[],[1]] [[],[],[],[],[],[],[4,5],[],[],[],[6]] [[],[],[],[],[],[],[],[],[],[],[1]] [.c 34 (.iface tt (tv)),.k 35 (.pointer (some ⟨bv,5,none⟩)),.c 36 (.slice EA nd.es.length ec),.c 37 (.pointer (some ((ad EA).add (0*3)))),.c 38 (.pointer (some ((ad EA).add (0*3+2)))),.c 39 (vi ((nd.es.getD 0 en0).2.2)),.a 40,.a 33,.a 41,.c 42 (.bool ((ao ps ((nd.es.getD 0 en0).2.2)).isSome)),.n,.k 6 (.bool ((ao ps ((nd.es.getD 0 en0).2.2)).isSome))] (fun ix g d X=>match ix with|0|1|2|3|4|5=>True|6=>g 40= .tuple #[.agg #[vi (iv (tg (tg (d 40) 0) 0)),vi ((ndZ ps ((nd.es.getD 0 en0).2.2)).lv),vi ((ndZ ps ((nd.es.getD 0 en0).2.2)).right),.string ((ndZ ps ((nd.es.getD 0 en0).2.2)).high),.bool ((ndZ ps ((nd.es.getD 0 en0).2.2)).dead),.slice (sA (tg (tg (d 40) 0) 5)) ((ndZ ps ((nd.es.getD 0 en0).2.2)).es.length) (sC (tg (tg (d 40) 0) 5)),vi (((ndZ ps ((nd.es.getD 0 en0).2.2)).free:Int))],.bool ((ao ps ((nd.es.getD 0 en0).2.2)).isSome)]/\X 4=eO 104 3 (.slice (sA (tg (tg (d 40) 0) 5)) ((ndZ ps ((nd.es.getD 0 en0).2.2)).es.length) (sC (tg (tg (d 40) 0) 5))) ((ndZ ps ((nd.es.getD 0 en0).2.2)).es.length) ((ndZ ps ((nd.es.getD 0 en0).2.2)).es.flatMap enC)/\X 5=eFt ((ao ps ((nd.es.getD 0 en0).2.2)).isSome=true->(iv (tg (tg (d 40) 0) 0))=((nd.es.getD 0 en0).2.2))|7=>g 33= .tuple #[.agg #[vi (iv (tg (tg (d 40) 0) 0)),vi ((ndZ ps ((nd.es.getD 0 en0).2.2)).lv),vi ((ndZ ps ((nd.es.getD 0 en0).2.2)).right),.string ((ndZ ps ((nd.es.getD 0 en0).2.2)).high),.bool ((ndZ ps ((nd.es.getD 0 en0).2.2)).dead),.slice (sA (tg (tg (d 40) 0) 5)) ((ndZ ps ((nd.es.getD 0 en0).2.2)).es.length) (sC (tg (tg (d 40) 0) 5)),vi (((ndZ ps ((nd.es.getD 0 en0).2.2)).free:Int))],.bool ((ao ps ((nd.es.getD 0 en0).2.2)).isSome)]|8=>g 41= .agg #[vi (iv (tg (tg (d 40) 0) 0)),vi ((ndZ ps ((nd.es.getD 0 en0).2.2)).lv),vi ((ndZ ps ((nd.es.getD 0 en0).2.2)).right),.string ((ndZ ps ((nd.es.getD 0 en0).2.2)).high),.bool ((ndZ ps ((nd.es.getD 0 en0).2.2)).dead),.slice (sA (tg (tg (d 40) 0) 5)) ((ndZ ps ((nd.es.getD 0 en0).2.2)).es.length) (sC (tg (tg (d 40) 0) 5)),vi (((ndZ ps ((nd.es.getD 0 en0).2.2)).free:Int))]|9=>True|10=>X 6=eB bv 116 #[vi (iv (tg (tg (d 40) 0) 0)),vi ((ndZ ps ((nd.es.getD 0 en0).2.2)).lv),vi ((ndZ ps ((nd.es.getD 0 en0).2.2)).right),.string ((ndZ ps ((nd.es.getD 0 en0).2.2)).high),.bool ((ndZ ps ((nd.es.getD 0 en0).2.2)).dead),.slice (sA (tg (tg (d 40) 0) 5)) ((ndZ ps ((nd.es.getD 0 en0).2.2)).es.length) (sC (tg (tg (d 40) 0) 5)),vi (((ndZ ps ((nd.es.getD 0 en0).2.2)).free:Int))]|_=>True) [0,2,3,4,5,6] [0,2,3,4,5,6,7,8,9,10] [(6,11,1,7),(26,7,1,27),(0,0,7,7),(0,8,2,2)] bG ?_ ?_ ?_
 exact fun ix _ _ _ _ _ _ hs hb hx h=>match ix,h with
 |6,h=>by dsimp only;rw[<-hs 40 rfl,<-hb 40 rfl,<-hx 4 rfl,<-hx 5 rfl];exact h
 |7,h=>by dsimp only;rw[<-hs 33 rfl,<-hb 40 rfl];exact h
 |8,h=>by dsimp only;rw[<-hs 41 rfl,<-hb 40 rfl];exact h
 |10,h=>by dsimp only;rw[<-hb 40 rfl,<-hx 6 rfl];exact h
 |0,_|1,_|2,_|3,_|4,_|5,_|9,_|_+11,_=>trivial
 refine⟨?_,?_,?_,?_,?_,?_,?_,?_,?_,?_,trivial⟩
 exact xs4 rfl id fun cx=>ae rfl (by kernel_rfl) (cx.ou 1) ((Blk.ext (hRd _ cx.upd).b1 (Ext.refl _)).cell 0)
 exact xs4 rfl id fun cx=>ae rfl (by kernel_rfl) (cx.an 1) ((cx.bi 1 rfl).cell 5)
 exact xs4 rfl id fun cx=>aD (e:=104) (m:=0) (sz:=3) rfl (by kernel_rfl) (by kernel_rfl) (cx.an 2) (cx.co _) (by omega) (by omega) (At.of_ownN (cx.ri 2 rfl)) (be (sz:=3) aH (by decide) (by omega))
 exact xs4 rfl id fun cx=>db rfl (by kernel_rfl) (cx.an 3)
 exact xs4 rfl id fun cx=>ae rfl (by kernel_rfl) (cx.an 4) (At.eltc (f:=enC) (k:=2) aH (At.of_ownN (cx.ri 2 rfl)) (ck (by omega)) rfl)
 refine svA fun j d W X cx=>?_
 refine ax.call (av (args:=#[.iface tt (tv),vi ((nd.es.getD 0 en0).2.2)]) rfl cx.sees rfl (by kernel_rfl) (aK (cx.an 0) (cx.an 5))) ?_
 refine(yQ _ _ ps ((nd.es.getD 0 en0).2.2) _ (hRd _ cx.upd).pgs hok hoc).mono ?_
 rintro e W1 ⟨px4,EA4,ec4,rfl,aR⟩
 refine⟨_,rfl,dy [eO 104 3 (.slice EA4 (ndZ ps ((nd.es.getD 0 en0).2.2)).es.length ec4) (ndZ ps ((nd.es.getD 0 en0).2.2)).es.length ((ndZ ps ((nd.es.getD 0 en0).2.2)).es.flatMap enC),eFt ((ao ps ((nd.es.getD 0 en0).2.2)).isSome=true->px4=((nd.es.getD 0 en0).2.2))] rfl rfl aR (fun g o X' hs hb hv hN=>?_)⟩
 have aZ:=(hv 40 rfl).1;have aJ:=(hv 40 rfl).2
 exact⟨aZ.trans (by rw[aJ];rfl),(by rw[aJ];exact(List.cons.inj hN).1),(by rw[aJ];exact(List.cons.inj (List.cons.inj hN).2).1)⟩
 exact sv rfl rfl rfl rfl rfl _ (fun _ _ _ h=>h) (fun d o h=>by rw[h 40 (by decide)]) fun j d W X cx=>b7 rfl (dTn (cx.an 6)).1
 exact sv rfl rfl rfl rfl rfl _ (fun _ _ _ h=>h) (fun d o h=>by rw[h 40 (by decide)]) fun j d W X cx=>aG rfl (dTn (cx.an 7)) rfl
 exact xs4 rfl id fun cx=>aG rfl (dTn (cx.an 7)) rfl
 refine svA fun j d W X cx=>?_
 exact ar (n:=7) rfl (cx.ou 5) (dTn (cx.an 8)) (by kernel_rfl) (by kernel_rfl) (by kernel_rfl) cx (cx.init 1 _ rfl) rfl (nle rfl) (by kernel_rfl) rfl rfl rfl (fun g o X' hs hb hx=>by rw[hb 40];exact hx)
 intro g d X E5 hD gc fr af
 simp only[exq 4 ((dTn (hD 6 lq)).2.1),exq 5 ((dTn (hD 6 lq)).2.2),exq 6 ((dTn (hD 10 lq)))] at gc
 simp only[ed 40 ((dTn (hD 6 lq)).1),ed 33 ((dTn (hD 7 lq))),ed 41 ((dTn (hD 8 lq)))] at af
 generalize iv (tg (tg (d 40) 0) 0)=px40_22,sA (tg (tg (d 40) 0) 5)=EA40_22,sC (tg (tg (d 40) 0) 5)=ec40_22 at gc af
 clear hD;subst af;clear g d X
 refine aw (aa (sqr (sqp [.m 31 7,sI 32 ((s:Int)+1) (by omega),.m 7 32] ?_)))
 refine aa ?_
 have hft_:=(gc.get 4 rfl).holds
 refine⟨1000-((s+1)),by omega,?_⟩
 exact⟨(nd.es.getD 0 en0).2.2,px40_22,(ndZ ps (nd.es.getD 0 en0).2.2),(ao ps (nd.es.getD 0 en0).2.2).isSome,EA40_22,ec40_22,(s+1),by omega,rfl,rfl,hft_,CZ hds ⟨by omega,by omega⟩ hno_ (by omega) (by omega),rfl,(by kernel_rfl),gc.pk [0,5,3,2]⟩
 have lF:=j1
 simp only[zB] at lF
 refine wp_exit (am (am (bj (aa (wp_seq (wp_seq (sqr (sqp [.m 43 6,.k 44 (.bool (!(is))),.m 45 44] ?_))))))))
 refine fo 45 [46,47,48,49] ?_ rfl (fun hq=>?_) ?_
 rotate_left
 refine sqp [.k 46 (.pointer (some ⟨bv,1,none⟩))] ?_
 refine al 1 bG ?_
 refine sql (vi lv) bG (fun cx=>ae rfl (by kernel_rfl) (cx.ou 3) ((Blk.ext (hRd _ cx.upd).b3 (Ext.refl _)).cell 0)) ?_
 refine sqp [.k 49 (.bool (nd.lv != lv))] ?_
 exact sqe
 refine dn ?_
 refine sqp [sPo 50 (!(is)) (nd.lv != lv)] ?_
 refine aa (wbs (fun tq=>?_) fun tq=>?_)
 have pu:=tq
 simp only[zB] at pu
 refine wp_ret (ai ?_)
 refine bpr (.tuple #[]) (by simp[results,Try.results99,go_sem]) ?_
 exact⟨⟨_,rfl⟩,true,_,_,_,bG.pick [0,3] (by decide) rfl,YnZ.all (GN his hnz hds hs (fun e hh=>by have h_:=j1;rw[e,decide_eq_true hh.1,decide_eq_true (show 0<(nd.es.length:Int) by omega),decide_eq_true (show (s:Int)<1000 by omega)] at h_;cases h_) (fun e=>by have h_:=tq;rw[e] at h_;simpa using h_)).symm⟩
 have pu:=tq
 simp only[zB] at pu
 obtain⟨Cf,JJ⟩:=pu
 refine wp_skip (aa (wp_seq (sqr (sqp [.k 51 (vi 0)] ?_))))
 refine aa (wp_block ?_)
 have hno_:ao ps x=some nd:=Er his hnz Cf
 obtain rfl:x=px:=(hpx Cf).symm
 have hlv_:nd.lv=lv:=JJ
 have hrow_:=zY hds hs hno_ hlv_
 refine aX (fun t_ mz az W=>∃i:Nat,∃y:Int,∃n1:NoD,∃EB:Option Addr,∃eb:Nat,∃CC:List Nat,∃pre:List YnD,∃fp:List Nat,i<=1000/\ao ps y=some n1/\n1.lv=lv/\pre.map pgN++dS ps lv (1000-i) y=bH ps root lv/\pre.length=i/\mz=1000-i/\az=⟨(ovr (jv az) [(6,6,1,[]),(44,51,0,[vi ((i:Int))]),(0,52,21,[])] t_).toArray,[]⟩/\St w C0 [eJ (J true) CC pre,eB bv 116 #[vi y,vi n1.lv,vi n1.right,.string n1.high,.bool n1.dead,.slice EB n1.es.length eb,vi ((n1.free:Int))],eO 104 3 (.slice EB n1.es.length eb) n1.es.length (n1.es.flatMap enC),eYs pre fp] W) (1000-0) ?_ ?_
 exact⟨0,x,nd,EA,ec,C0,[],[],Nat.zero_le _,hno_,hlv_,hrow_,rfl,rfl,(by kernel_rfl),bG.pk [0,1,2,3]⟩
 rintro RJ a36 I5 ⟨i,y,n1,EB,eb,CC,pre,fp,hi,hn7,hlv,hrow,hpl,rfl,hj_,fg⟩
 refine ovz hj_ fun cD=>?_
 have hN:=e8 hok hn7
 have hN1:=hN.len
 refine wp_seq (sqr (sqp [.k 52 (.bool (decide ((i:Int)<1000)))] ?_))
 refine aa (wp_seq (wds (fun qo pn=>?_) fun qo pn=>?_))
 refine wp_skip (aa (wp_seq (wp_block (wp_seq (wp_seq ?_)))))
 have hi7:i<1000:=by omega
 have hyb_:=fg.blk 1 rfl
 have hpk_:=fg.pick [0,2,1,3] (by decide) rfl
 have hyy_:=hY CC pre (n1,y,EB,eb) _ hn7 hpk_.borrow (by omega)
 refine vj (lR rfl rfl rfl (b7 rfl rfl) rfl (lR rfl rfl rfl (aO (n:=7) rfl (by kernel_rfl) (by kernel_rfl) rfl hyb_ (nle rfl) rfl) rfl (xJ (args:=ynE (n1,y,EB,eb)) (R:=fun b B=>∃C',St _ (CC++(ynR (n1,y,EB,eb)).fp) [eJ (J b) C' (pre++[(n1,y,EB,eb)]),ynR (n1,y,EB,eb)] B) (fun b_=>[.func (.yield l) #[] #[],vp b1,vp b2,vp b3,undef,vp bv,cD 6,vi ((s:Int)),.tuple #[.agg #[vi px11_1,vi ((ndZ ps root).lv),vi ((ndZ ps root).right),.string ((ndZ ps root).high),.bool ((ndZ ps root).dead),.slice EA11_1 ((ndZ ps root).es.length) ec11_1,vi (((ndZ ps root).free:Int))],.bool ((ao ps root).isSome)],.iface tt (tv),vi root,.tuple #[.agg #[vi px11_1,vi ((ndZ ps root).lv),vi ((ndZ ps root).right),.string ((ndZ ps root).high),.bool ((ndZ ps root).dead),.slice EA11_1 ((ndZ ps root).es.length) ec11_1,vi (((ndZ ps root).free:Int))],.bool ((ao ps root).isSome)],.agg #[vi px11_1,vi ((ndZ ps root).lv),vi ((ndZ ps root).right),.string ((ndZ ps root).high),.bool ((ndZ ps root).dead),.slice EA11_1 ((ndZ ps root).es.length) ec11_1,vi (((ndZ ps root).free:Int))],.bool ((ao ps root).isSome),.bool is,.bool is,mb is (.pointer (some ⟨bv,1,none⟩)),mb is (vi nd.lv),mb is (vi lv),mb is (.bool (decide (lv<nd.lv))),.bool (is&&(decide (lv<nd.lv))),.bool (is&&(decide (lv<nd.lv))),mb (is&&(decide (lv<nd.lv))) (.pointer (some ⟨bv,5,none⟩)),mb (is&&(decide (lv<nd.lv))) (.slice EA nd.es.length ec),mb (is&&(decide (lv<nd.lv))) (vi ((nd.es.length:Int))),mb (is&&(decide (lv<nd.lv))) (.bool (decide (0<(nd.es.length:Int)))),.bool ((is&&(decide (lv<nd.lv)))&&(decide (0<(nd.es.length:Int)))),.bool ((is&&(decide (lv<nd.lv)))&&(decide (0<(nd.es.length:Int)))),mb ((is&&(decide (lv<nd.lv)))&&(decide (0<(nd.es.length:Int)))) (vi ((s:Int))),mb ((is&&(decide (lv<nd.lv)))&&(decide (0<(nd.es.length:Int)))) (.bool (decide ((s:Int)<1000))),.bool (((is&&(decide (lv<nd.lv)))&&(decide (0<(nd.es.length:Int))))&&(decide ((s:Int)<1000))),ga 31,ga 32,ga 33,ga 34,ga 35,ga 36,ga 37,ga 38,ga 39,ga 40,ga 41,ga 42,.bool is,.bool (!(is)),.bool (!(is)),mb (!(!(is))) (.pointer (some ⟨bv,1,none⟩)),mb (!(!(is))) (vi nd.lv),mb (!(!(is))) (vi lv),mb (!(!(is))) (.bool (nd.lv != lv)),.bool ((!(is))||(nd.lv != lv)),vi ((i:Int)),.bool (decide ((i:Int)<1000)),.func (.yield l) #[] #[],.agg #[vi y,vi n1.lv,vi n1.right,.string n1.high,.bool n1.dead,.slice EB n1.es.length eb,vi ((n1.free:Int))],.bool b_,cD 56,cD 57,cD 58,cD 59,cD 60,cD 61,cD 62,cD 63,cD 64,cD 65,cD 66,cD 67,cD 68,cD 69,cD 70,cD 71,cD 72]) rfl rfl rfl (fun r hr=>Bp rfl rfl rfl (br rfl) hr) hyy_ (fun _=>rfl) fun b_ wR ⟨C2,hJ2⟩ tt_ htt_=>?_)))
 have htt2_:tt_=[.func (.yield l) #[] #[],vp b1,vp b2,vp b3,undef,vp bv,cD 6,vi ((s:Int)),.tuple #[.agg #[vi px11_1,vi ((ndZ ps root).lv),vi ((ndZ ps root).right),.string ((ndZ ps root).high),.bool ((ndZ ps root).dead),.slice EA11_1 ((ndZ ps root).es.length) ec11_1,vi (((ndZ ps root).free:Int))],.bool ((ao ps root).isSome)],.iface tt (tv),vi root,.tuple #[.agg #[vi px11_1,vi ((ndZ ps root).lv),vi ((ndZ ps root).right),.string ((ndZ ps root).high),.bool ((ndZ ps root).dead),.slice EA11_1 ((ndZ ps root).es.length) ec11_1,vi (((ndZ ps root).free:Int))],.bool ((ao ps root).isSome)],.agg #[vi px11_1,vi ((ndZ ps root).lv),vi ((ndZ ps root).right),.string ((ndZ ps root).high),.bool ((ndZ ps root).dead),.slice EA11_1 ((ndZ ps root).es.length) ec11_1,vi (((ndZ ps root).free:Int))],.bool ((ao ps root).isSome),.bool is,.bool is,mb is (.pointer (some ⟨bv,1,none⟩)),mb is (vi nd.lv),mb is (vi lv),mb is (.bool (decide (lv<nd.lv))),.bool (is&&(decide (lv<nd.lv))),.bool (is&&(decide (lv<nd.lv))),mb (is&&(decide (lv<nd.lv))) (.pointer (some ⟨bv,5,none⟩)),mb (is&&(decide (lv<nd.lv))) (.slice EA nd.es.length ec),mb (is&&(decide (lv<nd.lv))) (vi ((nd.es.length:Int))),mb (is&&(decide (lv<nd.lv))) (.bool (decide (0<(nd.es.length:Int)))),.bool ((is&&(decide (lv<nd.lv)))&&(decide (0<(nd.es.length:Int)))),.bool ((is&&(decide (lv<nd.lv)))&&(decide (0<(nd.es.length:Int)))),mb ((is&&(decide (lv<nd.lv)))&&(decide (0<(nd.es.length:Int)))) (vi ((s:Int))),mb ((is&&(decide (lv<nd.lv)))&&(decide (0<(nd.es.length:Int)))) (.bool (decide ((s:Int)<1000))),.bool (((is&&(decide (lv<nd.lv)))&&(decide (0<(nd.es.length:Int))))&&(decide ((s:Int)<1000))),ga 31,ga 32,ga 33,ga 34,ga 35,ga 36,ga 37,ga 38,ga 39,ga 40,ga 41,ga 42,.bool is,.bool (!(is)),.bool (!(is)),mb (!(!(is))) (.pointer (some ⟨bv,1,none⟩)),mb (!(!(is))) (vi nd.lv),mb (!(!(is))) (vi lv),mb (!(!(is))) (.bool (nd.lv != lv)),.bool ((!(is))||(nd.lv != lv)),vi ((i:Int)),.bool (decide ((i:Int)<1000)),.func (.yield l) #[] #[],.agg #[vi y,vi n1.lv,vi n1.right,.string n1.high,.bool n1.dead,.slice EB n1.es.length eb,vi ((n1.free:Int))],.bool b_,cD 56,cD 57,cD 58,cD 59,cD 60,cD 61,cD 62,cD 63,cD 64,cD 65,cD 66,cD 67,cD 68,cD 69,cD 70,cD 71,cD 72]:=htt_
 clear htt_;subst htt2_
 have ey:St w C0 [eJ (J b_) C2 (pre++[(n1,y,EB,eb)]),eO 104 3 (.slice EB n1.es.length eb) n1.es.length (n1.es.flatMap enC),eB bv 116 #[vi y,vi n1.lv,vi n1.right,.string n1.high,.bool n1.dead,.slice EB n1.es.length eb,vi ((n1.free:Int))],eYs pre fp] wR:=hpk_.back hJ2
 refine lR rfl rfl rfl (yp rfl rfl rfl) rfl ?_
 unfold wpOpsIn
 refine aa ?_
 rcases Bool.eq_false_or_eq_true (b_) with iq|iq
 ·subst iq
  refine wcf rfl (wp_skip (aa (wp_seq (aj [0,0,2,7,15,31,31,63,255] [[],[],[2],[],[],[],[],[2]] [[],[],[],[4,5],[],[],[],[6]] [[],[],[],[],[],[],[],[2]] [.c 58 (.iface tt (tv)),.k 59 (.pointer (some ⟨bv,2,none⟩)),.c 60 (vi n1.right),.a 61,.a 57,.a 62,.c 63 (.bool ((ao ps n1.right).isSome)),.n,.k 6 (.bool ((ao ps n1.right).isSome))] (fun ix g d X=>match ix with|0|1|2=>True|3=>g 61= .tuple #[.agg #[vi (iv (tg (tg (d 61) 0) 0)),vi ((ndZ ps n1.right).lv),vi ((ndZ ps n1.right).right),.string ((ndZ ps n1.right).high),.bool ((ndZ ps n1.right).dead),.slice (sA (tg (tg (d 61) 0) 5)) ((ndZ ps n1.right).es.length) (sC (tg (tg (d 61) 0) 5)),vi (((ndZ ps n1.right).free:Int))],.bool ((ao ps n1.right).isSome)]/\X 4=eO 104 3 (.slice (sA (tg (tg (d 61) 0) 5)) ((ndZ ps n1.right).es.length) (sC (tg (tg (d 61) 0) 5))) ((ndZ ps n1.right).es.length) ((ndZ ps n1.right).es.flatMap enC)/\X 5=eFt ((ao ps n1.right).isSome=true->(iv (tg (tg (d 61) 0) 0))=n1.right)|4=>g 57= .tuple #[.agg #[vi (iv (tg (tg (d 61) 0) 0)),vi ((ndZ ps n1.right).lv),vi ((ndZ ps n1.right).right),.string ((ndZ ps n1.right).high),.bool ((ndZ ps n1.right).dead),.slice (sA (tg (tg (d 61) 0) 5)) ((ndZ ps n1.right).es.length) (sC (tg (tg (d 61) 0) 5)),vi (((ndZ ps n1.right).free:Int))],.bool ((ao ps n1.right).isSome)]|5=>g 62= .agg #[vi (iv (tg (tg (d 61) 0) 0)),vi ((ndZ ps n1.right).lv),vi ((ndZ ps n1.right).right),.string ((ndZ ps n1.right).high),.bool ((ndZ ps n1.right).dead),.slice (sA (tg (tg (d 61) 0) 5)) ((ndZ ps n1.right).es.length) (sC (tg (tg (d 61) 0) 5)),vi (((ndZ ps n1.right).free:Int))]|6=>True|7=>X 6=eB bv 116 #[vi (iv (tg (tg (d 61) 0) 0)),vi ((ndZ ps n1.right).lv),vi ((ndZ ps n1.right).right),.string ((ndZ ps n1.right).high),.bool ((ndZ ps n1.right).dead),.slice (sA (tg (tg (d 61) 0) 5)) ((ndZ ps n1.right).es.length) (sC (tg (tg (d 61) 0) 5)),vi (((ndZ ps n1.right).free:Int))]|_=>True) [0,1,3,4,5,6] [0,2,3,4,5,6,7] [(6,8,1,7),(50,4,1,51),(0,0,4,4),(0,5,2,2)] ey ?_ ?_ ?_))))
  exact fun ix _ _ _ _ _ _ hs hb hx h=>match ix,h with
  |3,h=>by dsimp only;rw[<-hs 61 rfl,<-hb 61 rfl,<-hx 4 rfl,<-hx 5 rfl];exact h
  |4,h=>by dsimp only;rw[<-hs 57 rfl,<-hb 61 rfl];exact h
  |5,h=>by dsimp only;rw[<-hs 62 rfl,<-hb 61 rfl];exact h
  |7,h=>by dsimp only;rw[<-hb 61 rfl,<-hx 6 rfl];exact h
  |0,_|1,_|2,_|6,_|_+8,_=>trivial
  refine⟨?_,?_,?_,?_,?_,?_,?_,trivial⟩
  exact xs4 rfl id fun cx=>ae rfl (by kernel_rfl) (cx.ou 1) ((Blk.ext (hRd _ cx.upd).b1 (Ext.refl _)).cell 0)
  exact xs4 rfl id fun cx=>ae rfl (by kernel_rfl) (cx.an 1) ((cx.bi 2 rfl).cell 2)
  refine svA fun j d W X cx=>?_
  refine ax.call (av (args:=#[.iface tt (tv),vi n1.right]) rfl cx.sees rfl (by kernel_rfl) (aK (cx.an 0) (cx.an 2))) ?_
  refine(yQ _ _ ps n1.right _ (hRd _ cx.upd).pgs hok hoc).mono ?_
  rintro e W1 ⟨px4,EA4,ec4,rfl,aR⟩
  refine⟨_,rfl,dy [eO 104 3 (.slice EA4 (ndZ ps n1.right).es.length ec4) (ndZ ps n1.right).es.length ((ndZ ps n1.right).es.flatMap enC),eFt ((ao ps n1.right).isSome=true->px4=n1.right)] rfl rfl aR (fun g o X' hs hb hv hN=>?_)⟩
  have aZ:=(hv 61 rfl).1;have aJ:=(hv 61 rfl).2
  exact⟨aZ.trans (by rw[aJ];rfl),(by rw[aJ];exact(List.cons.inj hN).1),(by rw[aJ];exact(List.cons.inj (List.cons.inj hN).2).1)⟩
  exact sv rfl rfl rfl rfl rfl _ (fun _ _ _ h=>h) (fun d o h=>by rw[h 61 (by decide)]) fun j d W X cx=>b7 rfl (dTn (cx.an 3)).1
  exact sv rfl rfl rfl rfl rfl _ (fun _ _ _ h=>h) (fun d o h=>by rw[h 61 (by decide)]) fun j d W X cx=>aG rfl (dTn (cx.an 4)) rfl
  exact xs4 rfl id fun cx=>aG rfl (dTn (cx.an 4)) rfl
  refine svA fun j d W X cx=>?_
  exact ar (n:=7) rfl (cx.ou 5) (dTn (cx.an 5)) (by kernel_rfl) (by kernel_rfl) (by kernel_rfl) cx (cx.init 2 _ rfl) rfl (nle rfl) (by kernel_rfl) rfl rfl rfl (fun g o X' hs hb hx=>by rw[hb 61];exact hx)
  intro g d X Ma hD fe fr af
  simp only[exq 4 ((dTn (hD 3 lq)).2.1),exq 5 ((dTn (hD 3 lq)).2.2),exq 6 ((dTn (hD 7 lq)))] at fe
  simp only[ed 61 ((dTn (hD 3 lq)).1),ed 57 ((dTn (hD 4 lq))),ed 62 ((dTn (hD 5 lq)))] at af
  generalize iv (tg (tg (d 61) 0) 0)=px61_41,sA (tg (tg (d 61) 0) 5)=EA61_41,sC (tg (tg (d 61) 0) 5)=ec61_41 at fe af
  clear hD;subst af;clear g d X
  refine aa (wp_seq (sqr (sqp [.m 64 6,.k 65 (.bool (!((ao ps n1.right).isSome))),.m 66 65] ?_)))
  refine fo 66 [67,68,69,70] ?_ rfl (fun hq=>?_) ?_
  rotate_left
  refine sqp [.k 67 (.pointer (some ⟨bv,1,none⟩))] ?_
  refine al 5 fe ?_
  refine sql (vi lv) fe (fun cx=>ae rfl (by kernel_rfl) (cx.ou 3) ((Blk.ext (hRd _ cx.upd).b3 (Ext.refl _)).cell 0)) ?_
  refine sqp [.k 70 (.bool (((ndZ ps n1.right).lv) != lv))] ?_
  exact sqe
  refine dn ?_
  refine sqp [sPo 71 (!((ao ps n1.right).isSome)) (((ndZ ps n1.right).lv) != lv)] ?_
  refine aa (wbs (fun tc=>?_) fun tc=>?_)
  have pr:=tc
  simp only[zB] at pr
  refine wp_ret (aB (ai (ai (aB ?_))))
  refine bpr (.tuple #[]) (by simp[results,Try.results99,go_sem]) ?_
  have hy51:=St.yn1 (y:=(n1,y,EB,eb)) (fe.pick [2,1,0,3,4,5] (by decide) rfl)
  exact⟨⟨_,rfl⟩,true,_,_,_,hy51.pick [1,0] (by decide) rfl,YnZ.all (Do hrow hn7 hlv hi7 (fun e=>by have h_:=tc;rw[e] at h_;simpa using h_))⟩
  have pr:=tc
  simp only[zB] at pr
  obtain⟨Cg,JK⟩:=pr
  refine wp_skip (aw (aa (sqr (sqp [sI 72 ((i:Int)+1) (by omega),.m 51 72] ?_))))
  refine aa ?_
  have hft_:=(fe.get 4 rfl).holds Cg
  obtain⟨n2,hn2⟩:=Option.isSome_iff_exists.1 Cg
  have hz2:ndZ ps n1.right=n2:=by rw[ndZ,hn2];rfl
  rw[hft_,hz2] at fe
  have hlq_:n2.lv=lv:=by rw[<-hz2];exact JK
  have hy54:=St.yn1 (y:=(n1,y,EB,eb)) (fe.pick [2,1,0,3,4,5] (by decide) rfl)
  refine⟨1000-((i+1)),by omega,?_⟩
  exact⟨(i+1),n1.right,n2,EA61_41,ec61_41,C2,(pre++[(n1,y,EB,eb)]),(fp++(ynR (n1,y,EB,eb)).fp),by omega,hn2,hlq_,vA hrow hn7 hlv hi7,by rw[List.length_append,hpl];rfl,rfl,(by kernel_rfl),hy54.pk [1,4,2,0]⟩
 subst iq
 have hy55:=St.yn1 (y:=(n1,y,EB,eb)) (ey.pick [3,1,0,2] (by decide) rfl)
 refine wct rfl (wp_ret (ai (aB (ai (ai (aB ?_))))))
 refine bpr (.tuple #[]) (by simp[results,Try.results99,go_sem]) ?_
 exact⟨⟨_,rfl⟩,false,_,_,_,hy55.pick [1,0] (by decide) rfl,YnZ.some (vA (EA:=EB) (ec:=eb) hrow hn7 hlv hi7)⟩
 refine wp_exit (am (am (bj ?_)))
 refine bpe (.tuple #[]) (by simp[results,Try.results99,go_sem]) ?_
 exact⟨⟨_,rfl⟩,true,_,_,_,fg.pick [0,3] (by decide) rfl,YnZ.all (GP hrow (by omega))⟩
theorem jL(b1 b2 b3:Nat)(tt:TypeId)(tv:Value)(root lv:Int){ps:List PgS}(hok:OkS ps)(hoc:OkC ps):
  zg Try.prog 99 #[.pointer (some ⟨b1,0,none⟩),.pointer (some ⟨b2,0,none⟩),.pointer (some ⟨b3,0,none⟩)] ynE ynR (fun y=>ao ps y.2.1=some y.1) 1000 (YnZ (bH ps root lv)) (RdR b1 b2 b3 tt tv root lv ps):=fun l J W C0 hRd hloc hC0 hJ0 hY=>
 callsIn_wide.2 (Dl l b1 b2 b3 tt tv root lv ps J C0 W hRd hok hoc hloc hC0 hJ0 hY)
theorem RdR.keep{b1 b2 b3:Nat}{tt:TypeId}{tv:Value}{root lv:Int}{ps:List PgS}{w0 W A:World}{L:List Ent}(h:St w0 [] (eB b1 113 #[.iface tt tv]::eB b2 3 #[.int .i64 root]::eB b3 3 #[.int .i64 lv]::L) W)(hS:PgsOk w0 tt tv ps)(hA:Upd (fps L) W A):RdR b1 b2 b3 tt tv root lv ps A:=by
 have gB:=List.pairwise_cons.1 h.apart
 have gN:=List.pairwise_cons.1 gB.2
 have JL:=List.pairwise_cons.1 gN.2
 have key:∀(b:Nat) (t:TypeId) (cs:Array Value),eB b t cs∈(eB b1 113 #[.iface tt tv]::eB b2 3 #[.int .i64 root]::eB b3 3 #[.int .i64 lv]::L)->(∀e∈L,(eB b t cs).apart e)->Blk A b t cs:=fun b t cs hm hap=>by
  have ho:=h.ok _ hm
  refine ho.loc W A (fun k hk=>hA.block k (ho.own k hk).2 fun hkf=>?_) ho.holds
  obtain⟨e,he,hke⟩:=cS.1 hkf
  exact hap e he k hk hke
 refine⟨key _ _ _ (by simp) fun e he=>gB.1 e (by simp[he]),key _ _ _ (by simp) fun e he=>gN.1 e (by simp[he]),key _ _ _ (by simp) fun e he=>JL.1 e he,hS.ext (h.upd.join hA fun i hi=>?_).to_ext⟩
 obtain⟨e,he,hke⟩:=cS.1 hi
 have:=((h.ok e (by simp[he])).own i hke).1
 exact this
end
section
open Go.RowKit
theorem fU(x:YnD):(ynC x).length=7:=rfl
theorem Fv(L:List YnD)(x:YnD):L.flatMap ynC++ynC x=(L++[x]).flatMap ynC:=by simp
theorem Try.infoNd:(Try.prog.info? 116).map (fun i=>(i.zero,i.size,i.bytes))=some (some (.agg #[.int .i64 0,.int .i64 0,.int .i64 0,.string ByteArray.empty,.bool false,.slice none 0 0,.int .i64 0]),7,80):=by kernel_rfl
def pcp(i:Nat):Value->Nat
 | .func _ _ cs=>pb (cs.getD i undef)
 |_=>0
def Gp(tt:TypeId)(tv:Value)(root lv:Int)(w:World)(e:Ending)(w':World):Prop:=∃b1 b2 b3,e= .returned (.func (.func 99) #[] #[.pointer (some ⟨b1,0,none⟩),.pointer (some ⟨b2,0,none⟩),.pointer (some ⟨b3,0,none⟩)])/\St w [] [eB b1 113 #[.iface tt tv],eB b2 3 #[.int .i64 root],eB b3 3 #[.int .i64 lv]] w'
theorem jG(tt:TypeId)(tv:Value)(root lv:Int)(w:World):
  Calls Try.prog 72 #[.iface tt (tv),.int .i64 root,.int .i64 lv] w (Gp tt tv root lv w):=by
 go_enter Try.func72,Try.ntmps72
 have aq:=St.start w
 refine wp_seq (sqr ?_)
 refine bX #[.iface tt (tv)] aq fun dI W1 aC=>?_
 refine bX #[vi root] aC fun tu W2 aV=>?_
 refine bX #[vi lv] aV fun Ed W3 bG=>?_
 refine sqp [.k 6 (Go.Value.nilFunc)] ?_
 refine aa (wp_seq (sqr ?_))
 refine sqv (.func (.func 99) #[] #[vp dI,vp tu,vp Ed]) bG (by
   exact sv0 rfl rfl rfl rfl rfl (fun _ _ _ h=>h) fun a b W X cx=>by
    have Cd:a (.tmp 3)=vp dI:=(cx.ou 3)
    have OI:a (.tmp 4)=vp tu:=(cx.ou 4)
    have JG:a (.tmp 5)=vp Ed:=(cx.ou 5)
    simp[go_sem,Instr.makeFunc,Cd,OI,JG]) fun W5 bO=>?_
 refine sqp [.m 6 7] ?_
 refine aa (wp_ret ?_)
 refine bpr (.func (.func 99) #[] #[vp dI,vp tu,vp Ed]) (ak Try.results72 rpt) ?_
 exact⟨_,_,_,rfl,bO.pick [0,1,2] (by decide) rfl⟩
end
section
open Go.RowKit
def eCL(SA:Option Addr)(L:List (Int×NoD))(fp:List Nat):Ent:=⟨fp,fun W=>∃xs:List YnD,xs.map pgN=L/\(∀ad,SA=some ad->ad.block∈fp)/\At W SA (xs.flatMap ynC)/\∀y∈xs,(∀ad,y.2.2.1=some ad->ad.block∈fp)/\At W y.2.2.1 (y.1.es.flatMap enC)⟩
theorem ws{e:Ent}{SA:Option Addr}{L:List (Int×NoD)}{fp:List Nat}(h:e=eCL SA L fp):e=eCL SA L e.fp:=by subst h;rfl
theorem yJ(SA:Option Addr)(L:List (Int×NoD))(fp:List Nat):(eCL SA L fp).loc:=fun W W' hk h=>by
 obtain⟨xs,h1,h2,h3,h4⟩:=h
 exact⟨xs,h1,h2,dZ h3 fun ad e _=>hk _ (h2 ad e),fun y hy=>⟨(h4 y hy).1,dZ (h4 y hy).2 fun ad e _=>hk _ ((h4 y hy).1 ad e)⟩⟩
def vF(L:List (Int×NoD))(w:World)(e:Ending)(w':World):Prop:=∃SA sc fp,e= .returned (.slice SA L.length sc)/\St w [] [eCL SA L fp] w'
theorem FU{w W:World}{SA:Option Addr}{sc n:Nat}{L:List (Int×NoD)}{xs:List YnD}{E:Ent}(hz:YnZ L true xs E)(h:St w [] [eO 116 7 (.slice SA n sc) n (xs.flatMap ynC),E] W)(hn:n=xs.length):vF L w (.returned (.slice SA n sc)) W:=by
 obtain⟨hE,hL,_⟩:=hz
 have hL:=hL rfl
 subst hn hL
 have h1:=h.ok (eO 116 7 (.slice SA xs.length sc) xs.length (xs.flatMap ynC)) (by simp)
 have h2:=h.ok E (by simp)
 have hO:W.ownsRow 0 116 7 (.slice SA xs.length sc) xs.length (xs.flatMap ynC):=h1.holds
 have hR:(eYs xs E.fp).holds W:=by rw[<-hE];exact h2.holds
 refine⟨SA,sc,(Value.ownBlock (.slice SA xs.length sc)).toList++E.fp,by rw[List.length_map],h.upd,fun x hx=>?_,List.pairwise_singleton _ _⟩
 rw[List.mem_singleton] at hx
 subst hx
 refine⟨⟨xs,rfl,fun ad e=>List.mem_append_left _ (yj hO ad e),At.of_ownN hO,fun y hy=>⟨fun ad e=>List.mem_append_right _ ((hR y hy).1 ad e),(hR y hy).2⟩⟩,yJ _ _ _,fun k hk=>?_⟩
 rcases List.mem_append.1 hk with hk|hk
 exact h1.own k hk
 exact h2.own k hk
theorem HW(b1 b2 b3:Nat)(L:List (Int×NoD))(w:World)(Px:YnD->Prop)(Rd:World->Prop)(hseq:zg Try.prog 99 #[.pointer (some ⟨b1,0,none⟩),.pointer (some ⟨b2,0,none⟩),.pointer (some ⟨b3,0,none⟩)] ynE ynR Px 1000 (YnZ L) Rd)(hRd:∀A,Ext w A->Rd A):
  Calls Try.prog 98 #[.slice none 0 0,.func (.func 99) #[] #[.pointer (some ⟨b1,0,none⟩),.pointer (some ⟨b2,0,none⟩),.pointer (some ⟨b3,0,none⟩)]] w (vF L w):=by
 refine(callsIn_wide (n:=3)).1 (callsIn_of_wp_marks Try.func98 rfl trivial (wpIn_wide.2 ?_) rfl)
 simp only[Try.ntmps98,List.size_toArray,List.length_cons,List.length_nil,Nat.reduceAdd,Nat.reduceSub,Array.replicate_succ,Array.replicate_zero,List.push_toArray,List.append_toArray,List.nil_append,List.cons_append]
 have aq:=St.start w
 refine wp_seq (aj [0,0] [] [[0]] [] [.a 2,.k 4 (.slice none 0 0)] (fun ix d b X=>match ix with|0=>d 2=vp (pb (b 2))/\X 0=eB (pb (b 2)) 146 #[.slice none 0 0]|_=>True) [0] [0] [(2,0,1,3),(1,1,1,2)] aq ?_ ?_ ?_)
 exact fun ix _ _ _ _ _ _ hs hb hx h=>match ix,h with
 |0,h=>by dsimp only;rw[<-hs 2 rfl,<-hb 2 rfl,<-hx 0 rfl];exact h
 |_+1,_=>trivial
 refine⟨?_,trivial⟩
 refine svA fun f b W X cx=>?_
 exact wy (cs:=#[.slice none 0 0]) rfl (cx.ou 0) rfl rfl rfl (fun _ _ _ _ _=> .intro)
 intro d b X W1 hD aC fr af
 simp only[exq 0 ((dTn (hD 0 lq)).2)] at aC
 simp only[ed 2 ((dTn (hD 0 lq)).1)] at af
 generalize pb (b 2)=bV at aC af
 clear hD;subst af;clear d b X
 refine aa (wp_seq (wp_seq (lK [0] [.k 6 (.func (.func 99) #[] #[vp b1,vp b2,vp b3])] [(6,0,1,7)] aC fun W2 aV=>?_)))
 refine aa (wp_block ?_)
 have hn3:=bM aV 116 7
 simp only[List.cons_append,List.nil_append] at hn3
 have JM:=hn3.pick [0,1] (by decide) rfl
 refine j3 (α:=YnD) JM rfl (enters_of Try.func99 (by kernel_rfl) rfl) (encs:=ynE) (Ex:=ynR) (N:=1000) (Z:=YnZ L) (hseq) (fun A hA=>hRd A (Upd.to_ext (JM.upd.join hA fun i hi=>(JM.fps_own hi).1))) (fun _=>rfl) (fun bb pre L=>cond bb (∃SA:Option Addr,∃n:Nat,∃sc:Nat,n=pre.length/\L=[eB bV 146 #[.slice SA n sc],eO 116 7 (.slice SA n sc) n (pre.flatMap ynC)]) (False)) ⟨none,0,0,rfl,rfl⟩ (fun xx a_ E_=>∃BV:Nat,a_=⟨([.slice none 0 0,.func (.func 99) #[] #[vp b1,vp b2,vp b3],vp bV,undef,.slice none 0 0,vp BV,.func (.func 99) #[] #[vp b1,vp b2,vp b3],.agg #[vi xx.2.1,vi xx.1.lv,vi xx.1.right,.string xx.1.high,.bool xx.1.dead,.slice xx.2.2.1 xx.1.es.length xx.2.2.2,vi ((xx.1.free:Int))],undef,undef,undef,undef,undef]).toArray,[]⟩/\E_=eB BV 116 #[vi xx.2.1,vi xx.1.lv,vi xx.1.right,.string xx.1.high,.bool xx.1.dead,.slice xx.2.2.1 xx.1.es.length xx.2.2.2,vi ((xx.1.free:Int))]) (fun xx=>[.slice none 0 0,.func (.func 99) #[] #[vp b1,vp b2,vp b3],vp bV,undef,.slice none 0 0,undef,.func (.func 99) #[] #[vp b1,vp b2,vp b3],.agg #[vi xx.2.1,vi xx.1.lv,vi xx.1.right,.string xx.1.high,.bool xx.1.dead,.slice xx.2.2.1 xx.1.es.length xx.2.2.2,vi ((xx.1.free:Int))],undef,undef,undef,undef,undef]) (fun xx=>by kernel_rfl) ?_ ?_ ?_ ?_
 intro rl xx W4 K hK
 have bQ:=St.start W4
 refine bm [0,1] [[],[0]] [[0],[1]] [[],[0]] [.a 5,.n] (fun ix d b X=>match ix with|0=>d 5=vp (pb (b 5))/\X 0=eB (pb (b 5)) 116 #[vi 0,vi 0,vi 0,.string ByteArray.empty,.bool false,.slice none 0 0,vi 0]|1=>X 1=eB (pb (b 5)) 116 #[vi xx.2.1,vi xx.1.lv,vi xx.1.right,.string xx.1.high,.bool xx.1.dead,.slice xx.2.2.1 xx.1.es.length xx.2.2.2,vi ((xx.1.free:Int))]|_=>True) [1] [0,1] [(5,0,1,6)] bQ ?_ ?_ ?_
 exact fun ix _ _ _ _ _ _ hs hb hx h=>match ix,h with
 |0,h=>by dsimp only;rw[<-hs 5 rfl,<-hb 5 rfl,<-hx 0 rfl];exact h
 |1,h=>by dsimp only;rw[<-hb 5 rfl,<-hx 1 rfl];exact h
 |_+2,_=>trivial
 refine⟨?_,?_,trivial⟩
 refine svA fun f b W X cx=>?_
 exact bx (cs:=#[vi 0,vi 0,vi 0,.string ByteArray.empty,.bool false,.slice none 0 0,vi 0]) rfl (by kernel_rfl) rfl rfl (fun _ _ _ _ _=> .intro)
 refine svA fun f b W X cx=>?_
 exact ar (n:=7) rfl (dTn (cx.an 0)).1 (cx.ou 7) (by kernel_rfl) (by kernel_rfl) (by kernel_rfl) cx (dTn (cx.an 0)).2 rfl (nle rfl) (by kernel_rfl) rfl rfl rfl (fun d g X' hs hb hx=>by rw[hb 5];exact hx)
 intro d b X W6 hD ci fr af
 simp only[exq 1 ((dTn (hD 1 lq)))] at ci
 simp only[ed 5 ((dTn (hD 0 lq)).1)] at af
 generalize pb (b 5)=QD at ci af
 clear hD;subst af;clear d b X
 exact hK _ _ _ ⟨_,rfl,rfl⟩ (ci.pick [0] (by decide) rfl)
 rintro rl pre xx W7 L7 a7 E7 ⟨SA,n,sc,hn,rfl⟩ hlen7 hPx7 ⟨BV,rfl,rfl⟩ E6
 have bF:St W7 (fps ([eB bV 146 #[.slice SA n sc],eO 116 7 (.slice SA n sc) n (pre.flatMap ynC)]++[eO 104 3 (.slice xx.2.2.1 xx.1.es.length xx.2.2.2) xx.1.es.length (xx.1.es.flatMap enC),eB BV 116 #[vi xx.2.1,vi xx.1.lv,vi xx.1.right,.string xx.1.high,.bool xx.1.dead,.slice xx.2.2.1 xx.1.es.length xx.2.2.2,vi ((xx.1.free:Int))]])) [eB bV 146 #[.slice SA n sc],eO 116 7 (.slice SA n sc) n (pre.flatMap ynC),eO 104 3 (.slice xx.2.2.1 xx.1.es.length xx.2.2.2) xx.1.es.length (xx.1.es.flatMap enC),eB BV 116 #[vi xx.2.1,vi xx.1.lv,vi xx.1.right,.string xx.1.high,.bool xx.1.dead,.slice xx.2.2.1 xx.1.es.length xx.2.2.2,vi ((xx.1.free:Int))]] W7:=E6
 clear E6
 refine wpIn_block (bm [0,0,2,7,15] [[0],[3],[],[4,1],[0]] [[],[],[4],[5],[6]] [[],[],[],[1],[0]] [.c 8 (.slice SA n sc),.c 9 (.agg #[vi xx.2.1,vi xx.1.lv,vi xx.1.right,.string xx.1.high,.bool xx.1.dead,.slice xx.2.2.1 xx.1.es.length xx.2.2.2,vi ((xx.1.free:Int))]),.a 10,.a 11,.n] (fun ix d b X=>match ix with|0|1=>True|2=>d 10= .slice ((some ⟨(pb' (b 10)),0,none⟩)) 1 1/\X 4=eO 116 7 (.slice ((some ⟨(pb' (b 10)),0,none⟩)) 1 1) 1 (ynC xx)|3=>d 11= .slice (sA (b 11)) (n+1) (sC (b 11))/\X 5=eO 116 7 (.slice (sA (b 11)) (n+1) (sC (b 11))) (n+1) ((pre++[xx]).flatMap ynC)|4=>X 6=eB bV 146 #[.slice (sA (b 11)) (n+1) (sC (b 11))]|_=>True) [2,3,4,5,6] [0,1,2,3,4] [(8,0,4,12)] bF ?_ ?_ ?_)
 exact fun ix _ _ _ _ _ _ hs hb hx h=>match ix,h with
 |2,h=>by dsimp only;rw[<-hs 10 rfl,<-hb 10 rfl,<-hx 4 rfl];exact h
 |3,h=>by dsimp only;rw[<-hs 11 rfl,<-hb 11 rfl,<-hx 5 rfl];exact h
 |4,h=>by dsimp only;rw[<-hb 11 rfl,<-hx 6 rfl];exact h
 |0,_|1,_|_+5,_=>trivial
 refine⟨?_,?_,?_,?_,?_,trivial⟩
 exact xs4 rfl id fun cx=>ae rfl (by kernel_rfl) (cx.ou 2) ((cx.bi 0 rfl).cell 0)
 exact xs4 rfl id fun cx=>aO (n:=7) rfl (by kernel_rfl) (by kernel_rfl) (cx.ou 5) (cx.bi 3 rfl) (nle rfl) rfl
 refine svA fun f b W X cx=>?_
 have rZ:f (.tmp 9)= .agg #[vi xx.2.1,vi xx.1.lv,vi xx.1.right,.string xx.1.high,.bool xx.1.dead,.slice xx.2.2.1 xx.1.es.length xx.2.2.2,vi ((xx.1.free:Int))]:=(cx.an 1)
 exact bS (e:=116) (sz:=7) (xs:=[vi xx.2.1,vi xx.1.lv,vi xx.1.right,.string xx.1.high,.bool xx.1.dead,.slice xx.2.2.1 xx.1.es.length xx.2.2.2,vi ((xx.1.free:Int))]) rfl (by simp[go_sem,rZ]) rfl (by decide) rfl rfl (fun _ _ _ _ _=> .intro)
 refine svA fun f b W X cx=>?_
 obtain⟨i0,hi0,hz0,hz1,hz2⟩:=info_parts Try.infoNd
 refine bL (n:=n) (m:=1) (nm:=n+1) (sz:=7) (xs:=pre.flatMap ynC) (news:=ynC xx) (xs':=(pre++[xx]).flatMap ynC) rfl (ty:=146) rfl (by kernel_rfl) hi0 hz0 hz1 hz2 rfl (by decide) (cx.an 0) cx (cx.init 1 _ rfl) rfl (dTn (cx.an 2)).1 (by rfl) (At.of_ownN (cx.row (dTn (cx.an 2)).2 rfl)) (by simp[ynC,Value.oneCell']) (by simp only[maxLen];omega) (by omega) rfl rfl rfl (by omega) (Fv _ _) (fun d g X' hs hb hv hx=>?_)
 exact⟨hv,hx⟩
 refine svA fun f b W X cx=>?_
 exact ar (n:=1) rfl (cx.ou 2) (dTn (cx.an 3)).1 (by kernel_rfl) (by kernel_rfl) (by kernel_rfl) cx (cx.init 0 _ rfl) rfl (nle rfl) (by kernel_rfl) rfl rfl rfl (fun d g X' hs hb hx=>by rw[hb 11];exact hx)
 intro d b X W8 hD bt fr af
 simp only[exq 4 ((dTn (hD 2 lq)).2),exq 5 ((dTn (hD 3 lq)).2),exq 6 ((dTn (hD 4 lq)))] at bt
 simp only[ed 10 ((dTn (hD 2 lq)).1),ed 11 ((dTn (hD 3 lq)).1)] at af
 generalize pb' (b 10)=PB,sA (b 11)=rG,sC (b 11)=LF at bt af
 clear hD;subst af;clear d b X
 refine aw ?_
 exact⟨true,.inl ⟨rfl,rfl⟩,_,⟨rG,(n+1),LF,by rw[hn,List.length_append];rfl,rfl⟩,bt.pick [4,3,0] (by decide) rfl⟩
 rintro D4 OJ L4 XS_ E_ ⟨SA,n,sc,hn,rfl⟩ hZ_ E9
 have LG:St w [] [eB bV 146 #[.slice SA n sc],eO 116 7 (.slice SA n sc) n (XS_.flatMap ynC),E_,fu D4] OJ:=E9
 clear E9
 refine aw (aa (wp_seq (bC [0,1] [[0]] [.c 12 (.slice SA n sc),.k 4 (.slice SA n sc)] [0,1,2,3] [0] [(4,1,1,5),(7,0,1,8)] LG ?_ fun W9 bh=>?_)))
 refine⟨?_,trivial⟩
 exact xs4 rfl id fun cx=>ae rfl (by kernel_rfl) (cx.ou 2) ((cx.bi 0 rfl).cell 0)
 refine aa (wp_ret ?_)
 refine kH (L:=[eB bV 146 #[.slice SA n sc],eO 116 7 (.slice SA n sc) n (XS_.flatMap ynC),E_]) (bh.pick [0,1,2,3] (by decide) rfl) fun Wt10 ht10=>?_
 refine⟨.slice SA n sc,(ak Try.results98 rpt),?_⟩
 exact FU hZ_ (ht10.pick [1,2] (by decide) rfl) hn
 exact fun D W L xs E h=>h.elim
theorem AC(b1 b2 b3:Nat)(L:List (Int×NoD))(w:World)(Px:YnD->Prop)(Rd:World->Prop)(hseq:zg Try.prog 99 #[.pointer (some ⟨b1,0,none⟩),.pointer (some ⟨b2,0,none⟩),.pointer (some ⟨b3,0,none⟩)] ynE ynR Px 1000 (YnZ L) Rd)(hRd:∀A,Ext w A->Rd A):
  Calls Try.prog 71 #[.func (.func 99) #[] #[.pointer (some ⟨b1,0,none⟩),.pointer (some ⟨b2,0,none⟩),.pointer (some ⟨b3,0,none⟩)]] w (vF L w):=by
 go_enter Try.func71,Try.ntmps71
 have aq:=St.start w
 refine wp_seq (sqr (sqp [.k 2 (.slice none 0 0)] ?_))
 refine aa (wp_seq (sqr (sqp [.m 3 0] ?_)))
 refine KY (fun xi zJ=> .slice xi L.length zJ) (fun xi zJ JN=>eCL xi L JN) aq (fun cx=>⟨_,(HW b1 b2 b3 L _ Px Rd hseq (fun A hA=>hRd A (cx.upd.to_ext.trans hA))).mono (by rintro e W1 ⟨A4,c4,fp4,rfl,aR⟩;exact⟨_,_,_,rfl,aR⟩),(aK (cx.co _) (cx.ou 3))⟩) fun xi zJ JN W3 bG=>?_
 refine sqp [.m 2 4] ?_
 refine aa (wp_ret ?_)
 refine bpr (.slice xi L.length zJ) (ak Try.results71 rpt) ?_
 exact⟨_,_,_,rfl,bG.pick [0] (by decide) rfl⟩
end
end Go.Proofs.Ytjlcoglmjldjbaa
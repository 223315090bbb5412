/- TreeBusyRow: part 4 of the proof. -/
import Derived.Test.YtjlcoglmjldjbaaZ3

set_option linter.unusedVariables false
set_option linter.unusedSimpArgs false
set_option maxRecDepth 100000
set_option maxHeartbeats 16000000
namespace Go.Proofs.Ytjlcoglmjldjbaa
section
open Go.RowKit
def keyM (n:Int):Int:=(n.tmod 200+200) % 200
def keyF (n:Int):ByteArray:=if 0 < keyM n % 3 then strOfNums [97+keyM n % 26]++strOfNums [97+keyM n / 26] else strOfNums [97+keyM n % 26]
theorem keyF_size (n:Int):(keyF n).size≤2:=by
 unfold keyF
 split
 ·rw [ByteArray.size_append,strOfNums_size,strOfNums_size]; exact Nat.le_refl 2
 ·rw [strOfNums_size]; exact Nat.le_succ 1
def putT (root:Int) (key:ByteArray) (pg sl:Int):PuT:=⟨root,root, -1,[(entF key pg sl,0,0)],0,0,false⟩
/-- an insertion run to its end, at most k steps -/
def runF:Nat→List PgS→Int→PuT→List PgS×Int
 | 0,ps,nx, _=>(ps,nx)
 | k+1,ps,nx,p=>if p.left=[] then (ps,nx) else runF k (doB ps (stepF ps p nx).2.eds) (if (stepF ps p nx).2.used then nx+1 else nx) (stepF ps p nx).1
def grwF (l:List Int):Nat→List PgS×Int
 | 0=>(blankF 60,1)
 | i+1=>runF 60 (grwF l i).1 (grwF l i).2 (putT 0 (keyF (l.getD i 0)) (1+(i:Int) / 8) (1+(i:Int) % 8))
/-- the tree of Grown -/
def grownF (l:List Int):List PgS:=(grwF l (min l.length 90)).1
theorem runF_nil (k:Nat) (ps:List PgS) (nx:Int) {p:PuT} (h:p.left=[]):runF k ps nx p=(ps,nx):=by
 cases k with
 | zero=>rfl
 | succ k=>rw [runF,if_pos h]
theorem runF_step {k:Nat} {ps:List PgS} {nx:Int} {p:PuT} (h:p.left≠[]):runF (k+1) ps nx p=runF k (doB ps (stepF ps p nx).2.eds) (if (stepF ps p nx).2.used then nx+1 else nx) (stepF ps p nx).1:=by rw [runF,if_neg h]
-- sizes
/-- edits of slots that are not too high need no care; items of at most M bytes -/
def EdM (M:Nat) (l:List EdT):Prop:=∀ e∈l,e.2.2.size≤M
structure BdM (M:Nat) (ps:List PgS):Prop where
 its:∀ p∈ps,p.2.2.length≤101
 sz:∀ p∈ps,∀ s∈p.2.2,s.size≤M
theorem BdM.mono {M M':Nat} {ps:List PgS} (h:BdM M ps) (hm:M≤M'):BdM M' ps:=⟨h.its,fun p hp s hs=>Nat.le_trans (h.sz p hp s hs) hm⟩
theorem BdM.do1 {M:Nat} {ps:List PgS} {e:EdT} (h:BdM M ps) (he:e.2.2.size≤M):BdM M (do1B ps e):=by
 unfold do1B
 split
 ·rename_i hok
  have hok:=of_decide_eq_true hok
  have hg:=(getD_mem' (l:=ps) (n:=e.1.toNat) (d:=pgs0) (by omega)).2
  have key:(edP (ps.getD e.1.toNat pgs0) e).2.2.length≤101∧∀ s∈(edP (ps.getD e.1.toNat pgs0) e).2.2,s.size≤M:=by
   unfold edP
   split
   ·exact ⟨Nat.zero_le _,fun s hs=>nomatch hs⟩
   ·refine ⟨by rw [setI_len]; have:=h.its _ hg; omega,fun s hs=>?_⟩
    rcases List.mem_or_eq_of_mem_set hs with h1 | rfl
    ·rcases List.mem_append.1 h1 with h1 | h1
     ·exact h.sz _ hg s h1
     ·rw [(List.mem_replicate.1 h1).2]; exact Nat.zero_le _
    ·exact he
  refine ⟨fun p hp=>?_,fun p hp s hs=>?_⟩
  ·rcases List.mem_or_eq_of_mem_set hp with h1 | rfl
   ·exact h.its p h1
   ·exact key.1
  ·rcases List.mem_or_eq_of_mem_set hp with h1 | rfl
   ·exact h.sz p h1 s hs
   ·exact key.2 s hs
 ·exact h
theorem BdM.do {M:Nat}:∀ {l:List EdT} {ps:List PgS},BdM M ps→EdM M l→BdM M (doB ps l)
 | [],ps,h, _=>h
 | e::l,ps,h,he=>BdM.do (l:=l) (h.do1 (he e (by simp))) (fun x hx=>he x (by simp [hx]))
theorem BdM.ok {M:Nat} {ps:List PgS} (h:BdM M ps) (hM:M≤900000) (hl:ps.length≤1000):OkS ps:=⟨hl,h.its,fun p hp s hs=>Nat.le_trans (h.sz p hp s hs) hM⟩
theorem nd_sz {M:Nat} {ps:List PgS} {x:Int} {n:NoD} (hok:BdM M ps) (h:ndAt ps x=some n):n.high.size≤M∧∀ e∈n.es,e.1.size≤M:=by
 rw [ndAt_pg] at h
 split at h
 ·rename_i hb
  have hb:=of_decide_eq_true hb
  have hv:∀ s∈(pgV ps x).2.2,s.size≤M:=by
   rw [pgV,if_pos hb]
   exact hok.sz _ (getD_mem' (l:=ps) (n:=x.toNat) (d:=pgs0) (by omega)).2
  obtain ⟨y,l,h1,h2,h3,rfl⟩:=nodF_inv h
  rw [h1] at hv
  refine ⟨?_,fun e he=>?_⟩
  ·have:=hv y (by simp)
   show (y.extract 4 y.size).size≤M
   rw [ByteArray.size_extract]; omega
  ·obtain ⟨k,hk,rfl⟩:=List.getElem_of_mem he
   have h5:=srt_size (lv:=(numS y 0 1:Int)) (l:=rawE 1 l) (M:=M) (fun p hp=>hv _ (List.mem_cons_of_mem _ (rawE_mem hp).1)) k
   rwa [List.getD_eq_getElem?_getD,List.getElem?_eq_getElem hk] at h5
 ·cases h
theorem hdB_size (lv rt:Int) (d:Bool) (hi:ByteArray):(hdB lv rt d hi).size=hi.size+4:=by
 rw [hdB,ByteArray.size_append,ByteArray.size_append,two_sz,twoB_size]; omega
theorem itB_size (lv k:Int) (e:ByteArray):(itB lv k e).size≤e.size+2:=by
 unfold itB; split
 ·rw [ByteArray.size_append,twoB_size]; exact Nat.le_refl _
 ·omega
theorem itsE_sz {pg lv:Int} {M:Nat}:∀ {l:List EnD} {i:Nat},(∀ e∈l,e.1.size≤M)→EdM (M+10) (itsE pg lv i l)
 | [], _, _=>fun e he=>nomatch he
 | x::l,i,h=>fun e he=>by
   rw [itsE] at he
   rcases List.mem_cons.1 he with rfl | he
   ·have:=itB_size lv x.2.2 x.1
    have:=h x (by simp)
    show (itB lv x.2.2 x.1).size≤M+10
    omega
   ·exact itsE_sz (fun y hy=>h y (by simp [hy])) e he
theorem EdM.app {M:Nat} {a b:List EdT} (ha:EdM M a) (hb:EdM M b):EdM M (a++b):=fun e he=>by
 rcases List.mem_append.1 he with h | h
 ·exact ha e h
 ·exact hb e h
theorem freshE_sz {pg lv rt:Int} {hi:ByteArray} {M:Nat} {l:List EnD} (hh:hi.size≤M) (h:∀ e∈l,e.1.size≤M):EdM (M+10) (freshE pg lv rt hi l):=by
 refine EdM.app (fun e he=>?_) (itsE_sz h)
 simp only [List.mem_cons,List.not_mem_nil,or_false] at he
 rcases he with rfl | rfl
 ·show (strOfNums [2]).size≤M+10
  rw [strOfNums_size]; simp
 ·show (hdB lv rt false hi).size≤M+10
  rw [hdB_size]; omega
theorem clearE_sz (pg:Int) (M:Nat) (l:List EnD):EdM M (clearE pg l):=fun e he=>by
 obtain ⟨x, _,rfl⟩:=List.mem_map.1 he
 exact Nat.zero_le _
theorem EdM.one {M:Nat} {p s:Int} {x:ByteArray} (h:x.size≤M):EdM M [(p,s,x)]:=fun e he=>by rw [List.mem_singleton] at he; subst he; exact h
theorem midE_sz {n:NoD} {M:Nat} (h:∀ e∈n.es,e.1.size≤M):(midE n).size≤M:=getD_size h _
/-- what holds of an insertion on its way -/
structure PuM (M k:Nat) (p:PuT):Prop where
 left:∀ t∈p.left,t.1.size≤M∧0≤t.2.1∧t.2.1≤M
 len:p.left.length≤k
theorem step_sz {M k:Nat} {ps:List PgS} {p:PuT} {fresh:Int} (hb:BdM M ps) (hp:PuM M k p):EdM (M+10) (stepF ps p fresh).2.eds∧PuM (M+10) (k+1) (stepF ps p fresh).1:=by
 have hnil:EdM (M+10) []:=fun e he=>nomatch he
 have hp1:PuM (M+10) (k+1) p:=⟨fun t ht=>by have:=hp.left t ht; exact ⟨by omega,by omega,by omega⟩,by have:=hp.len; omega⟩
 unfold stepF
 cases hl:p.left with
 | nil=>exact ⟨hnil,fun t ht=>(nomatch ht),Nat.zero_le _⟩
 | cons t l=>
   have hL:∀ x∈t::l,x.1.size≤M+10∧0≤x.2.1∧x.2.1≤(M+10:Nat):=fun x hx=>hp1.left x (by rw [hl]; exact hx)
   have hK:(t::l).length≤k+1:=by rw [← hl]; exact hp1.len
   have ht:=hp.left t (by rw [hl]; simp)
   cases hn:ndAt ps p.pos with
   | none=>exact ⟨hnil,hL,hK⟩
   | some n=>
     have hz:=nd_sz hb hn
     dsimp only
     split
     ·split
      ·exact ⟨hnil,hL,hK⟩
      ·exact ⟨hnil,hL,hK⟩
     ·split
      ·exact ⟨hnil,hL,hK⟩
      ·split
       ·exact ⟨hnil,hL,hK⟩
       ·split
        ·refine ⟨?_,fun x hx=>hL x (by simp [hx]),by rw [List.length_cons] at hK; show l.length≤k+1; omega⟩
         dsimp only
         split
         ·exact hnil
         ·have:=itB_size t.2.1 t.2.2 t.1
          exact EdM.one (by omega)
        ·split
         ·exact ⟨hnil,hL,hK⟩
         ·split
          ·refine ⟨?_,hL,hK⟩
           refine EdM.app (EdM.app (EdM.app (freshE_sz (Nat.zero_le _) hz.2) (EdM.one ?_)) (clearE_sz _ _ _)) (EdM.one ?_)
           ·rw [hdB_size]; show 0+4≤M+10; omega
           ·have:=itB_size 1 fresh leastB
            have h4:leastB.size=4:=by decide
            omega
          ·refine ⟨?_,fun x hx=>?_,?_⟩
           ·refine EdM.app (EdM.app (freshE_sz hz.1 fun e he=>hz.2 e (List.mem_of_mem_drop he)) (EdM.one ?_)) (clearE_sz _ _ _)
            rw [hdB_size]; have:=midE_sz hz.2; omega
           ·dsimp only at hx
            rcases List.mem_append.1 hx with h1 | h1
            ·exact hL x h1
            ·rw [List.mem_singleton] at h1
             subst h1
             have:=midE_sz hz.2
             exact ⟨by dsimp only; omega,by dsimp only; omega,by dsimp only; omega⟩
           ·show (t::l++[_]).length≤k+1
            rw [List.length_append]
            have:=hp.len
            rw [hl] at this
            exact Nat.succ_le_succ this
theorem itsE_len (pg lv:Int):∀ (l:List EnD) (i:Nat),(itsE pg lv i l).length=l.length
 | [], _=>rfl
 | x::l,i=>by rw [itsE,List.length_cons,itsE_len pg lv l,List.length_cons]
theorem stepF_len {ps:List PgS} {p:PuT} {fresh:Int} (hok:OkS ps):(stepF ps p fresh).2.eds.length≤1000:=by
 unfold stepF
 cases hl:p.left with
 | nil=>exact Nat.zero_le _
 | cons t l=>
   cases hn:ndAt ps p.pos with
   | none=>exact Nat.zero_le _
   | some n=>
     have hz:=(nd_ok hok hn).len
     dsimp only
     split
     ·split<;>exact Nat.zero_le _
     ·split
      ·exact Nat.zero_le _
      ·split
       ·exact Nat.zero_le _
       ·split
        ·dsimp only; split
         ·exact Nat.zero_le _
         ·exact Nat.le_of_ble_eq_true rfl
        ·split
         ·exact Nat.zero_le _
         ·split
          ·simp only [growE,freshE,clearE,List.length_append,itsE_len,List.length_map,List.length_cons,List.length_nil]; omega
          ·simp only [cutE,freshE,clearE,halfE,List.length_append,itsE_len,List.length_map,List.length_cons,List.length_nil,List.length_drop]; omega
theorem blank_sz (n:Nat):BdM 16 (blankF n)∧(blankF n).length=n:=by
 refine ⟨BdM.do ⟨fun p hp=>?_,fun p hp s hs=>?_⟩ fun e he=>?_,?_⟩
 ·rw [(List.mem_replicate.1 hp).2]; decide
 ·rw [(List.mem_replicate.1 hp).2] at hs; exact nomatch hs
 ·simp only [begF,List.mem_cons,List.not_mem_nil,or_false] at he
  rcases he with rfl | rfl
  ·show (strOfNums [2]).size≤16; rw [strOfNums_size]; decide
  ·show (hdB 0 (-1) false ⟨#[]⟩).size≤16; rw [hdB_size]; decide
 ·rw [blankF,doB_len,List.length_replicate]
end
section
open Go.RowKit
theorem BkU.mono {S T:List Nat} {w:World} {bk:Nat} {ps:List PgS} (h:BkU T w bk ps) (hs:∀ k∈S,k∈T):BkU S w bk ps:=by
 obtain ⟨LA,lc,Ps,h1,h2⟩:=h
 exact ⟨LA,lc,Ps,h1,fun W hW=>h2 W (hW.mono fun k _ hk=>hs k hk)⟩
theorem rstep_pu {b bk:Nat} {ps:List PgS} {p:PuT} {fresh:Int} {fp:List Nat} {w:World} (h:(ePu b p fp).holds w) (hB:BkU fp w bk ps) (hne:p.left≠[]) (hok:OkS ps) (h10:p.left.length≤10000) (hte:∀ t∈p.left,t.1.size≤900000∧0≤t.2.1∧t.2.1≤90000) (hfr: -1≤fresh∧fresh≤1000000):
  Calls Try.prog 17 #[.pointer (some ⟨b,0,none⟩), .pointer (some ⟨bk,0,none⟩), .int .i64 fresh] w (StPost b (stepF ps p fresh) fp w):=by
 obtain ⟨A,c,g,hfp,hbg,hc,hAg,hlt,hb,hA⟩:=h
 obtain ⟨root,pos,leaf,left,fro,to,spl⟩:=p
 cases left with
 | nil=>exact absurd rfl hne
 | cons t lf=>
   obtain ⟨te,tl,tk⟩:=t
   obtain ⟨la,rfl, _, _⟩:=hA 0 (.string te) rfl
   have hg:=hAg la rfl (by simp)
   have ht:=hte (te,tl,tk) (by simp)
   refine rstep_c b bk root pos leaf fro to spl la _ c te tl tk lf ps fresh fp g w hb (fun W hW=>?_) rfl hc h10 (hB.mono (by rw [hfp]; simp)) hok hfp hbg hlt hg ht.1 ht.2 hfr
   refine at_blocks hA fun ad e _=>?_
   rw [← Option.some.inj e]
   exact hW.block _ (hlt _ hg) (fun hm=>hbg (by rw [List.mem_singleton] at hm; exact hm ▸ hg))
theorem rstep_to {b bk:Nat} {ps:List PgS} {p:PuT} {fresh:Int} {fp:List Nat} {w:World} {R:PuT×GoT} (hR:stepF ps p fresh=R) (hc:Calls Try.prog 17 #[.pointer (some ⟨b,0,none⟩), .pointer (some ⟨bk,0,none⟩), .int .i64 fresh] w (StPost b (stepF ps p fresh) fp w)):Calls Try.prog 17 #[.pointer (some ⟨b,0,none⟩), .pointer (some ⟨bk,0,none⟩), .int .i64 fresh] w (StPost b R fp w):=hR ▸ hc
section
variable {P:Program} {ops:Array Oper} {L:List Nat} {a0:Act} {w0:World} {bor:List Nat} {X0:List Ent} {us cr kl:List (List Nat)}
 {D:Nat→(Tmp→Value)→(Tmp→Value)→(Nat→Ent)→Prop} {i:Nat} {o:Oper} {ρ:Operand→Value} {β:Tmp→Value} {W:World} {X:Nat→Ent}
theorem CtxV.bkU {q q':Nat} {bk:Nat} {ps:List PgS} {fb:List Nat} {F:Ent} (cx:CtxV ops L a0 w0 bor X0 us D i ρ β W X) (hX:X q=eBk bk ps fb) (hX':X q'=F) (hu:(atV us i).contains q=true) (hu':(atV us i).contains q'=true) (hne:q≠q'):BkU F.fp W bk ps:=by
 subst hX'
 refine BkU.of (CtxV.holdF cx hX hu) fun k hk=>⟨CtxV.ltF cx hX hu k hk,fun hm=>?_⟩
 exact cx.ap q q' hu hu' hne k (by rw [hX]; exact hk) hm
/-- the pending entries of an insertion are loaded -/
theorem dv_loadLeft {t:TypeId} {x:Operand} {b:Nat} {p:PuT} {fp:List Nat} {q:Nat} {d:Tmp} (h:o.op= .load t x) (hx:ρ x= .pointer (some ⟨b,3,none⟩)) (ha:aggP P t=some false) (cx:CtxV ops L a0 w0 bor X0 us D i ρ β W X) (hX:X q=ePu b p fp) (hu:(atV us i).contains q=true) (hd:o.dst=some d) (hc:atV cr i=[]) (hk:atV kl i=[])
  (hD:∀ (σ β':Tmp→Value) (X':Nat→Ent),(∀ t,t≠d→σ t=ρ (.tmp t))→(∀ t,t≠d→β' t=β t)→σ d= .slice (sA (β' d)) p.left.length (sC (β' d))→D i σ β' X'):DoesU P o ρ W (PostV cr kl D i o.dst ρ β W X):=by
 obtain ⟨A,c,g, _, _, _, _, _,hB, _⟩:=CtxV.holdF cx hX hu
 have hr:(execOp ρ o).run P W= .ok (.value (.slice A p.left.length c)) W:=run_load1 h ha hx (hB.cell 3)
 refine DoesU.value hr ⟨[],by rw [hc]; rfl,⟨Upd.refl _ _,(fun e he=>nomatch he),List.Pairwise.nil⟩,fun σ β' X' hs hv hb hbv hx' hN=>hD σ β' X' (fun t ht=>hs t (by rw [hd]; simpa using ht.symm)) (fun t ht=>hb t (by rw [hd]; simpa using ht.symm)) ?_⟩
 rw [hv d hd,hbv d hd]; rfl
end
def GwPost (p:PuT) (w:World) (e:Ending) (w':World):Prop:=∃ b fp,e= .returned (.pointer (some ⟨b,0,none⟩))∧St w [] [ePu b p fp] w'
theorem gw_new {w W:World} {b:Nat} {p:PuT} {A:Option Addr} {c:Nat} (h:St w [] [eB b 102 (puC p A c),eO 111 3 (.slice A p.left.length c) p.left.length (p.left.flatMap tkC)] W):∃ fp,St w [] [ePu b p fp] W:=by
 have h1:=h.ok (eB b 102 (puC p A c)) (by simp)
 have h3:=h.ok (eO 111 3 (.slice A p.left.length c) p.left.length (p.left.flatMap tkC)) (by simp)
 have hp:=List.pairwise_pair.1 h.apart
 have hB:Blk W b 102 (puC p A c):=h1.holds
 have hO:W.ownsRow 0 111 3 (.slice A p.left.length c) p.left.length (p.left.flatMap tkC):=h3.holds
 refine ⟨b::(Value.slice A p.left.length c).ownBlock.toList,h.upd,fun x hx=>?_,List.pairwise_singleton _ _⟩
 rw [List.mem_singleton] at hx
 subst hx
 refine ⟨⟨A,c, _,rfl,fun hm=>hp b (by simp [eB]) hm,eown_capN hO,fun ad e hl=>?_,fun k hk=>(h3.own k hk).2,hB,At.of_ownN hO⟩,ePu_loc _ _ _,fun k hk=>?_⟩
 ·subst e
  rcases hO.2 with ⟨hv,hm⟩ | ⟨g',cap,cur,hv, _⟩
  ·injection hv with h5; cases h5
  ·injection hv with h5; injection h5 with h5; subst h5; simp [Value.ownBlock]
 ·rcases List.mem_cons.1 hk with e | hk
  ·rw [e]; exact h1.own b (by simp [eB])
  ·exact h3.own k hk
theorem keyM_bd (n:Int):0≤keyM n∧keyM n < 200:=⟨Int.emod_nonneg _ (by decide),Int.emod_lt_of_pos _ (by decide)⟩
theorem rkey_any (n:Int) (w:World):
  Calls Try.prog 13 #[.int .i64 n] w (Ret (.string (keyF n)) w):=by
 have h1_:=Int.lt_tmod_of_pos n (b:=200) (by decide)
 have h2_:=Int.tmod_lt_of_pos n (b:=200) (by decide)
 go_enter Try.func13,Try.ntmps13
 have hst0:=St.start w
 refine wp_seq (sqr (sqp [.k 2 (.string ⟨#[]⟩)] ?_))
 refine then_normal (wp_seq (sqr (sqp [.m 4 0,sRe 5 .i64 n 200 (n.tmod 200) (rfl),sI 6 ((n.tmod 200)+200) (by omega),sRe 7 .i64 ((n.tmod 200)+200) 200 (((n.tmod 200)+200) % 200) (Int.tmod_eq_emod_of_nonneg (by omega)), .m 0 7] ?_)))
 refine then_normal (wp_seq ?_)
 obtain ⟨m,hN_m⟩:∃ z,((n.tmod 200)+200) % 200=z:=⟨_,rfl⟩
 rw [hN_m]
 have hm_:keyM n=m:=hN_m
 have hmb:=keyM_bd n
 rw [hm_] at hmb
 refine sqr (sqp [.m 8 0,sRe 9 .i64 m 26 (m % 26) (Int.tmod_eq_emod_of_nonneg (by omega)),sI 10 (97+(m % 26)) (by omega),sW 11 .u8 (97+(m % 26)) (97+(m % 26)) (IntWalk.u8_in _ (by omega))] ?_)
 refine sqn1 (fun x_=>sA x_) (fun A12_11=> .slice A12_11 1 1) (fun A12_11=>eO 5 1 (.slice A12_11 1 1) 1 ([.int .u8 (97+(m % 26))])) hst0 (by
   refine svA fun ρ β W X cx=>?_
   have fF11:ρ (.tmp 11)= .int .u8 (97+(m % 26)):=(cx.ou 11)
   exact dv_lit (e:=5) (xs:=[.int .u8 (97+(m % 26))]) rfl (by simp [go_sem,fF11]) rfl (by decide) rfl rfl (fun σ β' X' hs hb hv hx=>⟨hv,hx⟩)) fun A12_11 W11 hst11=>?_
 refine sql (.string (strOfNums ([(97+(m % 26))]))) hst11 (fun cx=>run_convB (e:=5) rfl (by kernel_rfl) (by kernel_rfl) (by kernel_rfl) (cx.ou 12) (cx.ri 0 rfl)) ?_
 refine sqp [.m 3 13] ?_
 refine then_normal (wp_seq (wp_seq (sqr (sqp [.m 14 0,sRe 15 .i64 m 3 (m % 3) (Int.tmod_eq_emod_of_nonneg (by omega)), .k 16 (.bool (decide (0 < m % 3)))] ?_))))
 refine then_normal (wds (fun hs17 hs17p=>?_) fun hs17 hs17p=>?_)
 ·refine sqr (sqp [.m 17 3, .m 18 0,sQu 19 .i64 m 26 (m / 26) (by rw [Int.tdiv_eq_ediv_of_nonneg (by omega)]; exact IntWalk.i64_in _ (by omega)),sI 20 (97+(m / 26)) (by omega),sW 21 .u8 (97+(m / 26)) (97+(m / 26)) (IntWalk.u8_in _ (by omega))] ?_)
  refine sqn1 (fun x_=>sA x_) (fun A22_23=> .slice A22_23 1 1) (fun A22_23=>eO 5 1 (.slice A22_23 1 1) 1 ([.int .u8 (97+(m / 26))])) hst11 (by
    refine svA fun ρ β W X cx=>?_
    have fF21:ρ (.tmp 21)= .int .u8 (97+(m / 26)):=(cx.ou 21)
    exact dv_lit (e:=5) (xs:=[.int .u8 (97+(m / 26))]) rfl (by simp [go_sem,fF21]) rfl (by decide) rfl rfl (fun σ β' X' hs hb hv hx=>⟨hv,hx⟩)) fun A22_23 W23 hst23=>?_
  refine sql (.string (strOfNums ([(97+(m / 26))]))) hst23 (fun cx=>run_convB (e:=5) rfl (by kernel_rfl) (by kernel_rfl) (by kernel_rfl) (cx.ou 22) (cx.ri 1 rfl)) ?_
  refine sqp [sS 24 (strOfNums ([(97+(m % 26))])) (strOfNums ([(97+(m / 26))])) (by rw [strOfNums_size,strOfNums_size]; exact Nat.le_of_ble_eq_true rfl), .m 3 24] ?_
  refine then_normal (wp_seq (sqr (sqp [.m 25 3, .m 2 25] ?_)))
  refine then_normal (wp_ret ?_)
  refine bpr (.string ((strOfNums ([(97+(m % 26))]))++(strOfNums ([(97+(m / 26))])))) (results_1 Try.results13 rpt) ?_
  exact Ret.of (by rw [keyF,hm_,if_pos (by omega)]) hst23.ext
 refine wp_skip (then_normal (wp_seq (sqr (sqp [.m 25 3, .m 2 25] ?_))))
 refine then_normal (wp_ret ?_)
 refine bpr (.string (strOfNums ([(97+(m % 26))]))) (results_1 Try.results13 rpt) ?_
 exact Ret.of (by rw [keyF,hm_,if_neg (by omega)]) hst11.ext
theorem rgrowN_any (root:Int) (key:ByteArray) (pg sl:Int) (w:World) (hk:key.size≤1000000):
  Calls Try.prog 15 #[.int .i64 root, .string key, .agg #[.int .i64 pg, .int .i64 sl]] w (GwPost (putT root key pg sl) w):=by
 go_enter Try.func15,Try.ntmps15
 have hst0:=St.start w
 refine wp_seq (sqr ?_)
 refine sqbx #[vi pg,vi sl] hst0 fun B5_1 W1 hst1=>?_
 refine sqp [.k 6 (.pointer none)] ?_
 refine then_normal (wp_seq (sqr (sqp [.m 7 0, .m 8 0, .m 9 1] ?_)))
 refine sqlb 0 2 hst1 ?_
 refine sqk (.string (entF key pg sl)) hst1 (fun cx=>⟨_,rentry_any key pg sl _ (by omega),(map2 (cx.ou 9) (cx.ou 10))⟩) fun W7 hst7=>?_
 refine sqp [.k 12 (.agg #[.string (entF key pg sl),vi 0,vi 0])] ?_
 refine sqli 111 3 1 [.string (entF key pg sl),vi 0,vi 0] hst7 (@fun ρ β W X cx=>by have fF12:ρ (.tmp 12)= .agg #[.string (entF key pg sl),vi 0,vi 0]:=(cx.ou 12); simp [go_sem,fF12]) fun B13_9 W9 hst9=>?_
 refine sqp [.k 14 (.agg #[vi root,vi root,vi (-1), .slice ((some ⟨B13_9,0,none⟩)) 1 1,vi 0,vi 0, .bool false])] ?_
 refine sqbx #[vi root,vi root,vi (-1), .slice ((some ⟨B13_9,0,none⟩)) 1 1,vi 0,vi 0, .bool false] hst9 fun B15_11 W11 hst11=>?_
 refine sqp [.m 6 15] ?_
 refine then_normal (wp_ret ?_)
 refine bpr (vp B15_11) (results_1 Try.results15 rpt) ?_
 obtain ⟨fp_,hgw_⟩:=gw_new (p:=putT root key pg sl) (hst11.pick [2,1] (by decide) rfl)
 exact ⟨_, _,rfl,hgw_⟩
theorem rblank_c:∀ w,Calls Try.prog 45 #[.int .i64 60] w (BkPost (blankF 60) w):=fun w=>rblank_any 60 w (by decide)
theorem rgrown_any (A:Option Addr) (n c:Nat) (l:List Int) (w:World) (hA:At w A (l.map (Value.int .i64))) (hn:l.length=n):
  Calls Try.prog 11 #[.slice A n c] w (BkPost (grownF l) w):=by
 go_enter Try.func11,Try.ntmps11
 have hst0:=St.start w
 refine wp_seq (sqr (sqp [.k 2 (.pointer none)] ?_))
 refine then_normal (wp_seq (sqr ?_))
 refine sqk1s (fun B9_2=>vp B9_2) (fun B9_2 r0_2=>eBk B9_2 (blankF 60) r0_2) hst0 (fun cx=>⟨_,(rblank_c _).mono (by rintro e W1 ⟨B4,fp4,rfl,hs4⟩; exact ⟨_, _,rfl,hs4⟩),(map1 (cx.co _))⟩) fun B9_2 r0_2 W2 hst2=>?_
 refine sqp [.m 3 9] ?_
 refine then_normal (wp_seq (sqr (sqp [.k 4 (vi 1)] ?_)))
 refine then_normal (wp_seq (wp_seq (sqr (sqp [.k 5 (vi 0)] ?_))))
 refine then_normal (wp_block ?_)
 refine wp_loopT (fun t_ mz az W=>∃ i:Nat,∃ ps0:List PgS,∃ nx0:Int,∃ fb0:List Nat,i≤min n 90∧grwF l i=(ps0,nx0)∧BdM (16+600*i) ps0∧ps0.length=60∧(1≤nx0∧nx0≤1+60*i)∧mz=min n 90 - i∧az=⟨(ovr (jv az) [(4,4,0,[vi nx0,vi ((i:Int))]),(0,6,3,[]),(1,10,47,[])] t_).toArray,[]⟩∧St w [] [eBk B9_2 ps0 fb0] W) (min n 90 - 0) ?_ ?_
 · -- the loop begins
   exact ⟨0,(blankF 60),1,r0_2,Nat.zero_le _,rfl,(blank_sz 60).1,(blank_sz 60).2,by omega,rfl,(by kernel_rfl),hst2.pk [0]⟩
 rintro n6 a6 W6 ⟨i,ps0,nx0,fb0,hi,hg,hb0,hl0,hn0,rfl,hj_,hst6⟩
 refine ovz hj_ fun u6_=>?_
 refine wp_seq (wp_seq (sqr (sqp [.m 10 5, .m 11 0, .k 12 (vi ((n:Int))), .k 13 (.bool (decide ((i:Int) < (n:Int)))), .m 14 13] ?_)))
 refine sqw 14 [15,16] rfl (fun _=>sqp [.m 15 5, .k 16 (.bool (decide ((i:Int) < 90)))] sqe) ?_
 refine sqp [sPa 17 (decide ((i:Int) < (n:Int))) (decide ((i:Int) < 90))] ?_
 refine then_normal (wbs (fun hs15=>?_) fun hs15=>?_)
 ·have hs15p:=hs15
  simp only [zB] at hs15p
  obtain ⟨hs15p1,hs15p2⟩:=hs15p
  refine wp_skip (then_normal (wp_seq (wp_block (wp_seq (sqr (sqp [.m 20 0, .m 21 5] ?_))))))
  refine sql (.pointer (some ((ad A).add i))) hst6 (fun cx=>run_indexSl (e:=3) (m:=i) rfl (by kernel_rfl) (by kernel_rfl) (cx.ou 20) (cx.ou 21) (by omega) (by omega) (hA.ext cx.upd.to_ext) (by rw [List.length_map]; omega)) ?_
  refine sql (vi (l.getD i 0)) hst6 (fun cx=>run_load1 rfl (by kernel_rfl) (cx.ou 22) (At.cellAd (hA.ext cx.upd.to_ext) (getD_int (by omega)))) ?_
  refine sqk (.string (keyF (l.getD i 0))) hst6 (fun cx=>⟨_,rkey_any (l.getD i 0) _,(map1 (cx.ou 23))⟩) fun W20 hst20=>?_
  refine sqp [.m 25 5,sQu 26 .i64 (i:Int) 8 ((i:Int) / 8) (by rw [Int.tdiv_eq_ediv_of_nonneg (by omega)]; exact IntWalk.i64_in _ (by omega)),sI 27 (1+((i:Int) / 8)) (by omega), .m 28 5,sRe 29 .i64 (i:Int) 8 ((i:Int) % 8) (Int.tmod_eq_emod_of_nonneg (by omega)),sI 30 (1+((i:Int) % 8)) (by omega), .k 31 (.agg #[vi (1+((i:Int) / 8)),vi (1+((i:Int) % 8))])] ?_
  refine sqk1s (fun B32_28=>vp B32_28) (fun B32_28 r1_28=>ePu B32_28 (putT 0 (keyF (l.getD i 0)) (1+((i:Int) / 8)) (1+((i:Int) % 8))) r1_28) hst20 (fun cx=>⟨_,(rgrowN_any 0 (keyF (l.getD i 0)) (1+((i:Int) / 8)) (1+((i:Int) % 8)) _ (Nat.le_trans (keyF_size _) (by decide))).mono (by rintro e W1 ⟨B4,fp4,rfl,hs4⟩; exact ⟨_, _,rfl,hs4⟩),(map3 (cx.co _) (cx.ou 24) (cx.ou 31))⟩) fun B32_28 r1_28 W28 hst28=>?_
  refine sqp [.m 6 32] ?_
  refine then_normal (wp_seq (sqr (sqp [.k 7 (vi 0)] ?_)))
  refine then_normal (wp_block ?_)
  obtain ⟨p0,hp0⟩:∃ z,(putT 0 (keyF (l.getD i 0)) (1+((i:Int) / 8)) (1+((i:Int) % 8)))=z:=⟨_,rfl⟩
  rw [hp0] at hst28
  have hpu0:PuM (16+600*i) 1 p0:=by rw [← hp0]; exact ⟨fun t ht=>by rw [putT,List.mem_singleton] at ht; subst ht; have:=keyF_size (l.getD i 0); exact ⟨by rw [entF_size]; omega,Int.le_refl 0,by show (0:Int)≤ _; omega⟩,Nat.le_refl _⟩
  have hrun0:grwF l (i+1)=runF 60 ps0 nx0 p0:=by rw [grwF,hg,← hp0]
  refine wp_loopT (fun t_ mz az W=>∃ k:Nat,∃ ps:List PgS,∃ nx:Int,∃ p:PuT,∃ fb:List Nat,∃ fpu:List Nat,k≤60∧grwF l (i+1)=runF (60 - k) ps nx p∧BdM (16+600*i+10*k) ps∧ps.length=60∧(1≤nx∧nx≤1+60*i+k)∧PuM (16+600*i+10*k) (k+1) p∧mz=60 - k∧az=⟨(ovr (jv az) [(4,4,0,[vi nx]),(2,7,0,[vi ((k:Int))]),(0,8,1,[]),(24,33,24,[])] t_).toArray,[]⟩∧St w [] [eBk B9_2 ps fb,ePu B32_28 p fpu] W) (60 - 0) ?_ ?_
  · -- the loop begins
    exact ⟨0,ps0,nx0,p0,fb0,r1_28,Nat.zero_le _,hrun0,hb0,hl0,by omega,hpu0,rfl,(by kernel_rfl),hst28.pk [0,1]⟩
  rintro n31 a31 W31 ⟨k,ps,nx,p,fb,fpu,hk,hrun,hpb,hp60,hnx,hpu,rfl,hj_,hst31⟩
  refine ovz hj_ fun u31_=>?_
  refine wp_seq (wp_seq ?_)
  rcases Bool.eq_false_or_eq_true (decide ((k:Int) < 60)) with hs33 | hs33
  ·have hs33p:=of_decide_eq_true hs33
   refine wp_region_Y [0,1,3,7,15,31,63,127,255,511] [[],[],[],[],[],[],[1]] [] [] [.k 33 (vi ((k:Int))), .e 34 (.bool (decide ((k:Int) < 60))) (.bool true) (congrArg Value.bool hs33), .k 35 (.bool true), .k 36 (vp B32_28), .k 37 (vp B32_28), .k 38 (.pointer (some ⟨B32_28,3,none⟩)), .a 39, .c 40 (vi ((p.left.length:Int))), .k 41 (.bool (decide (0 < (p.left.length:Int)))), .k 42 (.bool (decide (0 < (p.left.length:Int))))] (fun ix σ β X=>match ix with | 0=>True | 1=>True | 2=>True | 3=>True | 4=>True | 5=>True | 6=>σ 39= .slice (sA (β 39)) p.left.length (sC (β 39)) | _=>True) [0,1] [6,7] [(33,0,10,43)] hst31 ?_ ?_ ?_
   ·exact fun ix _ _ _ _ _ _ hs hb hx h=>match ix,h with
    | 6,h=>by dsimp only; rw [← hs 39 rfl,← hb 39 rfl]; exact h
    | 0, _ | 1, _ | 2, _ | 3, _ | 4, _ | 5, _ | _+7, _=>trivial
   ·refine ⟨?_,?_,trivial⟩
    ·refine sv_any_on rfl rfl rfl (fun _ _ _ _ cx=>(cx.an 2)) fun ρ β W X cx=>?_
     exact dv_loadLeft rfl (cx.an 5) (by kernel_rfl) cx (cx.init 1 _ rfl) rfl rfl rfl rfl (fun σ β' X' hs hb hv=>hv)
    ·exact xs5 rfl id (fun cx=>(cx.an 2)) fun cx=>run_len_l (e:=111) rfl (by kernel_rfl) (dTn (cx.an 6))
   intro σ β X W34 hD hst34 fr hfr
   obtain ⟨A39_34,hu_A39_34⟩:∃ z,sA (β 39)=z:=⟨_,rfl⟩
   obtain ⟨c39_34,hu_c39_34⟩:∃ z,sC (β 39)=z:=⟨_,rfl⟩
   simp only [ed 39 ((dTn (hD 6 lq))),hu_A39_34,hu_c39_34] at hfr
   clear hD hu_A39_34 hu_c39_34; subst hfr; clear σ β X
   refine then_normal (wds (fun hs35 hs35p=>?_) fun hs35 hs35p=>?_)
   ·refine wp_skip (then_normal (wp_seq (wp_block (wp_seq ?_))))
    have hpn:p.left≠[]:=List.ne_nil_of_length_pos (by omega)
    have hok:=hpb.ok (by omega) (by omega)
    have hpl:=hpu.len
    have hte:∀ t∈p.left,t.1.size≤900000∧0≤t.2.1∧t.2.1≤90000:=fun t ht=>by have h_:=hpu.left t ht; omega
    have hss:=step_sz (fresh:=nx) hpb hpu
    have hed9:=stepF_len (fresh:=nx) (p:=p) hok
    obtain ⟨R,hR⟩:∃ z,stepF ps p nx=z:=⟨_,rfl⟩
    rw [hR] at hss hed9
    have hedm:=hss.1
    have hpu2:=hss.2
    have hedl:R.2.eds.length≤100000:=by omega
    refine wp_region_Y [0,0,0,7,0,31] [[],[],[],[1,0],[],[4]] [[],[],[],[2,3],[4],[5]] [[],[],[],[1],[],[4]] [.k 45 (vp B32_28), .k 46 (vp B9_2), .k 47 (vi nx), .a 48, .a 8, .n] (fun ix σ β X=>match ix with | 0=>True | 1=>True | 2=>True | 3=>σ 48= .agg #[.slice (sA (tg (β 48) 0)) R.2.eds.length (sC (tg (β 48) 0)), .bool R.2.used,vi R.2.err]∧X 2=ePu B32_28 R.1 ((X 2).fp)∧X 3=eO 99 3 (.slice (sA (tg (β 48) 0)) R.2.eds.length (sC (tg (β 48) 0))) R.2.eds.length (R.2.eds.flatMap edC) | 4=>σ 8=vp (pb (β 8))∧X 4=eB (pb (β 8)) 39 #[.slice none 0 0, .bool false,vi 0] | 5=>X 5=eB (pb (β 8)) 39 #[.slice (sA (tg (β 48) 0)) R.2.eds.length (sC (tg (β 48) 0)), .bool R.2.used,vi R.2.err] | _=>True) [0,2,3,5] [3,4,5] [(8,4,1,9),(36,0,4,40)] hst34 ?_ ?_ ?_
    ·exact fun ix _ _ _ _ _ _ hs hb hx h=>match ix,h with
     | 3,h=>by dsimp only; rw [← hs 48 rfl,← hb 48 rfl,← hx 2 rfl,← hx 3 rfl]; exact h
     | 4,h=>by dsimp only; rw [← hs 8 rfl,← hb 8 rfl,← hx 4 rfl]; exact h
     | 5,h=>by dsimp only; rw [← hb 8 rfl,← hb 48 rfl,← hx 5 rfl]; exact h
     | 0, _ | 1, _ | 2, _ | _+6, _=>trivial
    ·refine ⟨?_,?_,?_,trivial⟩
     ·refine svA fun ρ β W X cx=>?_
      refine DoesU.call (run_callF (args:=#[vp B32_28,vp B9_2,vi nx]) rfl cx.sees rfl (by kernel_rfl) (map3 (cx.an 0) (cx.an 1) (cx.an 2))) ?_
      refine (rstep_to hR (rstep_pu (CtxV.holdF cx (cx.init 1 _ rfl) rfl) (CtxV.bkU cx (cx.init 0 _ rfl) (cx.init 1 _ rfl) rfl rfl (by decide)) hpn hok (by omega) hte (by omega))).mono ?_
      rintro e W1 ⟨A4,c4,rfl,fp4,hs4⟩
      refine ⟨_,rfl,post_obj (E:=ePu B32_28 p fpu) [ePu B32_28 R.1 fp4,eO 99 3 (.slice A4 R.2.eds.length c4) R.2.eds.length (R.2.eds.flatMap edC)] (cx.init 1 _ rfl) rfl rfl hs4 (fun σ β' X' hs hb hv hN=>?_)⟩
      have hv1:=(hv 48 rfl).1; have hv2:=(hv 48 rfl).2
      exact ⟨hv1.trans (by rw [hv2]; rfl),ePu_self ((List.cons.inj hN).1),(by rw [hv2]; exact (List.cons.inj (List.cons.inj hN).2).1)⟩
     ·refine svA fun ρ β W X cx=>?_
      exact dv_alloc (cs:=#[.slice none 0 0, .bool false,vi 0]) rfl (by kernel_rfl) rfl rfl (fun σ β' X' hs hb hv hx=>⟨hv,hx⟩)
     ·refine svA fun ρ β W X cx=>?_
      exact dv_store (n:=3) rfl (dTn (cx.an 4)).1 (dTn (cx.an 3)).1 (by kernel_rfl) (by kernel_rfl) (by kernel_rfl) cx (dTn (cx.an 4)).2 rfl (nle rfl) (by kernel_rfl) rfl rfl rfl (fun σ β' X' hs hb hx=>by rw [hb 8,hb 48]; exact hx)
    intro σ β X W36 hD hst36 fr hfr
    obtain ⟨A48_36,hu_A48_36⟩:∃ z,sA (tg (β 48) 0)=z:=⟨_,rfl⟩
    obtain ⟨c48_36,hu_c48_36⟩:∃ z,sC (tg (β 48) 0)=z:=⟨_,rfl⟩
    obtain ⟨B8_36,hu_B8_36⟩:∃ z,pb (β 8)=z:=⟨_,rfl⟩
    have xX2:X 2= _:=(dTn (hD 3 lq)).2.1
    obtain ⟨r2_36,hu_r2_36⟩:∃ z,(X 2).fp=z:=⟨_,rfl⟩
    rw [hu_r2_36] at xX2
    clear hu_r2_36
    simp only [xX2,exq 3 ((dTn (hD 3 lq)).2.2),exq 5 ((dTn (hD 5 lq))),hu_A48_36,hu_c48_36,hu_B8_36] at hst36
    simp only [ed 48 ((dTn (hD 3 lq)).1),ed 8 ((dTn (hD 4 lq)).1),hu_A48_36,hu_c48_36,hu_B8_36] at hfr
    clear hD xX2 hu_A48_36 hu_c48_36 hu_B8_36; subst hfr; clear σ β X
    refine then_normal (wp_seq (wp_seq (sqr (sqp [.k 49 (.pointer (some ⟨B8_36,1,none⟩))] ?_))))
    refine sqld 3 hst36 ?_
    refine then_normal (wbs (fun hs39=>?_) fun hs39=>?_)
    ·refine sqr (sqp [.m 51 4,sI 52 (nx+1) (by omega), .m 4 52] ?_)
     refine then_normal (sqr (sqp [.m 53 3, .k 54 (vp B8_36)] ?_))
     refine sqld 3 hst36 ?_
     refine sqc0s (fun X_=>X_.fp) (.tuple #[]) (fun r4_46=>eBk B9_2 (doB ps R.2.eds) r4_46) 0 hst36 (by
       refine svA fun ρ β W X cx=>?_
       refine DoesU.call (run_callF (args:=#[vp B9_2, .slice A48_36 R.2.eds.length c48_36]) rfl cx.sees rfl (by kernel_rfl) (map2 (cx.ou 53) (cx.ou 55))) ?_
       refine (rdo_any B9_2 ps _ 60 _ _ R.2.eds _ (CtxV.holdF cx (cx.init 0 _ rfl) rfl) (CtxV.ltF cx (cx.init 0 _ rfl) rfl) (CtxV.keepAt cx (cx.init 2 _ rfl) (cx.init 0 _ rfl) rfl rfl (by decide)) hedl hp60 (by decide) hpb.its).mono ?_
       rintro e W1 ⟨rfl,fp4,hs4⟩
       refine ⟨_,rfl,post_obj (E:=eBk B9_2 ps fb) [eBk B9_2 (doB ps R.2.eds) fp4] (cx.init 0 _ rfl) rfl rfl hs4 (fun σ β' X' hs hb hv hN=>?_)⟩
       have hv1:=(hv 56 rfl).1; have hv2:=(hv 56 rfl).2
       exact ⟨hv1.trans rfl,eBk_self ((List.cons.inj hN).1)⟩) fun r4_46 W46 hst46=>?_
     refine blk_normal (then_normal (sqr (sqp [.m 43 7,sI 44 ((k:Int)+1) (by omega), .m 7 44] ?_)))
     refine then_normal ?_
     refine ⟨60 - ((k+1)),by omega,?_⟩
     exact ⟨(k+1),(doB ps R.2.eds),(nx+1),R.1,r4_46,r2_36,by omega,by rw [hrun,show 60 - k=60 - (k+1)+1 by omega,runF_step hpn,hR,hs39]; rfl,(hpb.mono (by omega)).do hedm,by rw [doB_len]; exact hp60,by omega,hpu2,rfl,(by kernel_rfl),hst46.pk [0,1]⟩
    refine wp_skip (then_normal (sqr (sqp [.m 53 3, .k 54 (vp B8_36)] ?_)))
    refine sqld 3 hst36 ?_
    refine sqc0s (fun X_=>X_.fp) (.tuple #[]) (fun r4_53=>eBk B9_2 (doB ps R.2.eds) r4_53) 0 hst36 (by
      refine svA fun ρ β W X cx=>?_
      refine DoesU.call (run_callF (args:=#[vp B9_2, .slice A48_36 R.2.eds.length c48_36]) rfl cx.sees rfl (by kernel_rfl) (map2 (cx.ou 53) (cx.ou 55))) ?_
      refine (rdo_any B9_2 ps _ 60 _ _ R.2.eds _ (CtxV.holdF cx (cx.init 0 _ rfl) rfl) (CtxV.ltF cx (cx.init 0 _ rfl) rfl) (CtxV.keepAt cx (cx.init 2 _ rfl) (cx.init 0 _ rfl) rfl rfl (by decide)) hedl hp60 (by decide) hpb.its).mono ?_
      rintro e W1 ⟨rfl,fp4,hs4⟩
      refine ⟨_,rfl,post_obj (E:=eBk B9_2 ps fb) [eBk B9_2 (doB ps R.2.eds) fp4] (cx.init 0 _ rfl) rfl rfl hs4 (fun σ β' X' hs hb hv hN=>?_)⟩
      have hv1:=(hv 56 rfl).1; have hv2:=(hv 56 rfl).2
      exact ⟨hv1.trans rfl,eBk_self ((List.cons.inj hN).1)⟩) fun r4_53 W53 hst53=>?_
    refine blk_normal (then_normal (sqr (sqp [.m 43 7,sI 44 ((k:Int)+1) (by omega), .m 7 44] ?_)))
    refine then_normal ?_
    refine ⟨60 - ((k+1)),by omega,?_⟩
    exact ⟨(k+1),(doB ps R.2.eds),nx,R.1,r4_53,r2_36,by omega,by rw [hrun,show 60 - k=60 - (k+1)+1 by omega,runF_step hpn,hR,hs39]; rfl,(hpb.mono (by omega)).do hedm,by rw [doB_len]; exact hp60,by omega,hpu2,rfl,(by kernel_rfl),hst53.pk [0,1]⟩
   refine wp_exit (then_exit (then_exit (blk_eq (blk_normal (then_normal ?_)))))
   have hrun2:grwF l (i+1)=(ps,nx):=by
    by_cases hk60:k=60
    ·rw [hrun,hk60]; rfl
    ·rw [hrun]; exact runF_nil _ _ _ (List.eq_nil_of_length_eq_zero (by omega))
   refine sqr (sqp [.m 18 5,sI 19 ((i:Int)+1) (by omega), .m 5 19] ?_)
   refine then_normal ?_
   refine ⟨min n 90 - ((i+1)),by omega,?_⟩
   exact ⟨(i+1),ps,nx,fb,by omega,hrun2,hpb.mono (by omega),hp60,by omega,rfl,(by kernel_rfl),hst34.pk [0]⟩
  have hs33p:=of_decide_eq_false hs33
  refine sqr (sqp [.m 33 7, .e 34 (.bool (decide ((k:Int) < 60))) (.bool false) (congrArg Value.bool hs33), .k 35 (.bool false)] ?_)
  refine sqgn 35 [36,37,38,39,40,41] rfl rfl ?_
  refine sqp [.k 42 (.bool false)] ?_
  refine then_normal (wcf rfl (wp_exit (then_exit (then_exit (blk_eq (blk_normal (then_normal ?_)))))))
  have hrun2:grwF l (i+1)=(ps,nx):=by
   by_cases hk60:k=60
   ·rw [hrun,hk60]; rfl
   ·rw [hrun]; exact runF_nil _ _ _ (List.eq_nil_of_length_eq_zero (by omega))
  refine sqr (sqp [.m 18 5,sI 19 ((i:Int)+1) (by omega), .m 5 19] ?_)
  refine then_normal ?_
  refine ⟨min n 90 - ((i+1)),by omega,?_⟩
  exact ⟨(i+1),ps,nx,fb,by omega,hrun2,hpb.mono (by omega),hp60,by omega,rfl,(by kernel_rfl),hst31.pk [0]⟩
 have hs15p:=hs15
 simp only [zB] at hs15p
 refine wp_exit (then_exit (then_exit (blk_eq (then_normal (wp_seq (sqr (sqp [.m 57 3, .m 2 57] ?_)))))))
 refine then_normal (wp_ret ?_)
 refine bpr (vp B9_2) (results_1 Try.results11 rpt) ?_
 have hfin:grownF l=ps0:=by rw [grownF,hn,show min n 90=i by omega,hg]
 rw [hfin]
 exact ⟨_, _,rfl,hst6.pick [0] (by decide) rfl⟩
end
section
open Go.RowKit
def nz (s:ByteArray):Bool:=decide (s.size≠0)
def cnt (l:List ByteArray):Nat:=l.tail.countP nz
theorem nz_empty:nz ByteArray.empty=false:=rfl
theorem rawE_cnt:∀ (l:List ByteArray) (i:Nat),(rawE i l).length=l.countP nz
 | [], _=>rfl
 | x::l,i=>by
   rw [rawE]
   by_cases h:x.size=0
   ·rw [if_pos h,rawE_cnt l,List.countP_cons_of_neg (by simp [nz,h])]
   ·rw [if_neg h,List.length_cons,rawE_cnt l,List.countP_cons_of_pos (by simp [nz,h])]
theorem rawE_at:∀ {l:List ByteArray} {k s:Nat} {y:ByteArray},(s,y)∈rawE k l→k≤s∧l[s - k]? =some y∧y.size≠0
 | [], _, _, _,h=>nomatch h
 | x::l,k,s,y,h=>by
   rw [rawE] at h
   have hr:(s,y)∈rawE (k+1) l→k≤s∧(x::l)[s - k]? =some y∧y.size≠0:=fun h=>by
    obtain ⟨h1,h2,h3⟩:=rawE_at h
    refine ⟨by omega,?_,h3⟩
    rw [show s - k=(s - (k+1))+1 by omega,List.getElem?_cons_succ]; exact h2
   by_cases hx:x.size=0
   ·rw [if_pos hx] at h; exact hr h
   ·rw [if_neg hx] at h
    rcases List.mem_cons.1 h with h | h
    ·cases h
     exact ⟨Nat.le_refl _,by rw [Nat.sub_self]; rfl,hx⟩
    ·exact hr h
theorem cnt_rep (r:Nat):(List.replicate r ByteArray.empty).countP nz=0:=by rw [List.countP_replicate,nz_empty]; rfl
theorem cnt_app (l:List ByteArray) (r:Nat):cnt (l++List.replicate r ByteArray.empty)=cnt l:=by
 cases l with
 | nil=>
   cases r with
   | zero=>rfl
   | succ r=>rw [List.nil_append,List.replicate_succ]; show (List.replicate r ByteArray.empty).countP nz=0; exact cnt_rep r
 | cons x l=>show (l++List.replicate r ByteArray.empty).countP nz=l.countP nz; rw [List.countP_append,cnt_rep]; rfl
theorem cnt_set {l:List ByteArray} {k:Nat} (x:ByteArray) (hk:k < l.length):cnt (l.set k x)=if k=0 then cnt l else cnt l - (if nz (l.getD k ByteArray.empty) then 1 else 0)+(if nz x then 1 else 0):=by
 cases l with
 | nil=>cases hk
 | cons y l=>
   cases k with
   | zero=>rfl
   | succ k=>
     rw [List.length_cons] at hk
     rw [List.set_cons_succ,if_neg (by omega)]
     show (l.set k x).countP nz= _
     rw [List.countP_set (by omega),List.getD_cons_succ,List.getD_eq_getElem?_getD,List.getElem?_eq_getElem (by omega)]; rfl
theorem setI_le (l:List ByteArray) (k:Nat):k < (l++List.replicate (k+1 - l.length) ByteArray.empty).length:=by rw [List.length_append,List.length_replicate]; omega
theorem cnt_setI (l:List ByteArray) (k:Nat) (x:ByteArray):cnt (setI l k x)≤cnt l+(if 1≤k∧x.size≠0 then 1 else 0):=by
 rw [setI,cnt_set x (setI_le l k),cnt_app]
 by_cases h0:k=0
 ·rw [if_pos h0]; omega
 ·rw [if_neg h0]
  by_cases hx:x.size=0
  ·rw [show nz x=false by simp [nz,hx],if_neg (c:=1≤k∧x.size≠0) (by omega)]; split<;>simp
  ·rw [show nz x=true by simp [nz,hx],if_pos (c:=1≤k∧x.size≠0) (by omega)]; split<;>simp
theorem cnt_clr {l:List ByteArray} {k:Nat} {y:ByteArray} (h1:1≤k) (hy:l[k]? =some y) (hz:y.size≠0):cnt (setI l k ByteArray.empty)+1≤cnt l:=by
 obtain ⟨hk,rfl⟩:=List.getElem?_eq_some_iff.1 hy
 have hpos:0 < cnt l:=by
  cases l with
  | nil=>cases hk
  | cons x l=>
    rw [List.length_cons] at hk
    refine List.countP_pos_iff.2 ⟨l[k - 1]'(by omega),List.getElem_mem _,?_⟩
    obtain ⟨k,rfl⟩:∃ m,k=m+1:=⟨k - 1,by omega⟩
    simpa [nz] using hz
 rw [setI,cnt_set _ (setI_le l k),cnt_app,if_neg (by omega),nz_empty,List.getD_eq_getElem?_getD,List.getElem?_append_left hk,hy,Option.getD_some,show nz l[k]=true by simp [nz,hz],if_pos rfl,if_neg (by decide)]
 omega
/-- entries in page i -/
def cntAt (ps:List PgS) (i:Nat):Nat:=cnt (ps.getD i pgs0).2.2
theorem do1_other {ps:List PgS} {e:EdT} {i:Nat} (h:e.1≠(i:Int)):(do1B ps e).getD i pgs0=ps.getD i pgs0:=by
 unfold do1B
 split
 ·rename_i hok
  have hok:=of_decide_eq_true hok
  rw [List.getD_eq_getElem?_getD,List.getElem?_set_ne (by omega),← List.getD_eq_getElem?_getD]
 ·rfl
theorem doB_other {i:Nat}:∀ {L:List EdT} {ps:List PgS},(∀ e∈L,e.1≠(i:Int))→(doB ps L).getD i pgs0=ps.getD i pgs0
 | [], _, _=>rfl
 | e::L,ps,h=>by
   show (doB (do1B ps e) L).getD i pgs0= _
   rw [doB_other (L:=L) fun x hx=>h x (by simp [hx]),do1_other (h e (by simp))]
theorem do1_at {ps:List PgS} {e:EdT} {i:Nat} (hok:edOk ps.length e=true) (h:e.1=(i:Int)):(do1B ps e).getD i pgs0=edP (ps.getD i pgs0) e:=by
 have hb:=of_decide_eq_true hok
 rw [do1B,if_pos hok,h,Int.toNat_natCast,List.getD_eq_getElem?_getD,List.getElem?_set_self (by omega)]; rfl
theorem do1_bad {ps:List PgS} {e:EdT} (hok:edOk ps.length e=false):do1B ps e=ps:=by rw [do1B,hok]; rfl
theorem cntAt_do1 (ps:List PgS) (e:EdT) (i:Nat):cntAt (do1B ps e) i≤cntAt ps i+(if e.1=(i:Int)∧1≤e.2.1∧e.2.2.size≠0 then 1 else 0):=by
 by_cases h:e.1=(i:Int)
 ·cases hok:edOk ps.length e with
  | false=>rw [do1_bad hok]; omega
  | true=>
    rw [cntAt,do1_at hok h,edP]
    by_cases hs:e.2.1 < 0
    ·rw [if_pos hs]; exact Nat.zero_le _
    ·rw [if_neg hs]
     refine Nat.le_trans (cnt_setI _ _ _) ?_
     show cntAt ps i+ _≤ _
     by_cases hc:1≤e.2.1∧e.2.2.size≠0
     ·rw [if_pos (c:=e.1=(i:Int)∧1≤e.2.1∧e.2.2.size≠0) ⟨h,hc⟩]; split<;>omega
     ·rw [if_neg (c:=1≤e.2.1.toNat∧e.2.2.size≠0) (fun hh=>hc ⟨by omega,hh.2⟩)]; omega
 ·rw [cntAt,do1_other h]; exact Nat.le_add_right _ _
theorem cntAt_do0 {ps:List PgS} {e:EdT} {i:Nat} (h:¬ (e.1=(i:Int)∧1≤e.2.1∧e.2.2.size≠0)):cntAt (do1B ps e) i≤cntAt ps i:=by
 have:=cntAt_do1 ps e i
 rwa [if_neg h] at this
theorem cntAt_clr {i:Nat}:∀ {L:List EdT} {ps:List PgS},(∀ e∈L,¬ (e.1=(i:Int)∧1≤e.2.1∧e.2.2.size≠0))→cntAt (doB ps L) i≤cntAt ps i
 | [], _, _=>Nat.le_refl _
 | e::L,ps,h=>Nat.le_trans (cntAt_clr (L:=L) (ps:=do1B ps e) fun x hx=>h x (by simp [hx])) (cntAt_do0 (h e (by simp)))
theorem clearE_no (pg:Int) (es:List EnD) (i:Nat):∀ e∈clearE pg es,¬ (e.1=(i:Int)∧1≤e.2.1∧e.2.2.size≠0):=fun e he h=>by
 obtain ⟨x, _,rfl⟩:=List.mem_map.1 he
 exact h.2.2 rfl
theorem itsE_pg {pg lv:Int}:∀ {es:List EnD} {k:Nat},∀ e∈itsE pg lv k es,e.1=pg
 | [], _,e,h=>nomatch h
 | x::l,k,e,h=>by
   rw [itsE] at h
   rcases List.mem_cons.1 h with rfl | h
   ·rfl
   ·exact itsE_pg e h
theorem freshE_pg {pg lv rt:Int} {hi:ByteArray} {es:List EnD}:∀ e∈freshE pg lv rt hi es,e.1=pg:=fun e he=>by
 rcases List.mem_append.1 he with h | h
 ·simp only [List.mem_cons,List.not_mem_nil,or_false] at h
  rcases h with rfl | rfl<;>rfl
 ·exact itsE_pg e h
theorem cntAt_its {pg lv:Int} {i:Nat}:∀ {es:List EnD} {k:Nat} {ps:List PgS},cntAt (doB ps (itsE pg lv k es)) i≤cntAt ps i+es.length
 | [], _, _=>Nat.le_refl _
 | x::l,k,ps=>by
   rw [itsE]
   have h1:=cntAt_its (pg:=pg) (lv:=lv) (i:=i) (es:=l) (k:=k+1) (ps:=do1B ps (pg,(k:Int),itB lv x.2.2 x.1))
   have h2:=cntAt_do1 ps (pg,(k:Int),itB lv x.2.2 x.1) i
   show cntAt (doB (do1B ps _) _) i≤ _
   rw [List.length_cons]
   split at h2<;>omega
theorem doB_app (ps:List PgS) (a b:List EdT):doB ps (a++b)=doB (doB ps a) b:=List.foldl_append
theorem cntAt_out {ps:List PgS} {i:Nat} (h:ps.length≤i):cntAt ps i=0:=by
 rw [cntAt,List.getD_eq_getElem?_getD,List.getElem?_eq_none h]; rfl
theorem cntAt_fresh (pg lv rt:Int) (hi:ByteArray) (es:List EnD) (ps:List PgS) (i:Nat):cntAt (doB ps (freshE pg lv rt hi es)) i≤if pg=(i:Int) then es.length else cntAt ps i:=by
 by_cases h:pg=(i:Int)
 ·rw [if_pos h]
  by_cases hl:ps.length≤i
  ·rw [cntAt_out (by rw [doB_len]; exact hl)]; exact Nat.zero_le _
  ·rw [freshE,doB_app]
   refine Nat.le_trans cntAt_its ?_
   have h1:cntAt (do1B ps (pg, -1,strOfNums [2])) i=0:=by
    rw [cntAt,do1_at (decide_eq_true (by dsimp only; omega)) h]; rfl
   have h2:=cntAt_do0 (ps:=do1B ps (pg, -1,strOfNums [2])) (e:=(pg,0,hdB lv rt false hi)) (i:=i) (fun hh=>by have:=hh.2.1; dsimp only at this; omega)
   show cntAt (do1B (do1B ps (pg, -1,strOfNums [2])) (pg,0,hdB lv rt false hi)) i+es.length≤ _
   omega
 ·rw [if_neg h,cntAt,doB_other fun e he=>by rw [freshE_pg e he]; exact h]; exact Nat.le_refl _
def C8 (ps:List PgS):Prop:=∀ i,cntAt ps i≤8
theorem C8.okc {ps:List PgS} (h:C8 ps):OkC ps:=fun p hp=>by
 obtain ⟨i,hi,rfl⟩:=List.getElem_of_mem hp
 have h1:=h i
 rw [cntAt,List.getD_eq_getElem?_getD,List.getElem?_eq_getElem hi,Option.getD_some,cnt] at h1
 rw [rawE_cnt]; omega
/-- a node and its page -/
theorem nd_cnt {ps:List PgS} {x:Int} {n:NoD} (h:ndAt ps x=some n):0≤x∧x < ps.length∧n.es.length=cntAt ps x.toNat∧(∀ e∈n.es,1≤e.2.1∧∃ y,(ps.getD x.toNat pgs0).2.2[e.2.1]? =some y∧y.size≠0):=by
 unfold ndAt at h
 split at h
 ·rename_i hx
  obtain ⟨y,l,h1,h2,h3,rfl⟩:=nodF_inv h
  refine ⟨hx.1,hx.2,?_,fun e he=>?_⟩
  ·show (srt _ (rawE 1 l)).length= _
   rw [srt_len,rawE_cnt,cntAt,h1]; rfl
  ·have hm:∃ p∈rawE 1 l,e=parE (numS y 0 1) p:=by
    obtain ⟨p,hp,rfl⟩:=List.mem_map.1 (List.mem_reverse.1 (sortR_mem (List.mem_reverse.1 he)))
    exact ⟨p,hp,rfl⟩
   obtain ⟨⟨s,z⟩,hp,rfl⟩:=hm
   obtain ⟨h4,h5,h6⟩:=rawE_at hp
   have h7:(parE (numS y 0 1) (s,z)).2.1=s:=by unfold parE; split<;>rfl
   rw [h7,h1]
   refine ⟨h4,z,?_,h6⟩
   rw [show s=(s - 1)+1 by omega,List.getElem?_cons_succ]; exact h5
 ·cases h
theorem grow_c8 {ps:List PgS} {pos fresh:Int} {n:NoD} (h:C8 ps) (hok:OkS ps) (hn:ndAt ps pos=some n) (hl8:¬ n.es.length < 8) (hf:fresh≠pos):C8 (doB ps (growE pos n fresh)):=by
  intro i
  obtain ⟨hx0,hx1,hlen,hsl⟩:=nd_cnt hn
  rw [growE,doB_app,doB_app,doB_app]
  obtain ⟨ps1,hp1⟩:∃ z,doB ps (freshE fresh n.lv (-1) ByteArray.empty n.es)=z:=⟨_,rfl⟩
  have h1:=cntAt_fresh fresh n.lv (-1) ByteArray.empty n.es ps i
  rw [hp1] at h1 ⊢
  have h2:=cntAt_do0 (ps:=ps1) (e:=(pos,0,hdB (n.lv+1) (-1) false ByteArray.empty)) (i:=i) (fun hh=>by have:=hh.2.1; dsimp only at this; omega)
  obtain ⟨ps2,hp2⟩:∃ z,do1B ps1 (pos,0,hdB (n.lv+1) (-1) false ByteArray.empty)=z:=⟨_,rfl⟩
  rw [hp2] at h2
  show cntAt (do1B (doB (do1B ps1 (pos,0,hdB (n.lv+1) (-1) false ByteArray.empty)) (clearE pos n.es)) (pos,1,itB 1 fresh leastB)) i≤8
  rw [hp2]
  have h3:=cntAt_clr (ps:=ps2) (clearE_no pos n.es i)
  have h4:=cntAt_do1 (doB ps2 (clearE pos n.es)) (pos,1,itB 1 fresh leastB) i
  by_cases hi:(pos:Int)=(i:Int)
  ·rw [if_neg (by omega)] at h1
   have hpi:pos.toNat=i:=by omega
   rw [hpi] at hsl hlen
   have h8:=h i
   match hes:n.es with
   | []=>rw [hes] at hl8; exact absurd hl8 (by decide)
   | e0::er=>
     obtain ⟨hs1,y,hy,hyz⟩:=hsl e0 (by rw [hes]; simp)
     have hg1:ps1.getD i pgs0=ps.getD i pgs0:=by rw [← hp1]; exact doB_other fun e he=>by rw [freshE_pg e he]; omega
     have hl1:ps1.length=ps.length:=by rw [← hp1,doB_len]
     have hg2:(ps2.getD i pgs0).2.2=setI (ps.getD i pgs0).2.2 0 (hdB (n.lv+1) (-1) false ByteArray.empty):=by
      rw [← hp2,do1_at (decide_eq_true (by dsimp only; omega)) hi,hg1]; rfl
     have hl2:ps2.length=ps.length:=by rw [← hp2,do1B_len,hl1]
     have hsy:(setI (ps.getD i pgs0).2.2 0 (hdB (n.lv+1) (-1) false ByteArray.empty))[e0.2.1]? =some y:=by
      rw [setI,List.getElem?_set_ne (by omega)]
      obtain ⟨hk, _⟩:=List.getElem?_eq_some_iff.1 hy
      rw [List.getElem?_append_left hk]; exact hy
     have h100:(e0.2.1:Int)≤100:=by
      obtain ⟨hk, _⟩:=List.getElem?_eq_some_iff.1 hy
      have h101:=hok.its _ (getD_mem' (l:=ps) (n:=i) (d:=pgs0) (by omega)).2
      omega
     have h5:cntAt (do1B ps2 (pos,(e0.2.1:Int),ByteArray.empty)) i+1≤cntAt ps2 i:=by
      rw [cntAt,do1_at (decide_eq_true (by dsimp only; omega)) hi,cntAt,edP,if_neg (by dsimp only; omega),hg2]
      exact cnt_clr hs1 hsy hyz
     have h6:=cntAt_clr (ps:=do1B ps2 (pos,(e0.2.1:Int),ByteArray.empty)) (clearE_no pos er i)
     have h7:doB ps2 (clearE pos (e0::er))=doB (do1B ps2 (pos,(e0.2.1:Int),ByteArray.empty)) (clearE pos er):=rfl
     rw [hes] at h4
     rw [h7] at h4 ⊢
     split at h4<;>omega
  ·rw [if_neg (by dsimp only; omega)] at h4
   have h8:=h i
   have h9:=h pos.toNat
   split at h1<;>omega
theorem cut_c8 {ps:List PgS} {pos fresh:Int} {n:NoD} (h:C8 ps) (hn:ndAt ps pos=some n):C8 (doB ps (cutE pos n fresh)):=by
  intro i
  obtain ⟨hx0,hx1,hlen,hsl⟩:=nd_cnt hn
  rw [cutE,doB_app,doB_app]
  have h1:=cntAt_fresh fresh n.lv n.right n.high (halfE n) ps i
  have h2:=cntAt_do0 (ps:=doB ps (freshE fresh n.lv n.right n.high (halfE n))) (e:=(pos,0,hdB n.lv fresh false (midE n))) (i:=i) (fun hh=>by have:=hh.2.1; dsimp only at this; omega)
  have h3:=cntAt_clr (ps:=do1B (doB ps (freshE fresh n.lv n.right n.high (halfE n))) (pos,0,hdB n.lv fresh false (midE n))) (clearE_no pos (halfE n) i)
  have hh:(halfE n).length≤n.es.length:=by rw [halfE,List.length_drop]; omega
  have h8:=h i
  have h9:=h pos.toNat
  refine Nat.le_trans h3 (Nat.le_trans h2 ?_)
  split at h1<;>omega
theorem put_c8 {ps:List PgS} {pos s:Int} {x:ByteArray} {n:NoD} (h:C8 ps) (hn:ndAt ps pos=some n) (hl8:n.es.length < 8):C8 (doB ps [(pos,s,x)]):=by
 intro i
 obtain ⟨hx0,hx1,hlen,hsl⟩:=nd_cnt hn
 refine Nat.le_trans (cntAt_do1 ps _ i) ?_
 dsimp only
 have h8:=h i
 split
 ·rename_i hc
  have:i=pos.toNat:=by omega
  subst this; omega
 ·exact h8
theorem step_c8 {ps:List PgS} {p:PuT} {fresh:Int} (h:C8 ps) (hok:OkS ps) (hf:fresh≠p.root):C8 (doB ps (stepF ps p fresh).2.eds):=by
 obtain ⟨root,pos,leaf,left,fro,to,spl⟩:=p
 have hnil:C8 (doB ps []):=h
 cases left with
 | nil=>exact hnil
 | cons t lf=>
   obtain ⟨te,tl,tk⟩:=t
   rcases hnd:ndAt ps pos with _ | n
   ·rw [st_none hnd]; exact hnil
   ·cases hs:sndB n.dead n.high te with
    | true=>
      by_cases hr:n.right < 0
      ·rw [st_lost hnd hs hr]; exact hnil
      ·rw [st_right hnd hs hr]; exact hnil
    | false=>
      by_cases hl:tl < n.lv
      ·rw [st_down hnd hs hl]; exact hnil
      ·by_cases hm:n.lv < tl
       ·rw [st_form hnd hs hl hm]; exact hnil
       ·cases ht:hasE n.es te with
        | true=>rw [st_there hnd hs hl hm ht]; exact hnil
        | false=>
          by_cases h8:n.es.length < 8
          ·rw [st_put hnd hs hl hm ht h8]; exact put_c8 h hnd h8
          ·by_cases hfr:fresh < 0
           ·rw [st_full hnd hs hl hm ht h8 hfr]; exact hnil
           ·by_cases hr:pos=root
            ·rw [st_grow hnd hs hl hm ht h8 hfr hr]; subst hr; exact grow_c8 h hok hnd h8 hf
            ·rw [st_cut hnd hs hl hm ht h8 hfr hr]; exact cut_c8 h hnd
theorem root_step (ps:List PgS) (p:PuT) (fresh:Int):(stepF ps p fresh).1.root=p.root:=by
 unfold stepF
 dsimp only
 split
 ·rfl
 ·split
  ·rfl
  ·repeat' split
   all_goals rfl
theorem run_ok:∀ (j:Nat) {M k:Nat} {ps:List PgS} {nx:Int} {p:PuT},BdM M ps→ps.length=60→C8 ps→1≤nx→p.root=0→PuM M k p→M+10*j≤900000→BdM (M+10*j) (runF j ps nx p).1∧(runF j ps nx p).1.length=60∧C8 (runF j ps nx p).1∧1≤(runF j ps nx p).2
 | 0,M,k,ps,nx,p,h1,h2,h3,h4,h5,h6,h7=>⟨h1,h2,h3,h4⟩
 | j+1,M,k,ps,nx,p,h1,h2,h3,h4,h5,h6,h7=>by
   by_cases hl:p.left=[]
   ·rw [runF_nil _ _ _ hl]; exact ⟨h1.mono (by omega),h2,h3,h4⟩
   ·rw [runF_step hl]
    have hs:=step_sz (fresh:=nx) h1 h6
    have hok:=h1.ok (by omega) (by omega)
    have h8:=run_ok j (M:=M+10) (k:=k+1) (ps:=doB ps (stepF ps p nx).2.eds) (nx:=if (stepF ps p nx).2.used then nx+1 else nx) (p:=(stepF ps p nx).1) ((h1.mono (by omega)).do hs.1) (by rw [doB_len]; exact h2) (step_c8 h3 hok (by omega)) (by split<;>omega) (by rw [root_step]; exact h5) hs.2 (by omega)
    rw [show M+10*(j+1)=M+10+10*j by omega]; exact h8
theorem blank_c8 (n:Nat):C8 (blankF n):=fun i=>by
 refine Nat.le_trans (cntAt_clr fun e he h=>?_) ?_
 ·simp only [begF,List.mem_cons,List.not_mem_nil,or_false] at he
  rcases he with rfl | rfl<;>(have:=h.2.1; dsimp only at this; omega)
 ·rw [cntAt,List.getD_eq_getElem?_getD]
  by_cases hi:i < n
  ·rw [List.getElem?_eq_getElem (by rw [List.length_replicate]; exact hi),List.getElem_replicate]; decide
  ·rw [List.getElem?_eq_none (by rw [List.length_replicate]; omega)]; decide
theorem put_sz (x:Int) (pg sl:Int) (M:Nat) (hM:16≤M):PuM M 1 (putT 0 (keyF x) pg sl):=⟨fun t ht=>by
 rw [putT,List.mem_singleton] at ht
 subst ht
 have:=keyF_size x
 exact ⟨by rw [entF_size]; omega,Int.le_refl 0,by show (0:Int)≤ _; omega⟩,Nat.le_refl _⟩
theorem grw_ok (l:List Int):∀ (i:Nat),i≤90→BdM (16+600*i) (grwF l i).1∧(grwF l i).1.length=60∧C8 (grwF l i).1∧1≤(grwF l i).2
 | 0, _=>⟨(blank_sz 60).1,(blank_sz 60).2,blank_c8 60,Int.le_refl 1⟩
 | i+1,h=>by
   obtain ⟨h1,h2,h3,h4⟩:=grw_ok l i (by omega)
   rw [grwF]
   have h5:=run_ok 60 h1 h2 h3 h4 (p:=putT 0 (keyF (l.getD i 0)) (1+(i:Int) / 8) (1+(i:Int) % 8)) rfl (put_sz _ _ _ _ (by omega)) (by omega)
   rw [show 16+600*(i+1)=16+600*i+10*60 by omega]; exact h5
end
section
open Go.RowKit
/-- the first node of a level, k nodes looked at -/
def dscF (ps:List PgS) (lv:Int):Nat→Int→Option (Int×NoD)
 | 0, _=>none
 | k+1,x=>match ndAt ps x with
   | none=>none
   | some n=>if n.lv=lv then some (x,n) else if n.lv < lv∨n.es.length=0 then none else dscF ps lv k (n.es.getD 0 en0).2.2
/-- a level from a node on -/
def chnF (ps:List PgS) (lv:Int):Nat→Int→List (Int×NoD)
 | 0, _=>[]
 | k+1,x=>match ndAt ps x with
   | none=>[]
   | some n=>if n.lv=lv then (x,n)::chnF ps lv k n.right else []
def rowF (ps:List PgS) (root lv:Int):List (Int×NoD):=match dscF ps lv 1000 root with
 | none=>[]
 | some (x, _)=>chnF ps lv 1000 x
/-- all entries in order -/
def allF (ps:List PgS) (root:Int):List EnD:=(rowF ps root 0).flatMap fun x=>x.2.es
theorem dsc_none {ps:List PgS} {lv x:Int} {k:Nat} (h:ndAt ps x=none):dscF ps lv k x=none:=by
 cases k with
 | zero=>rfl
 | succ k=>rw [dscF,h]
theorem dsc_hit {ps:List PgS} {lv x:Int} {k:Nat} {n:NoD} (h:ndAt ps x=some n) (hl:n.lv=lv):dscF ps lv (k+1) x=some (x,n):=by rw [dscF,h]; exact if_pos hl
theorem dsc_miss {ps:List PgS} {lv x:Int} {k:Nat} {n:NoD} (h:ndAt ps x=some n) (hl:n.lv≠lv) (h2:n.lv < lv∨n.es.length=0):dscF ps lv k x=none:=by
 cases k with
 | zero=>rfl
 | succ k=>rw [dscF,h]; dsimp only; rw [if_neg hl,if_pos h2]
theorem dsc_down {ps:List PgS} {lv x:Int} {k:Nat} {n:NoD} (h:ndAt ps x=some n) (hl:lv < n.lv) (h2:n.es.length≠0):dscF ps lv (k+1) x=dscF ps lv k (n.es.getD 0 en0).2.2:=by rw [dscF,h]; dsimp only; rw [if_neg (by omega),if_neg (by omega)]
theorem chn_none {ps:List PgS} {lv x:Int} {k:Nat} (h:ndAt ps x=none):chnF ps lv k x=[]:=by
 cases k with
 | zero=>rfl
 | succ k=>rw [chnF,h]
theorem chn_hit {ps:List PgS} {lv x:Int} {k:Nat} {n:NoD} (h:ndAt ps x=some n) (hl:n.lv=lv):chnF ps lv (k+1) x=(x,n)::chnF ps lv k n.right:=by rw [chnF,h]; exact if_pos hl
theorem chn_miss {ps:List PgS} {lv x:Int} {k:Nat} {n:NoD} (h:ndAt ps x=some n) (hl:n.lv≠lv):chnF ps lv k x=[]:=by
 cases k with
 | zero=>rfl
 | succ k=>rw [chnF,h]; exact if_neg hl
theorem chn_at {ps:List PgS} {lv:Int}:∀ {k:Nat} {x:Int},∀ y∈chnF ps lv k x,ndAt ps y.1=some y.2∧y.2.lv=lv
 | k+1,x,y,h=>by
   rw [chnF] at h
   split at h
   ·cases h
   ·rename_i m hm
    split at h
    ·rename_i hl
     rcases List.mem_cons.1 h with rfl | h
     ·exact ⟨hm,hl⟩
     ·exact chn_at y h
    ·cases h
theorem chn_len (ps:List PgS) (lv:Int):∀ (k:Nat) (x:Int),(chnF ps lv k x).length≤k
 | 0, _=>Nat.le_refl _
 | k+1,x=>by
   rw [chnF]
   split
   ·exact Nat.zero_le _
   ·split
    ·rw [List.length_cons]; have:=chn_len ps lv k (by assumption:NoD).right; omega
    ·exact Nat.zero_le _
theorem row_len (ps:List PgS) (root lv:Int):(rowF ps root lv).length≤1000:=by
 unfold rowF
 split
 ·exact Nat.zero_le _
 ·exact chn_len _ _ _ _
end
section
open Go.RowKit
theorem bytesLess_trans:∀ {a b c:List UInt8},Op.bytesLess a b=true→Op.bytesLess b c=true→Op.bytesLess a c=true
 | [],[], _,h, _=>by simp [Op.bytesLess] at h
 | [], _:: _,[], _,h=>by simp [Op.bytesLess] at h
 | [], _:: _, _:: _, _, _=>by simp [Op.bytesLess]
 | _:: _,[], _,h, _=>by simp [Op.bytesLess] at h
 | _:: _, _:: _,[], _,h=>by simp [Op.bytesLess] at h
 | x::a,y::b,z::c,h1,h2=>by
   simp only [Op.bytesLess,Bool.or_eq_true,Bool.and_eq_true,decide_eq_true_eq,beq_iff_eq] at h1 h2 ⊢
   rcases h1 with h1 | ⟨rfl,h1⟩
   ·rcases h2 with h2 | ⟨rfl,h2⟩
    ·exact .inl (UInt8.lt_trans h1 h2)
    ·exact .inl h1
   ·rcases h2 with h2 | ⟨rfl,h2⟩
    ·exact .inl h2
    ·exact .inr ⟨rfl,bytesLess_trans h1 h2⟩
theorem ltB_trans {a b c:ByteArray} (h1:ltB a b=true) (h2:ltB b c=true):ltB a c=true:=bytesLess_trans h1 h2
theorem lessF_iff (a b:ByteArray):lessF a b=true↔ltB (okF a) (okF b)=true∨(okF a=okF b∧(opF a < opF b∨(opF a=opF b∧osF a < osF b))):=by
 rw [lessF_ref]
 by_cases hk:okF a=okF b
 ·rw [if_neg (by simp [hk])]
  by_cases hp:opF a=opF b
  ·rw [if_neg (by simp [hp]),hk,ltB_irr]
   simp [hp]
  ·rw [if_pos hp,hk,ltB_irr]
   simp [hp]
 ·rw [if_pos hk]
  simp [hk]
theorem lessF_trans {a b c:ByteArray} (h1:lessF a b=true) (h2:lessF b c=true):lessF a c=true:=by
 rw [lessF_iff] at h1 h2 ⊢
 rcases h1 with h1 | ⟨k1,h1⟩
 ·rcases h2 with h2 | ⟨k2,h2⟩
  ·exact .inl (ltB_trans h1 h2)
  ·exact .inl (k2 ▸ h1)
 ·rcases h2 with h2 | ⟨k2,h2⟩
  ·exact .inl (k1 ▸ h2)
  ·refine .inr ⟨k1.trans k2,?_⟩
   omega
/-- not less, less: less -/
theorem lessF_le_lt {a b c:ByteArray} (ha:4≤a.size) (hb:4≤b.size) (h1:lessF b a=false) (h2:lessF b c=true):lessF a c=true:=by
 cases h3:lessF a b with
 | true=>exact lessF_trans h3 h2
 | false=>rw [lessF_total ha hb h3 h1]; exact h2
theorem lessF_lt_le {a b c:ByteArray} (hb:4≤b.size) (hc:4≤c.size) (h1:lessF a b=true) (h2:lessF c b=false):lessF a c=true:=by
 cases h3:lessF b c with
 | true=>exact lessF_trans h1 h3
 | false=>rw [← lessF_total hb hc h3 h2]; exact h1
theorem lessF_le_le {a b c:ByteArray} (ha:4≤a.size) (hb:4≤b.size) (h1:lessF b a=false) (h2:lessF c b=false):lessF c a=false:=by
 cases h3:lessF c a with
 | false=>rfl
 | true=>
   cases h4:lessF a b with
   | true=>rw [lessF_trans h3 h4] at h2; exact h2
   | false=>rw [lessF_total ha hb h4 h1] at h3; rw [h3] at h2; exact h2
/-- down finds the last entry that x does not stand ahead of -/
theorem downF_skip {x:ByteArray} {d:Int} (hd:0≤d):∀ {l:List EnD},(∀ e∈l,lessF x e.1=true)→downF x l d=d
 | [], _=>rfl
 | e::l,h=>by
   rw [downF,if_neg (by rw [h e (by simp)]; simp; omega)]
   exact downF_skip hd (fun y hy=>h y (by simp [hy]))
theorem downF_hit {x:ByteArray} {e:EnD} {l2:List EnD} (hk:0≤e.2.2) (he:lessF x e.1=false) (h2:∀ y∈l2,lessF x y.1=true):∀ {l1:List EnD} {d:Int},downF x (l1++e::l2) d=e.2.2
 | [],d=>by
   rw [List.nil_append,downF,if_pos (.inr he)]
   exact downF_skip hk h2
 | y::l1,d=>by
   rw [List.cons_append,downF]
   exact downF_hit hk he h2
-- items put and cleared
theorem setI_cons (y:ByteArray) (l:List ByteArray) (k:Nat) (x:ByteArray):setI (y::l) (k+1) x=y::setI l k x:=by
 rw [setI,setI,List.length_cons,Nat.add_sub_add_right,List.cons_append,List.set_cons_succ]
theorem setI_zero (y:ByteArray) (l:List ByteArray) (x:ByteArray):setI (y::l) 0 x=x::l:=by
 rw [setI,List.length_cons,show 0+1 - (l.length+1)=0 by omega,List.replicate_zero,List.append_nil]; rfl
theorem setI_nil (k:Nat) (x:ByteArray):setI [] (k+1) x=ByteArray.empty::setI [] k x:=by
 rw [setI,setI]; rfl
theorem rawE_zero {i:Nat} {x:ByteArray} {l:List ByteArray} (h:x.size=0):rawE i (x::l)=rawE (i+1) l:=by rw [rawE,if_pos h]
theorem rawE_one {i:Nat} {x:ByteArray} {l:List ByteArray} (h:x.size≠0):rawE i (x::l)=(i,x)::rawE (i+1) l:=by rw [rawE,if_neg h]
theorem rawE_set {x:ByteArray} (hx:x.size≠0):∀ (l:List ByteArray) (k i:Nat),(l.getD k ByteArray.empty).size=0→(rawE i (setI l k x)).Perm ((i+k,x)::rawE i l)
 | [],0,i, _=>by
   rw [show setI [] 0 x=[x] from rfl,rawE_one hx]; exact List.Perm.refl _
 | [],k+1,i, _=>by
   rw [setI_nil,rawE_zero rfl,show i+(k+1)=(i+1)+k by omega]
   exact rawE_set hx [] k (i+1) rfl
 | y::l,0,i,h=>by
   rw [setI_zero,rawE_one hx,rawE_zero (x:=y) h]; exact List.Perm.refl _
 | y::l,k+1,i,h=>by
   rw [List.getD_cons_succ] at h
   rw [setI_cons,show i+(k+1)=(i+1)+k by omega]
   by_cases hy:y.size=0
   ·rw [rawE_zero hy,rawE_zero hy]; exact rawE_set hx l k (i+1) h
   ·rw [rawE_one hy,rawE_one hy]
    exact ((rawE_set hx l k (i+1) h).cons _).trans (List.Perm.swap _ _ _)
theorem setI_back {l:List ByteArray} {k:Nat} {y x:ByteArray} (h:l[k]? =some y):setI (setI l k x) k y=l:=by
 obtain ⟨hk,rfl⟩:=List.getElem?_eq_some_iff.1 h
 have e:∀ z,setI l k z=l.set k z:=fun z=>by rw [setI,show k+1 - l.length=0 by omega,List.replicate_zero,List.append_nil]
 rw [e,setI,List.length_set,show k+1 - l.length=0 by omega,List.replicate_zero,List.append_nil,List.set_set]
 exact List.set_getElem_self hk
theorem setI_get (l:List ByteArray) (k:Nat) (x:ByteArray):(setI l k x).getD k ByteArray.empty=x:=by
 rw [setI,List.getD_eq_getElem?_getD,List.getElem?_set_self (setI_le l k)]; rfl
theorem rawE_clr {l:List ByteArray} {k i:Nat} {y:ByteArray} (h:l[k]? =some y) (hy:y.size≠0):(rawE i l).Perm ((i+k,y)::rawE i (setI l k ByteArray.empty)):=by
 have h1:=rawE_set hy (setI l k ByteArray.empty) k i (by rw [setI_get]; rfl)
 rwa [setI_back h] at h1
-- the sorted list
theorem insR_perm (x:EnD):∀ l,(insR x l).Perm (x::l)
 | []=>List.Perm.refl _
 | y::l=>by
   rw [insR]
   split
   ·exact ((insR_perm x l).cons y).trans (List.Perm.swap _ _ _)
   ·exact List.Perm.refl _
theorem sortR_perm:∀ l,(sortR l).Perm l
 | []=>List.Perm.refl _
 | x::l=>(insR_perm x (sortR l)).trans ((sortR_perm l).cons x)
theorem srt_perm (lv:Int) (l:List (Nat×ByteArray)):(srt lv l).Perm (l.map (parE lv)):=by
 rw [srt]
 exact (List.reverse_perm _).trans ((sortR_perm _).trans (List.reverse_perm _))
theorem insR_sorted {x:EnD}:∀ {l:List EnD},(∀ e∈l,4≤e.1.size)→l.Pairwise (fun a b=>lessF a.1 b.1=false)→(insR x l).Pairwise (fun a b=>lessF a.1 b.1=false)
 | [], _, _=>List.pairwise_singleton _ _
 | y::l,h4,hp=>by
   obtain ⟨h1,h2⟩:=List.pairwise_cons.1 hp
   rw [insR]
   split
   ·rename_i hx
    refine List.pairwise_cons.2 ⟨fun z hz=>?_,insR_sorted (fun e he=>h4 e (by simp [he])) h2⟩
    rcases insR_mem hz with rfl | hz
    ·exact lessF_asym hx
    ·exact h1 z hz
   ·rename_i hx
    have hx:lessF x.1 y.1=false:=by simpa using hx
    refine List.pairwise_cons.2 ⟨fun z hz=>?_,hp⟩
    rcases List.mem_cons.1 hz with rfl | hz
    ·exact hx
    ·exact lessF_le_le (h4 z (by simp [hz])) (h4 y (by simp)) (h1 z hz) hx
theorem sortR_sorted:∀ {l:List EnD},(∀ e∈l,4≤e.1.size)→(sortR l).Pairwise (fun a b=>lessF a.1 b.1=false)
 | [], _=>List.Pairwise.nil
 | x::l,h4=>insR_sorted (fun e he=>h4 e (by simp [sortR_mem he])) (sortR_sorted fun e he=>h4 e (by simp [he]))
theorem srt_sorted {lv:Int} {l:List (Nat×ByteArray)} (h4:∀ e∈l.map (parE lv),4≤e.1.size):(srt lv l).Pairwise (fun a b=>lessF b.1 a.1=false):=by
 rw [srt,List.pairwise_reverse]
 exact sortR_sorted fun e he=>h4 e (List.mem_reverse.1 he)
/-- a node's entries stand in order -/
theorem nodF_sorted {k:Int} {its:List ByteArray} {n:NoD} (h:nodF k its=some n):n.es.Pairwise (fun a b=>lessF b.1 a.1=false)∧∀ e∈n.es,4≤e.1.size:=by
 have h0:=h
 unfold nodF at h
 split at h
 ·cases h
 ·split at h
  ·cases h
  ·rename_i x l
   split at h
   ·cases h
   ·split at h
    ·cases h
    ·rename_i hb
     injection h with h
     subst h
     have h4:∀ e∈(rawE 1 l).map (parE (numS x 0 1)),4≤e.1.size:=fun e he=>by
      obtain ⟨p,hp,rfl⟩:=List.mem_map.1 he
      have hbp:badE (numS x 0 1) p=false:=by
       cases hq:badE (numS x 0 1) p with
       | false=>rfl
       | true=>exact absurd (List.any_eq_true.2 ⟨p,hp,hq⟩) hb
      unfold badE at hbp
      unfold parE
      split at hbp
      ·rw [if_pos (by assumption)]
       have:=of_decide_eq_false hbp
       show 4≤(p.2.extract 0 (p.2.size - 2)).size
       rw [ByteArray.size_extract]; omega
      ·rw [if_neg (by assumption)]
       have:=of_decide_eq_false hbp
       show 4≤p.2.size
       omega
     refine ⟨srt_sorted h4,fun e he=>h4 e ?_⟩
     exact (srt_perm _ _).mem_iff.1 he
-- an entry as it is stored and read
theorem itB_sz (lv kid:Int) (x:ByteArray):(itB lv kid x).size=x.size+(if 0 < lv then 2 else 0):=by
 unfold itB; split
 ·rw [ByteArray.size_append,twoB_size]
 ·rfl
theorem parE_itB {lv kid:Int} {x:ByteArray} {k:Nat} (hk:0 < lv→0≤kid∧kid < 65536):parE lv (k,itB lv kid x)=(x,k,if 0 < lv then kid else -1):=by
 unfold parE itB
 by_cases h:0 < lv
 ·simp only [if_pos h]
  have e1:(x++twoB kid).extract 0 ((x++twoB kid).size - 2)=x:=by
   apply bl_inj
   rw [bl_extract,ByteArray.size_append,twoB_size,List.drop_zero,Nat.sub_zero,Nat.add_sub_cancel,bl_append,← bl_len,List.take_left']
   rfl
  have e0:(numS (x++twoB kid) x.size 2:Int)=kid % 65536:=by
   rw [← twoB_num]
   congr 1
   exact numS_at (a:=bl x) (b:=bl (twoB kid)) (c:=[]) (by rw [bl_append,List.append_nil]) (bl_len _) (bl_twoB_len _)
  have e2:(numS (x++twoB kid) ((x++twoB kid).size - 2) 2:Int)=kid:=by
   rw [ByteArray.size_append,twoB_size,Nat.add_sub_cancel,e0]; have:=hk h; omega
  rw [e1,e2]
 ·simp only [if_neg h]
theorem badE_itB {lv kid:Int} {x:ByteArray} {k:Nat} (h4:4≤x.size):badE lv (k,itB lv kid x)=false:=by
 have:=itB_sz lv kid x
 unfold badE
 by_cases h:0 < lv
 ·rw [if_pos h] at this ⊢; exact decide_eq_false (by dsimp only; omega)
 ·rw [if_neg h] at this ⊢; exact decide_eq_false (by dsimp only; omega)
/-- an item put into a free slot: the node's entries and one more -/
theorem nodF_put {kd:Int} {its:List ByteArray} {n:NoD} {s:Nat} {kid:Int} {x:ByteArray} (h:nodF kd its=some n) (hs:(its.getD (s+1) ByteArray.empty).size=0) (hk:0 < n.lv→0≤kid∧kid < 65536) (h4:4≤x.size):
  ∃ n',nodF kd (setI its (s+1) (itB n.lv kid x))=some n'∧n'.lv=n.lv∧n'.right=n.right∧n'.high=n.high∧n'.dead=n.dead∧n'.es.Perm ((x,s+1,if 0 < n.lv then kid else -1)::n.es):=by
 obtain ⟨y,l,rfl,rfl,hok,rfl⟩:=nodF_inv h
 have hz:(itB (numS y 0 1) kid x).size≠0:=by have:=itB_sz (numS y 0 1) kid x; omega
 rw [List.getD_cons_succ] at hs
 have hp:=rawE_set hz l s 1 hs
 have hbad:(rawE 1 l).any (badE (numS y 0 1))=false:=by
  cases hb:(rawE 1 l).any (badE (numS y 0 1)) with
  | false=>rfl
  | true=>simp [nodF,hok,hb] at h
 have hbad2:(rawE 1 (setI l s (itB (numS y 0 1) kid x))).any (badE (numS y 0 1))=false:=by
  rw [List.any_eq_false] at hbad ⊢
  intro p hpm
  rcases List.mem_cons.1 (hp.mem_iff.1 hpm) with rfl | hm
  ·rw [badE_itB h4]; decide
  ·exact hbad p hm
 dsimp only
 rw [setI_cons,nodF_good hok hbad2]
 refine ⟨_,rfl,rfl,rfl,rfl,rfl,?_⟩
 show (srt _ _).Perm (_::srt _ _)
 refine (srt_perm _ _).trans (((hp.map (parE (numS y 0 1))).trans ?_).trans ((srt_perm _ _).symm.cons _))
 rw [List.map_cons,parE_itB hk,Nat.add_comm 1 s]
/-- an entry's slot cleared: the other entries -/
theorem nodF_clr {kd:Int} {its:List ByteArray} {n:NoD} {e:EnD} (h:nodF kd its=some n) (he:e∈n.es):
  ∃ n',nodF kd (setI its e.2.1 ByteArray.empty)=some n'∧n'.lv=n.lv∧n'.right=n.right∧n'.high=n.high∧n'.dead=n.dead∧n.es.Perm (e::n'.es):=by
 obtain ⟨y,l,rfl,rfl,hok,rfl⟩:=nodF_inv h
 have hm:∃ p∈rawE 1 l,e=parE (numS y 0 1) p:=by
  obtain ⟨p,hp,rfl⟩:=List.mem_map.1 ((srt_perm _ _).mem_iff.1 he)
  exact ⟨p,hp,rfl⟩
 obtain ⟨⟨s,z⟩,hpz,rfl⟩:=hm
 obtain ⟨hs1,hg,hz⟩:=rawE_at hpz
 have hsl:(parE (numS y 0 1) (s,z)).2.1=s:=by unfold parE; split<;>rfl
 obtain ⟨t,rfl⟩:∃ t,s=t+1:=⟨s - 1,by omega⟩
 rw [Nat.add_sub_cancel] at hg
 have hp:=rawE_clr (i:=1) hg hz
 have hbad:(rawE 1 l).any (badE (numS y 0 1))=false:=by
  cases hb:(rawE 1 l).any (badE (numS y 0 1)) with
  | false=>rfl
  | true=>simp [nodF,hok,hb] at h
 have hbad2:(rawE 1 (setI l t ByteArray.empty)).any (badE (numS y 0 1))=false:=by
  rw [List.any_eq_false] at hbad ⊢
  intro p hpm
  exact hbad p (hp.mem_iff.2 (List.mem_cons_of_mem _ hpm))
 rw [hsl,setI_cons,nodF_good hok hbad2]
 refine ⟨_,rfl,rfl,rfl,rfl,rfl,?_⟩
 show (srt _ _).Perm (_::srt _ _)
 refine (srt_perm _ _).trans ((hp.map (parE (numS y 0 1))).trans ?_)
 rw [List.map_cons,Nat.add_comm 1 t]
 exact (srt_perm _ _).symm.cons _
-- a new head
theorem bl_two (a b:Int):bl (strOfNums [a,b])=bl (strOfNums [a])++bl (strOfNums [b]):=rfl
theorem hdB_lv {lv rt:Int} {d:Bool} {hi:ByteArray} (h:0≤lv∧lv≤255):(numS (hdB lv rt d hi) 0 1:Int)=lv:=by
 rw [numS_at (s:=hdB lv rt d hi) (p:=0) (k:=1) (a:=[]) (b:=bl (strOfNums [lv])) (c:=bl (strOfNums [if d then 1 else 0])++bl (twoB (rt+1))++bl hi) (by rw [hdB,bl_append,bl_append,bl_two]; simp) rfl (by rw [bl_len,strOfNums_size]; rfl)]
 obtain ⟨m,rfl⟩:=Int.eq_ofNat_of_zero_le h.1
 simp [strOfNums,bl,numL]
 omega
theorem hdB_d {lv rt:Int} {d:Bool} {hi:ByteArray}:numS (hdB lv rt d hi) 1 1=if d then 1 else 0:=by
 rw [numS_at (s:=hdB lv rt d hi) (a:=bl (strOfNums [lv])) (b:=bl (strOfNums [if d then 1 else 0])) (c:=bl (twoB (rt+1))++bl hi) (by rw [hdB,bl_append,bl_append,bl_two]; simp) (by rw [bl_len,strOfNums_size]; rfl) (by rw [bl_len,strOfNums_size]; rfl)]
 cases d<;>rfl
theorem hdB_rt {lv rt:Int} {d:Bool} {hi:ByteArray} (h: -1≤rt∧rt≤65534):(numS (hdB lv rt d hi) 2 2:Int) - 1=rt:=by
 rw [numS_at (s:=hdB lv rt d hi) (a:=bl (strOfNums [lv,if d then 1 else 0])) (b:=bl (twoB (rt+1))) (c:=bl hi) (by rw [hdB,bl_append,bl_append,List.append_assoc]) (by rw [bl_len,two_sz]) (bl_twoB_len _),twoB_num]
 omega
theorem hdB_hi (lv rt:Int) (d:Bool) (hi:ByteArray):(hdB lv rt d hi).extract 4 (hdB lv rt d hi).size=hi:=by
 apply bl_inj
 rw [bl_extract,hdB_size,Nat.add_sub_cancel,hdB,bl_append]
 rw [List.drop_left' (by rw [bl_len,ByteArray.size_append,two_sz,twoB_size]),List.take_of_length_le (by rw [bl_len]; exact Nat.le_refl _)]
theorem hdB_ok {lv rt:Int} {d:Bool} {hi:ByteArray} (h:hi.size=0∨4≤hi.size):hdOk (hdB lv rt d hi)=true:=by
 have h1:numS (hdB lv rt d hi) 1 1≤1:=by rw [hdB_d]; cases d<;>decide
 rw [hdOk,hdB_size,decide_eq_true h1,decide_eq_true (show 4≤hi.size+4 by omega)]
 rcases h with h | h
 ·rw [decide_eq_true (show hi.size+4≤4 by omega)]; rfl
 ·rw [decide_eq_true (show 8≤hi.size+4 by omega),Bool.or_true]; rfl
/-- a node behind a new head -/
theorem nodF_head {kd:Int} {its:List ByteArray} {n:NoD} {rt:Int} {d:Bool} {hi:ByteArray} (h:nodF kd its=some n) (hlv:n.lv≤255) (hrt: -1≤rt∧rt≤65534) (hhi:hi.size=0∨4≤hi.size):nodF kd (setI its 0 (hdB n.lv rt d hi))=some ⟨n.lv,rt,hi,d,n.es,n.free⟩:=by
 obtain ⟨y,l,rfl,rfl,hok,rfl⟩:=nodF_inv h
 have hbad:(rawE 1 l).any (badE (numS y 0 1))=false:=by
  cases hb:(rawE 1 l).any (badE (numS y 0 1)) with
  | false=>rfl
  | true=>simp [nodF,hok,hb] at h
 dsimp only at hlv ⊢
 have e1:=hdB_lv (lv:=(numS y 0 1:Int)) (rt:=rt) (d:=d) (hi:=hi) ⟨by omega,hlv⟩
 rw [setI_zero,nodF_good (hdB_ok hhi) (by rw [e1]; exact hbad),e1,hdB_rt hrt,hdB_hi,hdB_d]
 cases d<;>rfl
-- a fresh page
theorem setI_end (l:List ByteArray) (x:ByteArray):setI l l.length x=l++[x]:=by
 rw [setI,show l.length+1 - l.length=1 by omega,List.set_append_right _ _ (Nat.le_refl _),Nat.sub_self]; rfl
def itI (lv:Int) (es:List EnD):List ByteArray:=es.map fun e=>itB lv e.2.2 e.1
theorem its_page {lv:Int} {i:Nat}:∀ {es:List EnD} {k:Nat} {ps:List PgS} {L:List ByteArray},ps.getD i pgs0=(2,0,L)→L.length=k→k+es.length≤101→i < ps.length→(doB ps (itsE (i:Int) lv k es)).getD i pgs0=(2,0,L++itI lv es)
 | [],k,ps,L,h, _, _, _=>by rw [itI,List.map_nil,List.append_nil]; exact h
 | e::es,k,ps,L,h,hk,hl,hi=>by
   rw [List.length_cons] at hl
   have h1:(do1B ps ((i:Int),(k:Int),itB lv e.2.2 e.1)).getD i pgs0=(2,0,L++[itB lv e.2.2 e.1]):=by
    rw [do1_at (decide_eq_true (by dsimp only; omega)) rfl,h,edP,if_neg (by dsimp only; omega)]
    dsimp only
    rw [Int.toNat_natCast,← hk,setI_end]
   have h2:=its_page (lv:=lv) (es:=es) (k:=k+1) h1 (by rw [List.length_append,hk]; rfl) (by omega) (by rw [do1B_len]; exact hi)
   rw [itsE]
   show (doB (do1B ps _) _).getD i pgs0= _
   rw [h2,List.append_assoc]; rfl
theorem fresh_page {lv rt:Int} {hi:ByteArray} {es:List EnD} {ps:List PgS} {i:Nat} (h:i < ps.length) (hl:es.length≤100):(doB ps (freshE (i:Int) lv rt hi es)).getD i pgs0=(2,0,hdB lv rt false hi::itI lv es):=by
 rw [freshE,doB_app]
 have h1:(do1B ps ((i:Int), -1,strOfNums [2])).getD i pgs0=(2,0,[]):=by
  rw [do1_at (decide_eq_true (by dsimp only; omega)) rfl]; rfl
 have h2:(do1B (do1B ps ((i:Int), -1,strOfNums [2])) ((i:Int),0,hdB lv rt false hi)).getD i pgs0=(2,0,[hdB lv rt false hi]):=by
  rw [do1_at (decide_eq_true (by rw [do1B_len]; dsimp only; omega)) rfl,h1]; rfl
 exact its_page h2 rfl (by omega) (by rw [do1B_len,do1B_len]; exact h)
/-- entries as a fresh page numbers them -/
def renumE (lv:Int):Nat→List EnD→List EnD
 | _,[]=>[]
 | k,e::l=>(e.1,k,if 0 < lv then e.2.2 else -1)::renumE lv (k+1) l
theorem rawE_itI {lv:Int}:∀ {es:List EnD} {k:Nat},(∀ e∈es,4≤e.1.size∧(0 < lv→0≤e.2.2∧e.2.2 < 65536))→(rawE k (itI lv es)).map (parE lv)=renumE lv k es∧(rawE k (itI lv es)).any (badE lv)=false
 | [], _, _=>⟨rfl,rfl⟩
 | e::es,k,h=>by
   have he:=h e (by simp)
   have hz:(itB lv e.2.2 e.1).size≠0:=by have:=itB_sz lv e.2.2 e.1; omega
   obtain ⟨h1,h2⟩:=rawE_itI (es:=es) (k:=k+1) (fun y hy=>h y (by simp [hy]))
   rw [show itI lv (e::es)=itB lv e.2.2 e.1::itI lv es from rfl,rawE_one hz,List.map_cons,List.any_cons,parE_itB he.2,badE_itB he.1,h1,h2]
   exact ⟨rfl,rfl⟩
/-- the node of a fresh page -/
theorem nodF_fresh {lv rt:Int} {hi:ByteArray} {es:List EnD} (hlv:0≤lv∧lv≤255) (hrt: -1≤rt∧rt≤65534) (hhi:hi.size=0∨4≤hi.size) (h:∀ e∈es,4≤e.1.size∧(0 < lv→0≤e.2.2∧e.2.2 < 65536)):
  ∃ n,nodF 2 (hdB lv rt false hi::itI lv es)=some n∧n.lv=lv∧n.right=rt∧n.high=hi∧n.dead=false∧n.es.Perm (renumE lv 1 es):=by
 obtain ⟨h1,h2⟩:=rawE_itI (k:=1) h
 have e1:=hdB_lv (rt:=rt) (d:=false) (hi:=hi) hlv
 rw [nodF_good (hdB_ok hhi) (by rw [e1]; exact h2)]
 refine ⟨_,rfl,e1,hdB_rt hrt,hdB_hi _ _ _ _,by dsimp only; rw [hdB_d]; rfl,?_⟩
 dsimp only
 rw [e1,← h1]
 exact srt_perm _ _
end
section
open Go.RowKit
/-- an entry without its slot -/
def kv (e:EnD):ByteArray×Int:=(e.1,e.2.2)
/-- a node but for its entries -/
def same4 (a b:NoD):Prop:=a.lv=b.lv∧a.right=b.right∧a.high=b.high∧a.dead=b.dead
theorem nd_at {ps:List PgS} {x:Int} {n:NoD} (h:ndAt ps x=some n):0≤x∧x < ps.length∧nodF (ps.getD x.toNat pgs0).1 (ps.getD x.toNat pgs0).2.2=some n:=by
 unfold ndAt at h
 split at h
 ·rename_i hx; exact ⟨hx.1,hx.2,h⟩
 ·cases h
theorem nd_of {ps:List PgS} {x:Int} {n:NoD} (h0:0≤x) (h1:x < ps.length) (h:nodF (ps.getD x.toNat pgs0).1 (ps.getD x.toNat pgs0).2.2=some n):ndAt ps x=some n:=by rw [ndAt,if_pos ⟨h0,h1⟩]; exact h
/-- edits of other pages -/
theorem nd_other {ps:List PgS} {L:List EdT} {x:Int} (h:∀ e∈L,e.1≠x):ndAt (doB ps L) x=ndAt ps x:=by
 by_cases hx:0≤x
 ·unfold ndAt
  rw [doB_len,doB_other fun e he=>by have:=h e he; omega]
 ·unfold ndAt; rw [if_neg (by omega),if_neg (by omega)]
theorem ed1 {ps:List PgS} {x s:Int} {y:ByteArray} (h0:0≤x) (h1:x < ps.length) (h2:0≤s) (h3:s≤100):(do1B ps (x,s,y)).getD x.toNat pgs0=((ps.getD x.toNat pgs0).1,(ps.getD x.toNat pgs0).2.1,setI (ps.getD x.toNat pgs0).2.2 s.toNat y):=by
 rw [do1_at (decide_eq_true (by dsimp only; omega)) (by dsimp only; omega),edP,if_neg (by dsimp only; omega)]
theorem freeE_spec:∀ (l:List ByteArray) (i d:Nat),d=i+l.length→i≤freeE i l d∧(l.getD (freeE i l d - i) ByteArray.empty).size=0∧freeE i l d≤i+l.countP nz
 | [],i,d,h=>by
   rw [freeE,h]
   exact ⟨Nat.le_add_right _ _,rfl,Nat.le_refl _⟩
 | x::l,i,d,h=>by
   rw [freeE]
   by_cases hx:x.size=0
   ·rw [if_pos hx]
    exact ⟨Nat.le_refl _,by rw [Nat.sub_self]; exact hx,Nat.le_add_right _ _⟩
   ·rw [if_neg hx]
    obtain ⟨h1,h2,h3⟩:=freeE_spec l (i+1) d (by rw [h,List.length_cons]; omega)
    refine ⟨by omega,?_,?_⟩
    ·rw [show freeE (i+1) l d - i=(freeE (i+1) l d - (i+1))+1 by omega,List.getD_cons_succ]; exact h2
    ·rw [List.countP_cons_of_pos (by simp [nz,hx])]; omega
theorem nd_free {k:Int} {its:List ByteArray} {n:NoD} (h:nodF k its=some n):∃ s,n.free=s+1∧(its.getD (s+1) ByteArray.empty).size=0∧s≤n.es.length:=by
 obtain ⟨y,l,rfl,rfl,hok,rfl⟩:=nodF_inv h
 obtain ⟨h1,h2,h3⟩:=freeE_spec l 1 (l.length+1) (by omega)
 refine ⟨freeE 1 l (l.length+1) - 1,by dsimp only; omega,?_,?_⟩
 ·rw [List.getD_cons_succ]; exact h2
 ·dsimp only
  rw [srt_len,rawE_cnt]; omega
/-- the head and the children of a node that was read -/
theorem nd_hd {k:Int} {its:List ByteArray} {n:NoD} (h:nodF k its=some n):(0≤n.lv∧n.lv≤255)∧(-1≤n.right∧n.right≤65534)∧(n.high.size=0∨4≤n.high.size)∧∀ e∈n.es,(0 < n.lv→0≤e.2.2∧e.2.2 < 65536)∧(¬ 0 < n.lv→e.2.2= -1):=by
 obtain ⟨y,l,rfl,rfl,hok,rfl⟩:=nodF_inv h
 have num:∀ (s:ByteArray) (p k:Nat),numS s p k < 256 ^ k:=fun s p k=>by have h:=numL_lt (s.extract p (p+k)).data.toList; have h2:(s.extract p (p+k)).data.toList.length≤k:=by {have h4:(s.extract p (p+k)).size≤k:=by {rw [ByteArray.size_extract]; omega}; show (bl (s.extract p (p+k))).length≤k; rw [bl_len]; exact h4}; have h3:(256:Nat) ^ (s.extract p (p+k)).data.toList.length≤256 ^ k:=Nat.pow_le_pow_right (by omega) h2; unfold numS; omega
 refine ⟨⟨by dsimp only; omega,?_⟩,⟨by dsimp only; omega,?_⟩,?_,fun e he=>?_⟩
 ·have:=num y 0 1; dsimp only; omega
 ·have:=num y 2 2; dsimp only; omega
 ·dsimp only
  simp only [hdOk,Bool.and_eq_true,Bool.or_eq_true,decide_eq_true_eq] at hok
  rw [ByteArray.size_extract]; omega
 ·obtain ⟨⟨s,z⟩,hp,rfl⟩:∃ p∈rawE 1 l,e=parE (numS y 0 1) p:=by
   obtain ⟨p,hp,rfl⟩:=List.mem_map.1 ((srt_perm _ _).mem_iff.1 he)
   exact ⟨p,hp,rfl⟩
  dsimp only
  unfold parE
  by_cases hl:0 < (numS y 0 1:Int)
  ·rw [if_pos hl]
   have:=num z (z.size - 2) 2
   exact ⟨fun _=>by dsimp only; omega,fun h=>absurd hl h⟩
  ·rw [if_neg hl]; exact ⟨fun h=>absurd h hl,fun _=>rfl⟩
/-- an item put into the free slot -/
theorem put_nd {ps:List PgS} {pos kid:Int} {x:ByteArray} {n:NoD} (h:ndAt ps pos=some n) (h8:n.es.length≤90) (hk:0 < n.lv→0≤kid∧kid < 65536) (h4:4≤x.size):
  ∃ n',ndAt (doB ps [(pos,(n.free:Int),itB n.lv kid x)]) pos=some n'∧same4 n' n∧n'.es.Perm ((x,n.free,if 0 < n.lv then kid else -1)::n.es):=by
 obtain ⟨h0,h1,hn⟩:=nd_at h
 obtain ⟨s,hs,hz,hl⟩:=nd_free hn
 obtain ⟨n',h2,h3,h5,h6,h7,h8⟩:=nodF_put hn hz hk h4
 refine ⟨n',nd_of h0 (by rw [doB_len]; exact h1) ?_,⟨h3,h5,h6,h7⟩,by rw [hs]; exact h8⟩
 show nodF ((do1B ps (pos,(n.free:Int),itB n.lv kid x)).getD pos.toNat pgs0).1 ((do1B ps (pos,(n.free:Int),itB n.lv kid x)).getD pos.toNat pgs0).2.2=some n'
 rw [ed1 h0 h1 (by omega) (by omega)]
 dsimp only
 rw [Int.toNat_natCast,hs]; exact h2
/-- a new head -/
theorem head_nd {ps:List PgS} {pos rt:Int} {d:Bool} {hi:ByteArray} {n:NoD} (h:ndAt ps pos=some n) (hrt: -1≤rt∧rt≤65534) (hhi:hi.size=0∨4≤hi.size):
  ndAt (doB ps [(pos,0,hdB n.lv rt d hi)]) pos=some ⟨n.lv,rt,hi,d,n.es,n.free⟩:=by
 obtain ⟨h0,h1,hn⟩:=nd_at h
 refine nd_of h0 (by rw [doB_len]; exact h1) ?_
 show nodF ((do1B ps (pos,0,hdB n.lv rt d hi)).getD pos.toNat pgs0).1 ((do1B ps (pos,0,hdB n.lv rt d hi)).getD pos.toNat pgs0).2.2= _
 rw [ed1 h0 h1 (by omega) (by omega)]
 exact nodF_head hn (nd_hd hn).1.2 hrt hhi
theorem slot_nd {ps:List PgS} {pos:Int} {n:NoD} {e:EnD} (h:ndAt ps pos=some n) (hits:(ps.getD pos.toNat pgs0).2.2.length≤101) (he:e∈n.es):1≤e.2.1∧e.2.1 < (ps.getD pos.toNat pgs0).2.2.length∧e.2.1≤100:=by
 obtain ⟨_, _, _,h3⟩:=nd_cnt h
 obtain ⟨h4,y,hy, _⟩:=h3 e he
 have:=(List.getElem?_eq_some_iff.1 hy).1
 exact ⟨h4,this,by omega⟩
/-- slots cleared -/
theorem clr_nd {pos:Int}:∀ {L R:List EnD} {ps:List PgS} {n:NoD},ndAt ps pos=some n→(ps.getD pos.toNat pgs0).2.2.length≤101→n.es.Perm (L++R)→
  ∃ n',ndAt (doB ps (clearE pos L)) pos=some n'∧same4 n' n∧n'.es.Perm R
 | [],R,ps,n,h, _,hp=>⟨n,h,⟨rfl,rfl,rfl,rfl⟩,hp⟩
 | e::L,R,ps,n,h,hits,hp=>by
   obtain ⟨h0,h1,hn⟩:=nd_at h
   have he:e∈n.es:=hp.mem_iff.2 (by simp)
   obtain ⟨hs1,hs2,hs3⟩:=slot_nd h hits he
   obtain ⟨n1,h2,h3,h4,h5,h6,h7⟩:=nodF_clr hn he
   have hg:(do1B ps (pos,(e.2.1:Int),ByteArray.empty)).getD pos.toNat pgs0= _:=ed1 h0 h1 (by omega) (by omega)
   have hn1:ndAt (do1B ps (pos,(e.2.1:Int),ByteArray.empty)) pos=some n1:=by
    refine nd_of h0 (by rw [do1B_len]; exact h1) ?_
    rw [hg]
    dsimp only
    rw [Int.toNat_natCast]; exact h2
   have hit1:((do1B ps (pos,(e.2.1:Int),ByteArray.empty)).getD pos.toNat pgs0).2.2.length≤101:=by
    rw [hg]
    dsimp only
    rw [Int.toNat_natCast,setI_len]; omega
   have hp1:n1.es.Perm (L++R):=(List.perm_cons e).1 (h7.symm.trans hp)
   obtain ⟨n2,h8,h9,h10⟩:=clr_nd (L:=L) hn1 hit1 hp1
   refine ⟨n2,h8,?_,h10⟩
   obtain ⟨a,b,c,d⟩:=h9
   exact ⟨a.trans h3,b.trans h4,c.trans h5,d.trans h6⟩
theorem renumE_kv {lv:Int}:∀ {es:List EnD} {k:Nat},(renumE lv k es).map kv=es.map fun e=>(e.1,if 0 < lv then e.2.2 else -1)
 | [], _=>rfl
 | e::l,k=>by rw [renumE,List.map_cons,List.map_cons,renumE_kv]; rfl
/-- a page made anew -/
theorem fresh_nd {ps:List PgS} {pg lv rt:Int} {hi:ByteArray} {es:List EnD} (h0:0≤pg) (h1:pg < ps.length) (hlv:0≤lv∧lv≤255) (hrt: -1≤rt∧rt≤65534) (hhi:hi.size=0∨4≤hi.size)
  (h:∀ e∈es,4≤e.1.size∧(0 < lv→0≤e.2.2∧e.2.2 < 65536)∧(¬ 0 < lv→e.2.2= -1)) (hl:es.length≤100):
  ∃ n,ndAt (doB ps (freshE pg lv rt hi es)) pg=some n∧n.lv=lv∧n.right=rt∧n.high=hi∧n.dead=false∧(n.es.map kv).Perm (es.map kv):=by
 obtain ⟨i,rfl⟩:=Int.eq_ofNat_of_zero_le h0
 have hp:=fresh_page (ps:=ps) (lv:=lv) (rt:=rt) (hi:=hi) (es:=es) (i:=i) (by omega) hl
 obtain ⟨n,h2,h3,h4,h5,h6,h7⟩:=nodF_fresh (rt:=rt) (hi:=hi) (es:=es) hlv hrt hhi fun e he=>⟨(h e he).1,(h e he).2.1⟩
 refine ⟨n,nd_of h0 (by rw [doB_len]; exact h1) ?_,h3,h4,h5,h6,?_⟩
 ·show nodF ((doB ps (freshE (i:Int) lv rt hi es)).getD (Int.ofNat i).toNat pgs0).1 ((doB ps (freshE (i:Int) lv rt hi es)).getD (Int.ofNat i).toNat pgs0).2.2= _
  rw [show (Int.ofNat i).toNat=i from rfl,hp]; exact h2
 ·refine (h7.map kv).trans ?_
  rw [renumE_kv]
  refine List.Perm.of_eq (List.map_congr_left fun e he=>?_)
  have:=(h e he).2.2
  by_cases hc:0 < lv
  ·rw [if_pos hc]; rfl
  ·rw [if_neg hc,← this hc]; rfl
/-- a node split -/
theorem cut_nd {ps:List PgS} {pos pg:Int} {n:NoD} (h:ndAt ps pos=some n) (hits:(ps.getD pos.toNat pgs0).2.2.length≤101) (h0:0≤pg) (h1:pg < ps.length) (hps:ps.length≤60000) (hne:pg≠pos) (hlen:n.es.length≤100) (hmid:4≤(midE n).size):
  (∃ n1,ndAt (doB ps (cutE pos n pg)) pg=some n1∧n1.lv=n.lv∧n1.right=n.right∧n1.high=n.high∧n1.dead=false∧(n1.es.map kv).Perm ((n.es.drop (n.es.length / 2)).map kv))∧
  (∃ n2,ndAt (doB ps (cutE pos n pg)) pos=some n2∧n2.lv=n.lv∧n2.right=pg∧n2.high=midE n∧n2.dead=false∧n2.es.Perm (n.es.take (n.es.length / 2)))∧
  ∀ q,q≠pg→q≠pos→ndAt (doB ps (cutE pos n pg)) q=ndAt ps q:=by
 obtain ⟨hp0,hp1,hn⟩:=nd_at h
 obtain ⟨a1,a2,a3,a4⟩:=nd_hd hn
 have hso:=nodF_sorted hn
 obtain ⟨n1,f1,f2,f3,f4,f5,f6⟩:=fresh_nd (ps:=ps) (pg:=pg) (lv:=n.lv) (rt:=n.right) (hi:=n.high) (es:=halfE n) h0 h1 a1 a2 a3 (fun e he=>⟨hso.2 e (List.mem_of_mem_drop he),a4 e (List.mem_of_mem_drop he)⟩) (by rw [halfE,List.length_drop]; omega)
 have hcl:∀ e∈clearE pos (halfE n),e.1=pos:=fun e he=>by obtain ⟨x, _,rfl⟩:=List.mem_map.1 he; rfl
 obtain ⟨ps1,hps1⟩:∃ z,doB ps (freshE pg n.lv n.right n.high (halfE n))=z:=⟨_,rfl⟩
 have hE:doB ps (cutE pos n pg)=doB (doB ps1 [(pos,0,hdB n.lv pg false (midE n))]) (clearE pos (halfE n)):=by rw [cutE,doB_app,doB_app,hps1]
 rw [hps1] at f1
 have hn1:ndAt ps1 pos=some n:=by rw [← hps1,nd_other (fun e he=>by rw [freshE_pg e he]; exact hne)]; exact h
 have hit1:(ps1.getD pos.toNat pgs0).2.2.length≤101:=by
  rw [← hps1,doB_other (fun e he=>by rw [freshE_pg e he]; omega)]; exact hits
 have hl1:ps1.length=ps.length:=by rw [← hps1,doB_len]
 have hh:=head_nd (rt:=pg) (d:=false) (hi:=midE n) hn1 ⟨by omega,by omega⟩ (.inr hmid)
 have hit2:((doB ps1 [(pos,0,hdB n.lv pg false (midE n))]).getD pos.toNat pgs0).2.2.length≤101:=by
  show ((do1B ps1 (pos,0,hdB n.lv pg false (midE n))).getD pos.toNat pgs0).2.2.length≤101
  rw [ed1 hp0 (by rw [hl1]; exact hp1) (by omega) (by omega)]
  dsimp only
  rw [setI_len]
  show max _ 1≤101
  omega
 obtain ⟨n2,c1,⟨c2,c3,c4,c5⟩,c6⟩:=clr_nd (L:=halfE n) (R:=n.es.take (n.es.length / 2)) hh hit2 (by dsimp only; exact (List.Perm.of_eq (List.take_append_drop (n.es.length / 2) n.es).symm).trans List.perm_append_comm)
 rw [hE]
 refine ⟨⟨n1,?_,f2,f3,f4,f5,f6⟩,⟨n2,c1,c2,c3,c4,c5,c6⟩,fun q hq1 hq2=>?_⟩
 ·rw [nd_other (fun e he=>by rw [hcl e he]; exact fun e=>hne e.symm),nd_other (fun e he=>by rw [List.mem_singleton.1 he]; exact fun e=>hne e.symm)]; exact f1
 ·rw [nd_other (fun e he=>by rw [hcl e he]; exact fun e=>hq2 e.symm),nd_other (fun e he=>by rw [List.mem_singleton.1 he]; exact fun e=>hq2 e.symm),← hps1,nd_other (fun e he=>by rw [freshE_pg e he]; exact fun e=>hq1 e.symm)]
-- a root that grows
theorem rawE_nil:∀ {l:List ByteArray} {i:Nat},(∀ k,(l.getD k ByteArray.empty).size=0)→rawE i l=[]
 | [], _, _=>rfl
 | x::l,i,h=>by rw [rawE_zero (x:=x) (h 0),rawE_nil fun k=>h (k+1)]
theorem setI_getD (l:List ByteArray) (k j:Nat) (x:ByteArray):(setI l k x).getD j ByteArray.empty=if j=k then x else l.getD j ByteArray.empty:=by
 by_cases h:j=k
 ·subst h; rw [if_pos rfl,setI_get]
 ·rw [if_neg h,setI,List.getD_eq_getElem?_getD,List.getElem?_set_ne (fun e=>h e.symm),List.getD_eq_getElem?_getD]
  by_cases hj:j < l.length
  ·rw [List.getElem?_append_left hj]
  ·rw [List.getElem?_append_right (by omega),List.getElem?_eq_none (l:=l) (by omega)]
   cases hq:(List.replicate (k+1 - l.length) ByteArray.empty)[j - l.length]? with
   | none=>rfl
   | some y=>rw [(List.mem_replicate.1 (List.mem_of_getElem? hq)).2]; rfl
theorem clr_its {pos:Int}:∀ {L:List EnD} {ps:List PgS},0≤pos→pos < ps.length→(∀ e∈L,e.2.1≤100)→
  ((doB ps (clearE pos L)).getD pos.toNat pgs0).1=(ps.getD pos.toNat pgs0).1∧∀ k,((doB ps (clearE pos L)).getD pos.toNat pgs0).2.2.getD k ByteArray.empty=if (∃ e∈L,e.2.1=k) then ByteArray.empty else (ps.getD pos.toNat pgs0).2.2.getD k ByteArray.empty
 | [],ps, _, _, _=>⟨rfl,fun k=>by rw [if_neg (by simp)]; rfl⟩
 | e::L,ps,h0,h1,h=>by
   have hg:(do1B ps (pos,(e.2.1:Int),ByteArray.empty)).getD pos.toNat pgs0= _:=ed1 h0 h1 (by omega) (by have:=h e (by simp); omega)
   obtain ⟨h2,h3⟩:=clr_its (L:=L) (ps:=do1B ps (pos,(e.2.1:Int),ByteArray.empty)) h0 (by rw [do1B_len]; exact h1) fun x hx=>h x (by simp [hx])
   rw [hg] at h2 h3
   refine ⟨h2,fun k=>(h3 k).trans ?_⟩
   dsimp only
   rw [Int.toNat_natCast,setI_getD]
   by_cases hc:∃ x∈L,x.2.1=k
   ·obtain ⟨x,hx,hxk⟩:=hc
    rw [if_pos ⟨x,hx,hxk⟩,if_pos ⟨x,by simp [hx],hxk⟩]
   ·rw [if_neg hc]
    by_cases hk:k=e.2.1
    ·rw [if_pos hk,if_pos ⟨e,by simp,hk.symm⟩]
    ·rw [if_neg hk,if_neg]
     rintro ⟨x,hx,hxk⟩
     rcases List.mem_cons.1 hx with rfl | hx
     ·exact hk hxk.symm
     ·exact hc ⟨x,hx,hxk⟩
/-- every item stands in some entry -/
theorem slot_of {k:Int} {its:List ByteArray} {n:NoD} (h:nodF k its=some n) {s:Nat} (hs:1≤s) (hz:(its.getD s ByteArray.empty).size≠0):∃ e∈n.es,e.2.1=s:=by
 obtain ⟨y,l,rfl,rfl,hok,rfl⟩:=nodF_inv h
 have key:∀ (l:List ByteArray) (i j:Nat),(l.getD j ByteArray.empty).size≠0→(i+j,l.getD j ByteArray.empty)∈rawE i l:=by
  intro l
  induction l with
  | nil=>intro i j hj; exact absurd rfl hj
  | cons x l ih=>
    intro i j hj
    rw [rawE]
    cases j with
    | zero=>
      have hx:x.size≠0:=hj
      rw [if_neg hx]; exact List.mem_cons_self ..
    | succ j=>
      rw [List.getD_cons_succ] at hj ⊢
      have:=ih (i+1) j hj
      rw [show i+1+j=i+(j+1) by omega] at this
      split
      ·exact this
      ·exact List.mem_cons_of_mem _ this
 obtain ⟨j,rfl⟩:∃ j,s=j+1:=⟨s - 1,by omega⟩
 rw [List.getD_cons_succ] at hz
 have hm:=key l 1 j hz
 rw [Nat.add_comm 1 j] at hm
 refine ⟨parE (numS y 0 1) (j+1,l.getD j ByteArray.empty),(srt_perm _ _).mem_iff.2 (List.mem_map.2 ⟨_,hm,rfl⟩),?_⟩
 unfold parE; split<;>rfl
theorem leastB_size:leastB.size=4:=by decide
theorem grow_nd {ps:List PgS} {pos pg:Int} {n:NoD} (h:ndAt ps pos=some n) (hits:(ps.getD pos.toNat pgs0).2.2.length≤101) (h0:0≤pg) (h1:pg < ps.length) (hps:ps.length≤60000) (hne:pg≠pos) (hlen:n.es.length≤100) (hlv:n.lv≤254):
  (∃ n1,ndAt (doB ps (growE pos n pg)) pg=some n1∧n1.lv=n.lv∧n1.right= -1∧n1.high=ByteArray.empty∧n1.dead=false∧(n1.es.map kv).Perm (n.es.map kv))∧
  (∃ n2,ndAt (doB ps (growE pos n pg)) pos=some n2∧n2.lv=n.lv+1∧n2.right= -1∧n2.high=ByteArray.empty∧n2.dead=false∧n2.es.map kv=[(leastB,pg)])∧
  ∀ q,q≠pg→q≠pos→ndAt (doB ps (growE pos n pg)) q=ndAt ps q:=by
 obtain ⟨hp0,hp1,hn⟩:=nd_at h
 obtain ⟨a1,a2,a3,a4⟩:=nd_hd hn
 have hso:=nodF_sorted hn
 obtain ⟨n1,f1,f2,f3,f4,f5,f6⟩:=fresh_nd (ps:=ps) (pg:=pg) (lv:=n.lv) (rt:= -1) (hi:=ByteArray.empty) (es:=n.es) h0 h1 a1 ⟨by omega,by omega⟩ (.inl rfl) (fun e he=>⟨hso.2 e he,a4 e he⟩) hlen
 have hcl:∀ e∈clearE pos n.es,e.1=pos:=fun e he=>by obtain ⟨x, _,rfl⟩:=List.mem_map.1 he; rfl
 obtain ⟨ps1,hps1⟩:∃ z,doB ps (freshE pg n.lv (-1) ByteArray.empty n.es)=z:=⟨_,rfl⟩
 have hl1:ps1.length=ps.length:=by rw [← hps1,doB_len]
 have hg1:ps1.getD pos.toNat pgs0=ps.getD pos.toNat pgs0:=by rw [← hps1]; exact doB_other fun e he=>by rw [freshE_pg e he]; omega
 obtain ⟨ps2,hps2⟩:∃ z,doB ps1 [(pos,0,hdB (n.lv+1) (-1) false ByteArray.empty)]=z:=⟨_,rfl⟩
 have hl2:ps2.length=ps.length:=by rw [← hps2,doB_len,hl1]
 have hg2:ps2.getD pos.toNat pgs0=((ps.getD pos.toNat pgs0).1,(ps.getD pos.toNat pgs0).2.1,setI (ps.getD pos.toNat pgs0).2.2 0 (hdB (n.lv+1) (-1) false ByteArray.empty)):=by
  rw [← hps2]
  show (do1B ps1 (pos,0,hdB (n.lv+1) (-1) false ByteArray.empty)).getD pos.toNat pgs0= _
  rw [ed1 hp0 (by rw [hl1]; exact hp1) (by omega) (by omega),hg1]; rfl
 obtain ⟨ps3,hps3⟩:∃ z,doB ps2 (clearE pos n.es)=z:=⟨_,rfl⟩
 have hl3:ps3.length=ps.length:=by rw [← hps3,doB_len,hl2]
 obtain ⟨g3,g4⟩:=clr_its (L:=n.es) (ps:=ps2) hp0 (by rw [hl2]; exact hp1) fun e he=>(slot_nd h hits he).2.2
 rw [hps3,hg2] at g3 g4
 have hE:doB ps (growE pos n pg)=doB ps3 [(pos,1,itB 1 pg leastB)]:=by rw [growE,doB_app,doB_app,doB_app,hps1,hps2,hps3]
 have hk2:(ps.getD pos.toNat pgs0).1=2:=(nodF_inv hn).elim fun y hy=>hy.elim fun l hl=>hl.2.1
 -- what the root holds
 obtain ⟨its3,hi3⟩:∃ z,(ps3.getD pos.toNat pgs0).2.2=z:=⟨_,rfl⟩
 rw [hi3] at g4
 dsimp only at g3 g4
 have hz0:its3.getD 0 ByteArray.empty=hdB (n.lv+1) (-1) false ByteArray.empty:=by
  rw [g4 0,if_neg,setI_get]
  rintro ⟨e,he,hes⟩
  have:=(slot_nd h hits he).1; omega
 have hzk:∀ k,(its3.getD (k+1) ByteArray.empty).size=0:=fun k=>by
  rw [g4 (k+1)]
  by_cases hc:∃ e∈n.es,e.2.1=k+1
  ·rw [if_pos hc]; rfl
  ·rw [if_neg hc,setI_getD,if_neg (by omega)]
   cases hq:decide (((ps.getD pos.toNat pgs0).2.2.getD (k+1) ByteArray.empty).size=0) with
   | true=>exact of_decide_eq_true hq
   | false=>exact absurd (slot_of hn (by omega) (of_decide_eq_false hq)) hc
 have hdz:(hdB (n.lv+1) (-1) false ByteArray.empty).size=4:=by rw [hdB_size]; rfl
 cases hit:its3 with
 | nil=>rw [hit] at hz0; have:=congrArg ByteArray.size hz0; rw [hdz] at this; exact absurd this (by decide)
 | cons y l=>
   rw [hit] at hz0 hzk
   have hy:y=hdB (n.lv+1) (-1) false ByteArray.empty:=hz0
   have hl:rawE 1 l=[]:=rawE_nil fun k=>hzk k
   have hlz:(l.getD 0 ByteArray.empty).size=0:=hzk 0
   have e1:=hdB_lv (lv:=n.lv+1) (rt:= -1) (d:=false) (hi:=ByteArray.empty) ⟨by omega,by omega⟩
   have hiz:(itB 1 pg leastB).size≠0:=by rw [itB_sz,leastB_size]; decide
   have hpr:=rawE_set hiz l 0 1 hlz
   rw [hl] at hpr
   have hpr:rawE 1 (setI l 0 (itB 1 pg leastB))=[(1,itB 1 pg leastB)]:=List.perm_singleton.1 hpr
   have hpos:(0:Int) < n.lv+1:=by omega
   have hb:(rawE 1 (setI l 0 (itB 1 pg leastB))).any (badE (n.lv+1))=false:=by
    rw [hpr]
    have:badE 1 (1,itB 1 pg leastB)=false:=badE_itB (by rw [leastB_size]; decide)
    have e2:badE (n.lv+1) (1,itB 1 pg leastB)=badE 1 (1,itB 1 pg leastB):=by unfold badE; rw [if_pos hpos,if_pos (by decide)]
    simp [e2,this]
   have e3:parE (n.lv+1) (1,itB 1 pg leastB)=(leastB,1,pg):=by
    have e4:parE (n.lv+1) (1,itB 1 pg leastB)=parE 1 (1,itB 1 pg leastB):=by unfold parE; rw [if_pos hpos,if_pos (by decide)]
    rw [e4,parE_itB (fun _=>⟨h0,by omega⟩),if_pos (by decide)]
   have hfin:nodF 2 (setI its3 1 (itB 1 pg leastB))=some ⟨n.lv+1, -1,ByteArray.empty,false,[(leastB,1,pg)],freeE 1 (setI l 0 (itB 1 pg leastB)) ((setI l 0 (itB 1 pg leastB)).length+1)⟩:=by
    rw [hit,setI_cons,hy,nodF_good (hdB_ok (.inl rfl)) (by rw [e1]; exact hb),e1,hdB_rt ⟨by omega,by omega⟩,hdB_hi,hdB_d,hpr]
    simp only [srt,List.map_cons,List.map_nil,e3]
    rfl
   rw [hE]
   refine ⟨⟨n1,?_,f2,f3,f4,f5,f6⟩,⟨⟨n.lv+1, -1,ByteArray.empty,false,[(leastB,1,pg)],freeE 1 (setI l 0 (itB 1 pg leastB)) ((setI l 0 (itB 1 pg leastB)).length+1)⟩,nd_of hp0 (by rw [doB_len,hl3]; exact hp1) ?_,rfl,rfl,rfl,rfl,rfl⟩,fun q hq1 hq2=>?_⟩
   ·rw [nd_other (fun e he=>by rw [List.mem_singleton.1 he]; exact fun e=>hne e.symm),← hps3,nd_other (fun e he=>by rw [hcl e he]; exact fun e=>hne e.symm),← hps2,nd_other (fun e he=>by rw [List.mem_singleton.1 he]; exact fun e=>hne e.symm),← hps1]; exact f1
   ·show nodF ((do1B ps3 (pos,1,itB 1 pg leastB)).getD pos.toNat pgs0).1 ((do1B ps3 (pos,1,itB 1 pg leastB)).getD pos.toNat pgs0).2.2= _
    rw [ed1 hp0 (by rw [hl3]; exact hp1) (by omega) (by omega),g3,hk2,hi3]
    exact hfin
   ·rw [nd_other (fun e he=>by rw [List.mem_singleton.1 he]; exact fun e=>hq2 e.symm),← hps3,nd_other (fun e he=>by rw [hcl e he]; exact fun e=>hq2 e.symm),← hps2,nd_other (fun e he=>by rw [List.mem_singleton.1 he]; exact fun e=>hq2 e.symm),← hps1,nd_other (fun e he=>by rw [freshE_pg e he]; exact fun e=>hq1 e.symm)]
end
section
open Go.RowKit
abbrev Kv:=ByteArray×Int
/-- a node: its page, the least entry that it may hold, its entries -/
structure AbN where
 pg:Int
 low:ByteArray
 es:List Kv
def rtA:List AbN→Int
 | []=> -1
 | b:: _=>b.pg
def hiA:List AbN→ByteArray
 | []=>ByteArray.empty
 | b:: _=>b.low
/-- the page holds the node, suf being the nodes behind it -/
def IsN (ps:List PgS) (lv:Int) (a:AbN) (suf:List AbN):Prop:=∃ n,ndAt ps a.pg=some n∧n.lv=lv∧n.dead=false∧n.right=rtA suf∧n.high=hiA suf∧n.es.map kv=a.es
def RepL (ps:List PgS) (lv:Int):List AbN→Prop
 | []=>True
 | a::suf=>IsN ps lv a suf∧RepL ps lv suf
-- order
theorem ops_nn (x:ByteArray):0≤opF x∧0≤osF x:=by
 unfold opF osF ppF psF
 constructor<;>split<;>omega
theorem bytesLess_nil (l:List UInt8):Op.bytesLess l []=false:=by cases l<;>rfl
theorem least_le (x:ByteArray):lessF x leastB=false:=by
 have h1:okF leastB=ByteArray.empty:=by decide
 have h2:opF leastB=0:=by decide
 have h3:osF leastB=0:=by decide
 have h4:ltB (okF x) ByteArray.empty=false:=bytesLess_nil _
 have:=ops_nn x
 unfold lessF
 rw [h1,h2,h3,h4]
 simp only [Bool.false_eq_true,if_false]
 split
 ·rfl
 ·rw [if_neg (by omega)]
  split
  ·rfl
  ·exact decide_eq_false (by omega)
theorem sort_eq:∀ {l1 l2:List Kv},l1.Perm l2→l1.Pairwise (fun x y=>lessF y.1 x.1=false)→l2.Pairwise (fun x y=>lessF x.1 y.1=true)→l1=l2
 | l1,[],hp, _, _=>List.Perm.eq_nil hp
 | [],y::l2,hp, _, _=>absurd hp.length_eq (by simp)
 | x::l1,y::l2,hp,h1,h2=>by
   have h1':=List.pairwise_cons.1 h1
   have h2':=List.pairwise_cons.1 h2
   have hxy:x=y:=by
    rcases List.mem_cons.1 (hp.mem_iff.1 (List.mem_cons_self ..):x∈y::l2) with h | hx
    ·exact h
    ·rcases List.mem_cons.1 (hp.mem_iff.2 (List.mem_cons_self ..):y∈x::l1) with h | hy
     ·exact h.symm
     ·have a:=h2'.1 x hx
      have b:=h1'.1 y hy
      rw [a] at b; cases b
   subst hxy
   rw [sort_eq ((List.perm_cons x).1 hp) h1'.2 h2'.2]
/-- an entry goes to its place -/
def insA (x:Kv):List Kv→List Kv
 | []=>[x]
 | y::l=>if lessF x.1 y.1 then x::y::l else y::insA x l
theorem insA_perm (x:Kv):∀ l,(insA x l).Perm (x::l)
 | []=>List.Perm.refl _
 | y::l=>by
   rw [insA]
   split
   ·exact List.Perm.refl _
   ·exact ((insA_perm x l).cons y).trans (List.Perm.swap _ _ _)
theorem insA_ris {x:Kv} (hx:4≤x.1.size):∀ {l:List Kv},(∀ y∈l,4≤y.1.size∧y.1≠x.1)→l.Pairwise (fun a b=>lessF a.1 b.1=true)→(insA x l).Pairwise (fun a b=>lessF a.1 b.1=true)
 | [], _, _=>List.pairwise_singleton _ _
 | y::l,h,hp=>by
   obtain ⟨h1,h2⟩:=List.pairwise_cons.1 hp
   rw [insA]
   split
   ·rename_i hl
    refine List.pairwise_cons.2 ⟨fun z hz=>?_,hp⟩
    rcases List.mem_cons.1 hz with rfl | hz
    ·exact hl
    ·exact lessF_trans hl (h1 z hz)
   ·rename_i hl
    have hl:lessF x.1 y.1=false:=by simpa using hl
    refine List.pairwise_cons.2 ⟨fun z hz=>?_,insA_ris hx (fun z hz=>h z (by simp [hz])) h2⟩
    rcases List.mem_cons.1 ((insA_perm x l).mem_iff.1 hz) with rfl | hz
    ·cases hc:lessF y.1 z.1 with
     | true=>rfl
     | false=>exact absurd (lessF_total (h y (by simp)).1 hx hc hl) (h y (by simp)).2
    ·exact h1 z hz
/-- a head that stays -/
theorem insA_head {x y:Kv} {l:List Kv} (h:lessF x.1 y.1=false):insA x (y::l)=y::insA x l:=by rw [insA,h]; rfl
/-- the entries of a node that was read, in order -/
theorem nd_srt {ps:List PgS} {x:Int} {n:NoD} (h:ndAt ps x=some n):(n.es.map kv).Pairwise (fun a b=>lessF b.1 a.1=false)∧∀ e∈n.es,4≤e.1.size:=by
 obtain ⟨h1,h2⟩:=nodF_sorted (nd_at h).2.2
 exact ⟨List.pairwise_map.2 h1,h2⟩
theorem nd_eq {ps:List PgS} {x:Int} {n:NoD} {l:List Kv} (h:ndAt ps x=some n) (hp:(n.es.map kv).Perm l) (hr:l.Pairwise (fun a b=>lessF a.1 b.1=true)):n.es.map kv=l:=sort_eq hp (nd_srt h).1 hr
-- frames
theorem RepL.mem {ps:List PgS} {lv:Int}:∀ {pre:List AbN} {a:AbN} {suf:List AbN},RepL ps lv (pre++a::suf)→IsN ps lv a suf∧RepL ps lv suf
 | [], _, _,h=>h
 | _::pre, _, _,h=>RepL.mem (pre:=pre) h.2
theorem IsN.cong {ps ps':List PgS} {lv:Int} {a:AbN} {suf suf':List AbN} (h:IsN ps lv a suf) (hn:ndAt ps' a.pg=ndAt ps a.pg) (hr:rtA suf'=rtA suf) (hh:hiA suf'=hiA suf):IsN ps' lv a suf':=by
 obtain ⟨n,h1,h2,h3,h4,h5,h6⟩:=h
 exact ⟨n,hn.trans h1,h2,h3,h4.trans hr.symm,h5.trans hh.symm,h6⟩
/-- a level none of whose pages has changed -/
theorem RepL.keep {ps ps':List PgS} {lv:Int}:∀ {l:List AbN},RepL ps lv l→(∀ a∈l,ndAt ps' a.pg=ndAt ps a.pg)→RepL ps' lv l
 | [], _, _=>trivial
 | a::l,h,hn=>⟨h.1.cong (hn a (by simp)) rfl rfl,RepL.keep h.2 fun b hb=>hn b (by simp [hb])⟩
/-- a level where one node has become others; the first of them has its page and its least entry -/
theorem RepL.repl {ps ps':List PgS} {lv:Int} {a a':AbN} {suf suf':List AbN} (hpg:a'.pg=a.pg) (hlow:a'.low=a.low) (hnew:RepL ps' lv (a'::suf')):∀ {pre:List AbN},RepL ps lv (pre++a::suf)→(∀ b∈pre,ndAt ps' b.pg=ndAt ps b.pg)→RepL ps' lv (pre++a'::suf')
 | [], _, _=>hnew
 | b::pre,h,hn=>by
   refine ⟨h.1.cong (hn b (by simp)) ?_ ?_,RepL.repl hpg hlow hnew (pre:=pre) h.2 fun c hc=>hn c (by simp [hc])⟩
   ·cases pre with
    | nil=>exact hpg
    | cons c l=>rfl
   ·cases pre with
    | nil=>exact hlow
    | cons c l=>rfl
-- valid
structure NdV (a:AbN):Prop where
 ris:a.es.Pairwise (fun x y=>lessF x.1 y.1=true)
 ge:∀ e∈a.es,lessF e.1 a.low=false
 z4:∀ e∈a.es,4≤e.1.size
 l4:4≤a.low.size
 len:a.es.length≤8
def LtA (a b:AbN):Prop:=lessF a.low b.low=true∧∀ e∈a.es,lessF e.1 b.low=true
structure LvOk (l:List AbN):Prop where
 pw:l.Pairwise LtA
 nd:∀ a∈l,NdV a
 hd:∃ a t,l=a::t∧a.low=leastB
/-- the entries of a level lead to nodes of the level below -/
def InOk (up below:List AbN):Prop:=∀ a∈up,(∃ k t,a.es=(a.low,k)::t)∧∀ e∈a.es,∃ m∈below,m.pg=e.2∧m.low=e.1
def pgsA (T:List (List AbN)):List Int:=T.flatten.map AbN.pg
structure Tr (ps:List PgS) (T:List (List AbN)) (root:Int):Prop where
 rep:∀ (k:Nat) l,T[k]? =some l→RepL ps (k:Int) l
 lv:∀ l∈T,LvOk l
 inn:∀ (k:Nat) up below,T[k+1]? =some up→T[k]? =some below→InOk up below
 top:∃ r,T.getLast?=some [r]∧r.pg=root
 dist:(pgsA T).Nodup
 ht:T.length≤200
theorem Tr.level {ps:List PgS} {T:List (List AbN)} {root:Int} (h:Tr ps T root) {k:Nat} {l:List AbN} (hk:T[k]? =some l):RepL ps (k:Int) l∧LvOk l:=⟨h.rep k l hk,h.lv l (List.mem_of_getElem? hk)⟩
/-- a node, found: its place -/
theorem Tr.node {ps:List PgS} {T:List (List AbN)} {root:Int} (h:Tr ps T root) {k:Nat} {pre suf:List AbN} {a:AbN} (hk:T[k]? =some (pre++a::suf)):∃ n,ndAt ps a.pg=some n∧n.lv=(k:Int)∧n.dead=false∧n.right=rtA suf∧n.high=hiA suf∧n.es.map kv=a.es:=(RepL.mem (h.rep k _ hk)).1
theorem pgs_mem {T:List (List AbN)} {k:Nat} {l:List AbN} {a:AbN} (hk:T[k]? =some l) (ha:a∈l):a.pg∈pgsA T:=List.mem_map.2 ⟨a,List.mem_flatten.2 ⟨l,List.mem_of_getElem? hk,ha⟩,rfl⟩
-- levels as lists
theorem lv_split {T:List (List AbN)} {k:Nat} {l:List AbN} (h:T[k]? =some l):∃ T1 T2,T=T1++l::T2∧T1.length=k∧∀ l',T.set k l'=T1++l'::T2:=by
 obtain ⟨hk,rfl⟩:=List.getElem?_eq_some_iff.1 h
 refine ⟨T.take k,T.drop (k+1),?_,by rw [List.length_take]; omega,fun l'=>?_⟩
 ·rw [List.getElem_cons_drop,List.take_append_drop]
 ·rw [List.set_eq_take_append_cons_drop,if_pos hk]
theorem pgs_app (T1:List (List AbN)) (l:List AbN) (T2:List (List AbN)):pgsA (T1++l::T2)=pgsA T1++(l.map AbN.pg++pgsA T2):=by simp [pgsA]
theorem Tr.other {ps:List PgS} {T:List (List AbN)} {root:Int} (h:Tr ps T root) {k j:Nat} {l m:List AbN} (hk:T[k]? =some l) (hj:T[j]? =some m) (hkj:k≠j) {a b:AbN} (ha:a∈l) (hb:b∈m):a.pg≠b.pg:=by
 intro e
 have key:∀ {k j:Nat} {l m:List AbN},T[k]? =some l→T[j]? =some m→k < j→∀ {a b:AbN},a∈l→b∈m→a.pg≠b.pg:=by
  intro k j l m hk hj hlt a b ha hb e
  obtain ⟨T1,T2,rfl,h1, _⟩:=lv_split hk
  have hm:m∈T2:=by
   rw [List.getElem?_append_right (by omega)] at hj
   obtain ⟨i,hi⟩:∃ i,j - T1.length=i+1:=⟨j - T1.length - 1,by omega⟩
   rw [hi,List.getElem?_cons_succ] at hj
   exact List.mem_of_getElem? hj
  have hd:=h.dist
  rw [pgs_app] at hd
  have h2:=(List.nodup_append.1 hd).2.1
  have h3:=(List.nodup_append.1 h2).2.2
  exact h3 a.pg (List.mem_map.2 ⟨a,ha,rfl⟩) b.pg (List.mem_map.2 ⟨b,List.mem_flatten.2 ⟨m,hm,hb⟩,rfl⟩) e
 rcases Nat.lt_or_ge k j with h1 | h1
 ·exact key hk hj h1 ha hb e
 ·exact key hj hk (by omega) hb ha e.symm
theorem Tr.same {ps:List PgS} {T:List (List AbN)} {root:Int} (h:Tr ps T root) {k:Nat} {pre suf:List AbN} {a:AbN} (hk:T[k]? =some (pre++a::suf)):(∀ b∈pre,b.pg≠a.pg)∧∀ b∈suf,b.pg≠a.pg:=by
 obtain ⟨T1,T2,rfl,h1, _⟩:=lv_split hk
 have hd:=h.dist
 rw [pgs_app] at hd
 have h2:=(List.nodup_append.1 (List.nodup_append.1 hd).2.1).1
 rw [List.map_append,List.map_cons] at h2
 have h3:=List.nodup_append.1 h2
 refine ⟨fun b hb e=>h3.2.2 b.pg (List.mem_map.2 ⟨b,hb,rfl⟩) a.pg (List.mem_cons_self ..) e,fun b hb e=>?_⟩
 exact (List.nodup_cons.1 h3.2.1).1 (by rw [← e]; exact List.mem_map.2 ⟨b,hb,rfl⟩)
/-- one node has become others, the first of them in its page and with its least entry -/
theorem Tr.repl {ps ps':List PgS} {T:List (List AbN)} {root:Int} (h:Tr ps T root) {k:Nat} {pre suf mid:List AbN} {a a':AbN} (hk:T[k]? =some (pre++a::suf)) (hpg:a'.pg=a.pg) (hlow:a'.low=a.low)
  (hnd:∀ q∈pgsA T,q≠a.pg→ndAt ps' q=ndAt ps q) (hrep:RepL ps' (k:Int) (a'::(mid++suf))) (hlv:LvOk (pre++a'::(mid++suf)))
  (hin:∀ k0 below,k=k0+1→T[k0]? =some below→InOk (pre++a'::(mid++suf)) below) (hmid:(mid.map AbN.pg).Nodup) (hnew:∀ b∈mid,b.pg∉pgsA T) (htop:k+1 < T.length∨mid=[]):
  Tr ps' (T.set k (pre++a'::(mid++suf))) root:=by
 obtain ⟨hkl, -⟩:=List.getElem?_eq_some_iff.1 hk
 obtain ⟨hpre,hsuf⟩:=h.same hk
 have get:∀ j l,(T.set k (pre++a'::(mid++suf)))[j]? =some l→(j=k∧l=pre++a'::(mid++suf))∨(j≠k∧T[j]? =some l):=fun j l hj=>by
  by_cases e:j=k
  ·subst e
   rw [List.getElem?_set_self hkl] at hj
   injection hj with hj
   exact .inl ⟨rfl,hj.symm⟩
  ·rw [List.getElem?_set_ne (fun e2=>e e2.symm)] at hj
   exact .inr ⟨e,hj⟩
 have hmem:∀ {j l b},T[j]? =some l→b∈l→j≠k→ndAt ps' b.pg=ndAt ps b.pg:=fun hj hb hjk=>
  hnd _ (pgs_mem hj hb) (h.other hj hk hjk hb (by simp))
 refine ⟨fun j l hj=>?_,fun l hl=>?_,fun j up below hu hb=>?_,?_,?_,by rw [List.length_set]; exact h.ht⟩
 ·rcases get j l hj with ⟨rfl,rfl⟩ | ⟨hjk,hj⟩
  ·exact RepL.repl hpg hlow hrep (h.rep _ _ hk) fun b hb=>hnd _ (pgs_mem hk (by simp [hb])) (hpre b hb)
  ·exact (h.rep j l hj).keep fun b hb=>hmem hj hb hjk
 ·obtain ⟨j,hj⟩:=List.mem_iff_getElem?.1 hl
  rcases get j l hj with ⟨_,rfl⟩ | ⟨_,hj⟩
  ·exact hlv
  ·exact h.lv l (List.mem_of_getElem? hj)
 ·rcases get _ _ hu with ⟨e1,rfl⟩ | ⟨hjk,hu2⟩
  ·rcases get _ _ hb with ⟨e2, _⟩ | ⟨_,hb⟩
   ·omega
   ·exact hin j below e1.symm hb
  ·rcases get _ _ hb with ⟨e2,rfl⟩ | ⟨_,hb⟩
   ·subst e2
    have hi:=h.inn _ _ _ hu2 hk
    intro c hc
    obtain ⟨h1,h2⟩:=hi c hc
    refine ⟨h1,fun e he=>?_⟩
    obtain ⟨m,hm,hm1,hm2⟩:=h2 e he
    rcases List.mem_append.1 hm with hm | hm
    ·exact ⟨m,by simp [hm],hm1,hm2⟩
    ·rcases List.mem_cons.1 hm with rfl | hm
     ·exact ⟨a',by simp,hpg.trans hm1,hlow.trans hm2⟩
     ·exact ⟨m,by simp [hm],hm1,hm2⟩
   ·exact h.inn j _ _ hu2 hb
 ·obtain ⟨r,hr1,hr2⟩:=h.top
  rw [List.getLast?_eq_getElem?] at hr1
  by_cases ek:k=T.length - 1
  ·have e:mid=[]:=htop.resolve_left (by omega)
   subst e
   rw [← ek,hk] at hr1
   injection hr1 with hr1
   have hl:pre=[]∧a=r∧suf=[]:=by
    cases pre with
    | nil=>injection hr1 with h1 h2; exact ⟨rfl,h1,h2⟩
    | cons c l=>exact absurd (congrArg List.length hr1) (by simp)
   obtain ⟨rfl,rfl,rfl⟩:=hl
   refine ⟨a',?_,hpg.trans hr2⟩
   rw [List.getLast?_eq_getElem?,List.length_set,← ek,List.getElem?_set_self hkl]; rfl
  ·refine ⟨r,?_,hr2⟩
   rw [List.getLast?_eq_getElem?,List.length_set,List.getElem?_set_ne ek]; exact hr1
 ·obtain ⟨T1,T2,e1,h1,h2⟩:=lv_split hk
  rw [h2,pgs_app]
  have hd:=h.dist
  rw [e1,pgs_app] at hd
  have hp:(pgsA T1++((pre++a'::(mid++suf)).map AbN.pg++pgsA T2)).Perm (mid.map AbN.pg++(pgsA T1++((pre++a::suf).map AbN.pg++pgsA T2))):=by
   rw [List.perm_iff_count]
   intro x
   simp only [List.map_append,List.map_cons,hpg,List.count_append,List.count_cons]
   omega
  refine hp.nodup_iff.2 (List.nodup_append.2 ⟨hmid,hd,fun x hx y hy e=>?_⟩)
  obtain ⟨b,hb,rfl⟩:=List.mem_map.1 hx
  subst e
  exact hnew b hb (by rw [e1,pgs_app]; exact hy)
end
section
open Go.RowKit
theorem LtA.trans_low {a b c:AbN} (hb:4≤b.low.size) (hc:4≤c.low.size) (h:LtA a b) (h2:lessF c.low b.low=false):LtA a c:=⟨lessF_lt_le hb hc h.1 h2,fun e he=>lessF_lt_le hb hc (h.2 e he) h2⟩
theorem LvOk.one {pre suf:List AbN} {a a':AbN} (h:LvOk (pre++a::suf)) (hlow:a'.low=a.low) (hv:NdV a') (hs:∀ c∈suf,∀ e∈a'.es,lessF e.1 c.low=true):LvOk (pre++a'::suf):=by
 obtain ⟨p1,p2,p3⟩:=List.pairwise_append.1 h.pw
 obtain ⟨p4,p5⟩:=List.pairwise_cons.1 p2
 refine ⟨List.pairwise_append.2 ⟨p1,List.pairwise_cons.2 ⟨fun c hc=>⟨by rw [hlow]; exact (p4 c hc).1,hs c hc⟩,p5⟩,fun b hb c hc=>?_⟩,fun c hc=>?_,?_⟩
 ·rcases List.mem_cons.1 hc with rfl | hc
  ·have:=p3 b hb a (by simp)
   exact ⟨by rw [hlow]; exact this.1,fun e he=>by rw [hlow]; exact this.2 e he⟩
  ·exact p3 b hb c (by simp [hc])
 ·rcases List.mem_append.1 hc with hc | hc
  ·exact h.nd c (by simp [hc])
  ·rcases List.mem_cons.1 hc with rfl | hc
   ·exact hv
   ·exact h.nd c (by simp [hc])
 ·obtain ⟨x,t,hx,hl⟩:=h.hd
  cases pre with
  | nil=>
    injection hx with h1 h2
    exact ⟨a',suf,rfl,by rw [hlow,h1]; exact hl⟩
  | cons y l=>
    injection hx with h1 h2
    exact ⟨y,l++a'::suf,rfl,by rw [h1]; exact hl⟩
theorem LvOk.two {pre suf:List AbN} {a a' b:AbN} (h:LvOk (pre++a::suf)) (hlow:a'.low=a.low) (hv:NdV a') (hvb:NdV b) (hab:LtA a' b) (h1:∀ e∈a'.es,e∈a.es) (h2:∀ e∈b.es,e∈a.es) (h3:∃ e∈a.es,e.1=b.low):LvOk (pre++a'::b::suf):=by
 obtain ⟨p1,p2,p3⟩:=List.pairwise_append.1 h.pw
 obtain ⟨p4,p5⟩:=List.pairwise_cons.1 p2
 obtain ⟨e0,he0,hl0⟩:=h3
 have hA:=h.nd a (by simp)
 refine ⟨List.pairwise_append.2 ⟨p1,List.pairwise_cons.2 ⟨fun c hc=>?_,List.pairwise_cons.2 ⟨fun c hc=>?_,p5⟩⟩,fun c hc d hd=>?_⟩,fun c hc=>?_,?_⟩
 ·rcases List.mem_cons.1 hc with rfl | hc
  ·exact hab
  ·exact ⟨by rw [hlow]; exact (p4 c hc).1,fun e he=>(p4 c hc).2 e (h1 e he)⟩
 ·exact ⟨by rw [← hl0]; exact (p4 c hc).2 e0 he0,fun e he=>(p4 c hc).2 e (h2 e he)⟩
 ·have hca:=p3 c hc a (by simp)
  rcases List.mem_cons.1 hd with rfl | hd
  ·exact ⟨by rw [hlow]; exact hca.1,fun e he=>by rw [hlow]; exact hca.2 e he⟩
  ·rcases List.mem_cons.1 hd with rfl | hd
   ·exact hca.trans_low hA.l4 hvb.l4 (by rw [← hl0]; exact hA.ge e0 he0)
   ·exact p3 c hc d (by simp [hd])
 ·rcases List.mem_append.1 hc with hc | hc
  ·exact h.nd c (by simp [hc])
  ·rcases List.mem_cons.1 hc with rfl | hc
   ·exact hv
   ·rcases List.mem_cons.1 hc with rfl | hc
    ·exact hvb
    ·exact h.nd c (by simp [hc])
 ·obtain ⟨x,t,hx,hl⟩:=h.hd
  cases pre with
  | nil=>
    injection hx with h1 h2
    exact ⟨a',b::suf,rfl,by rw [hlow,h1]; exact hl⟩
  | cons y l=>
    injection hx with h1 h2
    exact ⟨y,l++a'::b::suf,rfl,by rw [h1]; exact hl⟩
theorem has_ne {es:List EnD} {x:ByteArray} (h:hasE es x=false):∀ e∈es,e.1≠x:=fun e he e2=>by
 have:=List.any_eq_false.1 h e he
 rw [e2] at this
 simp at this
theorem has_in {es:List EnD} {x:ByteArray} (h:hasE es x=true):∃ e∈es,e.1=x:=by
 obtain ⟨e,he,h1⟩:=List.any_eq_true.1 h
 refine ⟨e,he,bl_inj ?_⟩
 rw [beq_iff_eq,ByteArray.toList_eq,ByteArray.toList_eq] at h1
 exact h1
/-- the next nodes lie behind the bound of the first of them -/
theorem LvOk.behind {pre suf:List AbN} {a:AbN} (h:LvOk (pre++a::suf)) {x:ByteArray} (hx:∀ b t,suf=b::t→lessF x b.low=true):∀ c∈suf,lessF x c.low=true:=fun c hc=>by
 obtain ⟨_,p2, _⟩:=List.pairwise_append.1 h.pw
 have p5:=(List.pairwise_cons.1 p2).2
 cases suf with
 | nil=>cases hc
 | cons b t=>
   rcases List.mem_cons.1 hc with rfl | hc
   ·exact hx _ _ rfl
   ·exact lessF_trans (hx _ _ rfl) ((List.pairwise_cons.1 p5).1 c hc).1
theorem Tr.pg_lt {ps:List PgS} {T:List (List AbN)} {root:Int} (h:Tr ps T root) {q:Int} (hq:q∈pgsA T):0≤q∧q < ps.length:=by
 obtain ⟨a,ha,rfl⟩:=List.mem_map.1 hq
 obtain ⟨l,hl,hal⟩:=List.mem_flatten.1 ha
 obtain ⟨k,hk⟩:=List.mem_iff_getElem?.1 hl
 obtain ⟨pre,suf,rfl⟩:=List.append_of_mem hal
 obtain ⟨n,hn, _⟩:=h.node hk
 exact ⟨(nd_at hn).1,(nd_at hn).2.1⟩
/-- the kid that is stored with an entry of level k -/
def kidA (k:Nat) (kid:Int):Int:=if 0 < (k:Int) then kid else -1
theorem Tr.put {ps:List PgS} {T:List (List AbN)} {root kid:Int} (h:Tr ps T root) {k:Nat} {pre suf:List AbN} {a:AbN} {n:NoD} {x:ByteArray} (hk:T[k]? =some (pre++a::suf)) (hn:ndAt ps a.pg=some n) (h4:4≤x.size) (hge:lessF x a.low=false)
  (hlt:∀ b t,suf=b::t→lessF x b.low=true) (hno:hasE n.es x=false) (h8:n.es.length < 8) (hps:ps.length≤60000) (hkid:∀ k0,k=k0+1→∃ below m,T[k0]? =some below∧m∈below∧m.pg=kid∧m.low=x):
  Tr (doB ps [(a.pg,(n.free:Int),itB (k:Int) kid x)]) (T.set k (pre++⟨a.pg,a.low,insA (x,kidA k kid) a.es⟩::suf)) root:=by
 obtain ⟨n0,hn0,hlv,hdd,hrt,hhi,hes⟩:=h.node hk
 rw [hn] at hn0
 injection hn0 with hn0
 subst hn0
 obtain ⟨hrep,hL⟩:=h.level hk
 have hA:=hL.nd a (by simp)
 have hb:0 < n.lv→0≤kid∧kid < 65536:=fun h0=>by
  obtain ⟨k0,rfl⟩:∃ k0,k=k0+1:=⟨k - 1,by omega⟩
  obtain ⟨below,m,hm1,hm2,hm3, _⟩:=hkid k0 rfl
  have:=h.pg_lt (pgs_mem hm1 hm2)
  omega
 obtain ⟨n',q1,⟨q2,q3,q4,q5⟩,q6⟩:=put_nd hn (by omega) hb h4
 rw [hlv] at q1 q6
 have hne:∀ y∈a.es,4≤y.1.size∧y.1≠x:=fun y hy=>by
  refine ⟨hA.z4 y hy,?_⟩
  rw [← hes] at hy
  obtain ⟨e,he,rfl⟩:=List.mem_map.1 hy
  exact has_ne hno e he
 have hris:=insA_ris (x:=(x,kidA k kid)) h4 hne hA.ris
 have hes':n'.es.map kv=insA (x,kidA k kid) a.es:=by
  refine nd_eq q1 ?_ hris
  refine (q6.map kv).trans ?_
  rw [List.map_cons,hes]
  exact (insA_perm _ _).symm
 have hbeh:=hL.behind hlt
 obtain ⟨_,pp, _⟩:=List.pairwise_append.1 hL.pw
 have hsuf:=(List.pairwise_cons.1 pp).1
 have hins:∀ e,e∈insA (x,kidA k kid) a.es→e=(x,kidA k kid)∨e∈a.es:=fun e he=>List.mem_cons.1 ((insA_perm _ _).mem_iff.1 he)
 have hv:NdV ⟨a.pg,a.low,insA (x,kidA k kid) a.es⟩:=by
  refine ⟨hris,fun e he=>?_,fun e he=>?_,hA.l4,?_⟩
  ·rcases hins e he with rfl | he
   ·exact hge
   ·exact hA.ge e he
  ·rcases hins e he with rfl | he
   ·exact h4
   ·exact hA.z4 e he
  ·have:=(insA_perm (x,kidA k kid) a.es).length_eq
   show (insA (x,kidA k kid) a.es).length≤8
   rw [this,List.length_cons,← hes,List.length_map]; omega
 have hother:∀ q,q≠a.pg→ndAt (doB ps [(a.pg,(n.free:Int),itB (k:Int) kid x)]) q=ndAt ps q:=fun q hq=>nd_other fun e he=>by rw [List.mem_singleton.1 he]; exact fun e=>hq e.symm
 refine h.repl (mid:=[]) (a':=⟨a.pg,a.low,insA (x,kidA k kid) a.es⟩) hk rfl rfl (fun q _ hq=>hother q hq) ⟨⟨n',q1,q2.trans hlv,q5.trans hdd,q3.trans hrt,q4.trans hhi,hes'⟩,?_⟩ ?_ ?_ (List.nodup_nil) (fun b hb=>nomatch hb) (.inr rfl)
 ·exact (RepL.mem hrep).2.keep fun b hb=>hother _ ((h.same hk).2 b hb)
 ·exact hL.one rfl hv fun c hc e he=>by
   rcases hins e he with rfl | he
   ·exact hbeh c hc
   ·exact (hsuf c hc).2 e he
 ·rintro k0 below rfl hb0 c hc
  have hin:=h.inn k0 _ _ hk hb0
  rcases List.mem_append.1 hc with hc | hc
  ·exact hin c (by simp [hc])
  ·rcases List.mem_cons.1 hc with rfl | hc
   ·obtain ⟨⟨k1,t,h1⟩,h2⟩:=hin a (by simp)
    refine ⟨⟨k1,insA (x,kidA (k0+1) kid) t,?_⟩,fun e he=>?_⟩
    ·show insA (x,kidA (k0+1) kid) a.es=(a.low,k1)::insA (x,kidA (k0+1) kid) t
     rw [h1,insA_head hge]
    ·rcases hins e he with rfl | he
     ·obtain ⟨below',m,hm1,hm2,hm3,hm4⟩:=hkid k0 rfl
      rw [hb0] at hm1
      injection hm1 with hm1
      subst hm1
      exact ⟨m,hm2,by rw [hm3,kidA,if_pos (by omega)],hm4⟩
     ·exact h2 e he
   ·have hc:c∈suf:=hc
    exact hin c (by simp [hc])
theorem take_ris {l:List Kv} (m:Nat) (h:l.Pairwise (fun x y=>lessF x.1 y.1=true)):(l.take m).Pairwise (fun x y=>lessF x.1 y.1=true)∧(l.drop m).Pairwise (fun x y=>lessF x.1 y.1=true)∧∀ x∈l.take m,∀ y∈l.drop m,lessF x.1 y.1=true:=by
 rw [← List.take_append_drop m l] at h
 exact List.pairwise_append.1 h
theorem Tr.cut {ps:List PgS} {T:List (List AbN)} {root fresh:Int} (h:Tr ps T root) {k:Nat} {pre suf:List AbN} {a:AbN} {n:NoD} (hk:T[k]? =some (pre++a::suf)) (hn:ndAt ps a.pg=some n) (h8:¬ n.es.length < 8) (htop:k+1 < T.length)
  (hits:∀ p∈ps,p.2.2.length≤101) (hps:ps.length≤60000) (hf0:0≤fresh) (hf1:fresh < ps.length) (hff:fresh∉pgsA T):
  Tr (doB ps (cutE a.pg n fresh)) (T.set k (pre++⟨a.pg,a.low,a.es.take 4⟩::⟨fresh,midE n,a.es.drop 4⟩::suf)) root∧a.es.length=8∧∃ kd t,a.es.drop 4=(midE n,kd)::t:=by
 obtain ⟨n0,hn0,hlv,hdd,hrt,hhi,hes⟩:=h.node hk
 rw [hn] at hn0
 injection hn0 with hn0
 subst hn0
 obtain ⟨hrep,hL⟩:=h.level hk
 have hA:=hL.nd a (by simp)
 have hlen:n.es.length=a.es.length:=by rw [← hes,List.length_map]
 have hl8:a.es.length=8:=by have:=hA.len; omega
 have hhalf:n.es.length / 2=4:=by omega
 have hg:(n.es.getD 4 (ByteArray.empty,0,0)).1=midE n:=by rw [midE,hhalf]
 have hn4:4 < n.es.length:=by omega
 have hmid:n.es[4]'hn4∈n.es:=List.getElem_mem _
 have hmE:midE n=(n.es[4]'hn4).1:=by rw [← hg,List.getD_eq_getElem?_getD,List.getElem?_eq_getElem hn4]; rfl
 have hm4:4≤(midE n).size:=by rw [hmE]; exact (nd_srt hn).2 _ hmid
 have hdrop:a.es.drop 4=(midE n,(n.es[4]'hn4).2.2)::a.es.drop 5:=by
  rw [← hes,← List.map_drop,List.drop_eq_getElem_cons hn4,List.map_cons,← List.map_drop,hmE]; rfl
 obtain ⟨hp0,hp1, _⟩:=nd_at hn
 have hne:fresh≠a.pg:=fun e=>hff (by rw [e]; exact pgs_mem hk (by simp))
 obtain ⟨⟨n1,f1,f2,f3,f4,f5,f6⟩,⟨n2,c1,c2,c3,c4,c5,c6⟩,hoth⟩:=cut_nd hn (hits _ (getD_mem' (l:=ps) (n:=a.pg.toNat) (d:=pgs0) (by omega)).2) hf0 hf1 hps hne (by omega) hm4
 obtain ⟨r1,r2,r3⟩:=take_ris 4 hA.ris
 have hmem:(midE n,(n.es[4]'hn4).2.2)∈a.es:=List.mem_of_mem_drop (by rw [hdrop]; exact List.mem_cons_self ..)
 have e1:n1.es.map kv=a.es.drop 4:=nd_eq f1 (by rw [hhalf] at f6; refine f6.trans (List.Perm.of_eq ?_); rw [List.map_drop,hes]) r2
 have e2:n2.es.map kv=a.es.take 4:=nd_eq c1 (by rw [hhalf] at c6; refine (c6.map kv).trans (List.Perm.of_eq ?_); rw [List.map_take,hes]) r1
 have hv1:NdV ⟨a.pg,a.low,a.es.take 4⟩:=⟨r1,fun e he=>hA.ge e (List.mem_of_mem_take he),fun e he=>hA.z4 e (List.mem_of_mem_take he),hA.l4,by show (a.es.take 4).length≤8; rw [List.length_take]; omega⟩
 have hvb:NdV ⟨fresh,midE n,a.es.drop 4⟩:=by
  refine ⟨r2,fun e he=>?_,fun e he=>hA.z4 e (List.mem_of_mem_drop he),hm4,by show (a.es.drop 4).length≤8; rw [List.length_drop]; omega⟩
  show lessF e.1 (midE n)=false
  rw [hdrop] at he r2
  rcases List.mem_cons.1 he with rfl | he
  ·exact lessF_irr _
  ·exact lessF_asym ((List.pairwise_cons.1 r2).1 e he)
 have hab:LtA ⟨a.pg,a.low,a.es.take 4⟩ ⟨fresh,midE n,a.es.drop 4⟩:=by
  have hz:0 < (a.es.take 4).length:=by rw [List.length_take]; omega
  have key:∀ e∈a.es.take 4,lessF e.1 (midE n)=true:=fun e he=>r3 e he _ (by rw [hdrop]; exact List.mem_cons_self ..)
  have h0:=List.getElem_mem hz
  exact ⟨lessF_le_lt hA.l4 (hA.z4 _ (List.mem_of_mem_take h0)) (hA.ge _ (List.mem_of_mem_take h0)) (key _ h0),key⟩
 refine ⟨?_,hl8, _, _,hdrop⟩
 refine h.repl (mid:=[⟨fresh,midE n,a.es.drop 4⟩]) (a':=⟨a.pg,a.low,a.es.take 4⟩) hk rfl rfl (fun q hq hqa=>hoth q (fun e=>hff (e ▸ hq)) hqa) ⟨⟨n2,c1,c2.trans hlv,c5,c3,c4,e2⟩,⟨n1,f1,f2.trans hlv,f5,f3.trans hrt,f4.trans hhi,e1⟩,?_⟩ ?_ ?_ (by simp) (fun b hb=>by rw [List.mem_singleton.1 hb]; exact hff) (.inl htop)
 ·exact (RepL.mem hrep).2.keep fun b hb=>hoth _ (fun e=>hff (by rw [← e]; exact pgs_mem hk (by simp [hb]))) ((h.same hk).2 b hb)
 ·exact hL.two rfl hv1 hvb hab (fun e he=>List.mem_of_mem_take he) (fun e he=>List.mem_of_mem_drop he) ⟨_,hmem,rfl⟩
 ·rintro k0 below rfl hb0 c hc
  have hin:=h.inn k0 _ _ hk hb0
  obtain ⟨⟨k1,t,h1⟩,h2⟩:=hin a (by simp)
  rcases List.mem_append.1 hc with hc | hc
  ·exact hin c (by simp [hc])
  ·rcases List.mem_cons.1 hc with rfl | hc
   ·refine ⟨⟨k1,t.take 3,?_⟩,fun e he=>h2 e (List.mem_of_mem_take he)⟩
    show a.es.take 4= _
    rw [h1]; rfl
   ·rcases List.mem_cons.1 hc with rfl | hc
    ·exact ⟨⟨_, _,hdrop⟩,fun e he=>h2 e (List.mem_of_mem_drop he)⟩
    ·have hc:c∈suf:=hc
     exact hin c (by simp [hc])
theorem nodup_bd:∀ (n:Nat) (l:List Int),l.Nodup→(∀ x∈l,0≤x∧x < (n:Int))→l.length≤n
 | 0,l, _,h=>by
   cases l with
   | nil=>exact Nat.le_refl _
   | cons x l=>have:=h x (by simp); omega
 | n+1,l,hd,h=>by
   have h1:=nodup_bd n (l.erase (n:Int)) (hd.erase _) fun x hx=>by
    have h2:=h x (List.mem_of_mem_erase hx)
    have h3:x≠(n:Int):=fun e=>by rw [e] at hx; exact (List.Nodup.not_mem_erase hd) hx
    omega
   have h4:=List.length_erase (a:=(n:Int)) (l:=l)
   split at h4<;>omega
theorem pgs_snoc (T:List (List AbN)) (l:List AbN):pgsA (T++[l])=pgsA T++l.map AbN.pg:=by simp [pgsA]
theorem lvs_le:∀ (T:List (List AbN)),(∀ l∈T,l≠[])→T.length≤(pgsA T).length
 | [], _=>Nat.zero_le _
 | l::T,h=>by
   have h1:=lvs_le T fun m hm=>h m (by simp [hm])
   have h2:0 < l.length:=List.length_pos_iff.2 (h l (by simp))
   have h3:pgsA (l::T)=l.map AbN.pg++pgsA T:=by simp [pgsA]
   rw [h3,List.length_append,List.length_map,List.length_cons]; omega
/-- pages, levels: no more than the book's -/
theorem Tr.bd {ps:List PgS} {T:List (List AbN)} {root:Int} (h:Tr ps T root):(pgsA T).length≤ps.length∧T.length≤(pgsA T).length:=by
 refine ⟨nodup_bd _ _ h.dist fun x hx=>h.pg_lt hx,lvs_le T fun l hl e=>?_⟩
 obtain ⟨a,t,h1, _⟩:=(h.lv l hl).hd
 rw [e] at h1; cases h1
/-- the level of the root -/
theorem Tr.root {ps:List PgS} {T:List (List AbN)} {root:Int} (h:Tr ps T root):∃ T0 r,T=T0++[[r]]∧r.pg=root∧r.low=leastB∧T[T0.length]? =some [r]:=by
 obtain ⟨r,h1,h2⟩:=h.top
 obtain ⟨T0,rfl⟩:=List.getLast?_eq_some_iff.1 h1
 obtain ⟨a,t,h3,h4⟩:=(h.lv [r] (by simp)).hd
 injection h3 with h3 _
 exact ⟨T0,r,rfl,h2,by rw [h3]; exact h4,by simp⟩
theorem Tr.grow {ps:List PgS} {T0:List (List AbN)} {root fresh:Int} {r:AbN} {n:NoD} (h:Tr ps (T0++[[r]]) root) (hr:r.pg=root) (hn:ndAt ps root=some n) (hits:∀ p∈ps,p.2.2.length≤101) (hps:ps.length≤150) (hf0:0≤fresh) (hf1:fresh < ps.length) (hff:fresh∉pgsA (T0++[[r]])):
  Tr (doB ps (growE root n fresh)) (T0++[[⟨fresh,r.low,r.es⟩],[⟨root,leastB,[(leastB,fresh)]⟩]]) root:=by
 have hk:(T0++[[r]])[T0.length]? =some ([]++r::[]):=by simp
 obtain ⟨n0,hn0,hlv,hdd,hrt,hhi,hes⟩:=h.node hk
 rw [hr,hn] at hn0
 injection hn0 with hn0
 subst hn0
 obtain ⟨hrep,hL⟩:=h.level hk
 have hA:=hL.nd r (by simp)
 have hlow:r.low=leastB:=by
  obtain ⟨a,t,h1,h2⟩:=hL.hd
  injection h1 with h1 _
  rw [h1]; exact h2
 obtain ⟨hp0,hp1, _⟩:=nd_at hn
 have hne:fresh≠root:=fun e=>hff (by rw [e,← hr]; exact pgs_mem hk (by simp))
 have hbd:=h.bd
 have hht:(T0++[[r]]).length=T0.length+1:=by simp
 have hlen:n.es.length=r.es.length:=by rw [← hes,List.length_map]
 have hl8:=hA.len
 obtain ⟨⟨n1,f1,f2,f3,f4,f5,f6⟩,⟨n2,c1,c2,c3,c4,c5,c6⟩,hoth⟩:=grow_nd hn (hits _ (getD_mem' (l:=ps) (n:=root.toNat) (d:=pgs0) (by omega)).2) hf0 hf1 (by omega) hne (by omega) (by omega)
 have e1:n1.es.map kv=r.es:=nd_eq f1 (f6.trans (List.Perm.of_eq hes)) hA.ris
 have hl4:4≤leastB.size:=by rw [leastB_size]; omega
 have hother:∀ {j:Nat} {l:List AbN} {b:AbN},T0[j]? =some l→b∈l→ndAt (doB ps (growE root n fresh)) b.pg=ndAt ps b.pg:=fun {j l b} hj hb=>by
  have hjl:=(List.getElem?_eq_some_iff.1 hj).1
  have hj':(T0++[[r]])[j]? =some l:=by rw [List.getElem?_append_left hjl]; exact hj
  refine hoth _ (fun e=>hff (by rw [← e]; exact pgs_mem hj' hb)) ?_
  have:=h.other hj' hk (by omega) hb (b:=r) (by simp)
  rw [hr] at this; exact this
 have get:∀ (j:Nat) l,(T0++[[⟨fresh,r.low,r.es⟩],[⟨root,leastB,[(leastB,fresh)]⟩]])[j]? =some l→(T0[j]? =some l∧j < T0.length)∨(j=T0.length∧l=[⟨fresh,r.low,r.es⟩])∨(j=T0.length+1∧l=[⟨root,leastB,[(leastB,fresh)]⟩]):=fun j l hj=>by
  rcases Nat.lt_or_ge j T0.length with h1 | h1
  ·rw [List.getElem?_append_left h1] at hj; exact .inl ⟨hj,h1⟩
  ·rw [List.getElem?_append_right h1] at hj
   obtain ⟨i,hi⟩:∃ i,j - T0.length=i:=⟨_,rfl⟩
   rw [hi] at hj
   match i with
   | 0=>injection hj with hj; exact .inr (.inl ⟨by omega,hj.symm⟩)
   | 1=>injection hj with hj; exact .inr (.inr ⟨by omega,hj.symm⟩)
   | i+2=>cases hj
 refine ⟨fun j l hj=>?_,fun l hl=>?_,fun j up below hu hb=>?_,⟨⟨root,leastB,[(leastB,fresh)]⟩,by simp,rfl⟩,?_,by simp; omega⟩
 ·rcases get j l hj with ⟨hj,hjl⟩ | ⟨rfl,rfl⟩ | ⟨rfl,rfl⟩
  ·exact (h.rep j l (by rw [List.getElem?_append_left hjl]; exact hj)).keep fun b hb=>hother hj hb
  ·exact ⟨⟨n1,f1,f2.trans hlv,f5,f3,f4,e1⟩,trivial⟩
  ·exact ⟨⟨n2,c1,by rw [c2,hlv]; rfl,c5,c3,c4,c6⟩,trivial⟩
 ·obtain ⟨j,hj⟩:=List.mem_iff_getElem?.1 hl
  rcases get j l hj with ⟨hj,hjl⟩ | ⟨rfl,rfl⟩ | ⟨rfl,rfl⟩
  ·exact h.lv l (List.mem_append_left _ (List.mem_of_getElem? hj))
  ·exact ⟨List.pairwise_singleton _ _,fun a ha=>by rw [List.mem_singleton.1 ha]; exact ⟨hA.ris,hA.ge,hA.z4,hA.l4,hA.len⟩, _, _,rfl,hlow⟩
  ·refine ⟨List.pairwise_singleton _ _,fun a ha=>?_, _, _,rfl,rfl⟩
   rw [List.mem_singleton.1 ha]
   exact ⟨List.pairwise_singleton _ _,fun e he=>by rw [List.mem_singleton.1 he]; exact lessF_irr _,fun e he=>by rw [List.mem_singleton.1 he]; exact hl4,hl4,by simp⟩
 ·rcases get _ _ hu with ⟨hu,hul⟩ | ⟨e1,rfl⟩ | ⟨e1,rfl⟩
  ·rcases get _ _ hb with ⟨hb,hbl⟩ | ⟨e2, _⟩ | ⟨e2, _⟩
   ·exact h.inn j _ _ (by rw [List.getElem?_append_left hul]; exact hu) (by rw [List.getElem?_append_left hbl]; exact hb)
   ·omega
   ·omega
  ·rcases get _ _ hb with ⟨hb,hbl⟩ | ⟨e2, _⟩ | ⟨e2, _⟩
   ·have hi:=h.inn j [r] below (by rw [e1]; exact hk) (by rw [List.getElem?_append_left hbl]; exact hb)
    intro c hc
    rw [List.mem_singleton.1 hc]
    exact hi r (by simp)
   ·omega
   ·omega
  ·rcases get _ _ hb with ⟨hb,hbl⟩ | ⟨e2,rfl⟩ | ⟨e2, _⟩
   ·omega
   ·intro c hc
    rw [List.mem_singleton.1 hc]
    refine ⟨⟨fresh,[],rfl⟩,fun e he=>?_⟩
    rw [List.mem_singleton.1 he]
    exact ⟨⟨fresh,r.low,r.es⟩,by simp,rfl,hlow⟩
   ·omega
 ·have hd:=h.dist
  rw [pgs_snoc] at hd hff
  have e3:pgsA (T0++[[⟨fresh,r.low,r.es⟩],[⟨root,leastB,[(leastB,fresh)]⟩]])=pgsA T0++[fresh,root]:=by simp [pgsA]
  rw [e3]
  have hp:(pgsA T0++[fresh,root]).Perm (fresh::(pgsA T0++[r].map AbN.pg)):=by
   rw [show [r].map AbN.pg=[root] by rw [← hr]; rfl]
   exact List.perm_middle
  exact hp.nodup_iff.2 (List.nodup_cons.2 ⟨hff,hd⟩)
end
section
open Go.RowKit
def PosOk (T:List (List AbN)) (pos:Int) (x:ByteArray) (tl:Int):Prop:=∃ (k:Nat) (l:List AbN) (a:AbN),T[k]? =some l∧a∈l∧a.pg=pos∧tl≤(k:Int)∧lessF x a.low=false
def TaskOk (T:List (List AbN)) (t:TaT):Prop:=4≤t.1.size∧(t.2.1=0∨∃ (j:Nat) (below:List AbN) (m:AbN),t.2.1=(j:Int)+1∧j+1 < T.length∧T[j]? =some below∧m∈below∧m.pg=t.2.2∧m.low=t.1)
structure InsOk (T:List (List AbN)) (root:Int) (p:PuT):Prop where
 rt:p.root=root
 pos:∀ t l,p.left=t::l→PosOk T p.pos t.1 t.2.1
 tasks:∀ t∈p.left,TaskOk T t
/-- places and pending entries stay good -/
structure Evo (T T':List (List AbN)):Prop where
 pos:∀ pos x tl,PosOk T pos x tl→PosOk T' pos x tl
 task:∀ t,TaskOk T t→TaskOk T' t
theorem Evo.refl (T:List (List AbN)):Evo T T:=⟨fun _ _ _ h=>h,fun _ h=>h⟩
theorem Evo.repl {T:List (List AbN)} {k:Nat} {pre suf mid:List AbN} {a a':AbN} (hk:T[k]? =some (pre++a::suf)) (hpg:a'.pg=a.pg) (hlow:a'.low=a.low):Evo T (T.set k (pre++a'::(mid++suf))):=by
 obtain ⟨hkl, -⟩:=List.getElem?_eq_some_iff.1 hk
 have get:∀ (j:Nat) l (c:AbN),T[j]? =some l→c∈l→∃ l' c',(T.set k (pre++a'::(mid++suf)))[j]? =some l'∧c'∈l'∧c'.pg=c.pg∧c'.low=c.low:=fun j l c hj hc=>by
  by_cases e:j=k
  ·subst e
   rw [hk] at hj
   injection hj with hj
   subst hj
   refine ⟨pre++a'::(mid++suf),?_⟩
   rw [List.getElem?_set_self hkl]
   rcases List.mem_append.1 hc with hc | hc
   ·exact ⟨c,rfl,by simp [hc],rfl,rfl⟩
   ·rcases List.mem_cons.1 hc with rfl | hc
    ·exact ⟨a',rfl,by simp,hpg,hlow⟩
    ·exact ⟨c,rfl,by simp [hc],rfl,rfl⟩
  ·exact ⟨l,c,by rw [List.getElem?_set_ne (fun e2=>e e2.symm)]; exact hj,hc,rfl,rfl⟩
 refine ⟨fun pos x tl h=>?_,fun t h=>⟨h.1,?_⟩⟩
 ·obtain ⟨j,l,c,hj,hc,h1,h2,h3⟩:=h
  obtain ⟨l',c',g1,g2,g3,g4⟩:=get j l c hj hc
  exact ⟨j,l',c',g1,g2,g3.trans h1,h2,by rw [g4]; exact h3⟩
 ·rcases h.2 with h0 | ⟨j,l,c,h1,h2,hj,hc,h3,h4⟩
  ·exact .inl h0
  ·obtain ⟨l',c',g1,g2,g3,g4⟩:=get j l c hj hc
   exact .inr ⟨j,l',c',h1,by rw [List.length_set]; exact h2,g1,g2,g3.trans h3,g4.trans h4⟩
theorem Evo.grow {T0:List (List AbN)} {root fresh:Int} {r:AbN} (hr:r.pg=root):Evo (T0++[[r]]) (T0++[[⟨fresh,r.low,r.es⟩],[⟨root,leastB,[(leastB,fresh)]⟩]]):=by
 have old:∀ {j:Nat} {l:List AbN},(T0++[[r]])[j]? =some l→(j < T0.length∧(T0++[[⟨fresh,r.low,r.es⟩],[⟨root,leastB,[(leastB,fresh)]⟩]])[j]? =some l)∨(j=T0.length∧l=[r]):=fun {j l} hj=>by
  rcases Nat.lt_or_ge j T0.length with h1 | h1
  ·rw [List.getElem?_append_left h1] at hj
   exact .inl ⟨h1,by rw [List.getElem?_append_left h1]; exact hj⟩
  ·rw [List.getElem?_append_right h1] at hj
   obtain ⟨i,hi⟩:∃ i,j - T0.length=i:=⟨_,rfl⟩
   rw [hi] at hj
   match i with
   | 0=>injection hj with hj; exact .inr ⟨by omega,hj.symm⟩
   | i+1=>cases hj
 refine ⟨fun pos x tl h=>?_,fun t h=>⟨h.1,?_⟩⟩
 ·obtain ⟨j,l,c,hj,hc,h1,h2,h3⟩:=h
  rcases old hj with ⟨_,hj⟩ | ⟨rfl,rfl⟩
  ·exact ⟨j,l,c,hj,hc,h1,h2,h3⟩
  ·rw [List.mem_singleton] at hc
   subst hc
   refine ⟨T0.length+1,[⟨root,leastB,[(leastB,fresh)]⟩], _,?_,List.mem_singleton.2 rfl,hr.symm.trans h1,by omega,least_le _⟩
   rw [List.getElem?_append_right (by omega),show T0.length+1 - T0.length=1 by omega]; rfl
 ·rcases h.2 with h0 | ⟨j,l,c,h1,h2,hj,hc,h3,h4⟩
  ·exact .inl h0
  ·rcases old hj with ⟨h5,hj⟩ | ⟨rfl,rfl⟩
   ·exact .inr ⟨j,l,c,h1,by simp at h2 ⊢; omega,hj,hc,h3,h4⟩
   ·simp at h2
/-- one node on: to the right, or down -/
inductive Mv (T:List (List AbN)) (tl:Int) (pos pos':Int):Prop
 | right (k:Nat) (pre suf:List AbN) (a b:AbN) (hk:T[k]? =some (pre++a::b::suf)) (h1:a.pg=pos) (h2:b.pg=pos') (h3:tl≤(k:Int))
 | down (k:Nat) (l below:List AbN) (a m:AbN) (hk:T[k+1]? =some l) (ha:a∈l) (hb:T[k]? =some below) (hm:m∈below) (h1:a.pg=pos) (h2:m.pg=pos') (h3:tl≤(k:Int))
/-- what a step does -/
inductive Out (T T':List (List AbN)) (p p':PuT) (g:GoT) (fresh:Int):Prop
 | idle (h:p.left=[]) (hT:T'=T) (hl:p'.left=[]) (hf:p'.leaf=p.leaf) (hu:g.used=false) (he:g.eds=[])
 | move (t:TaT) (l:List TaT) (h:p.left=t::l) (hT:T'=T) (hl:p'.left=t::l) (hf:p'.leaf=p.leaf) (hu:g.used=false) (he:g.eds=[]) (hm:Mv T t.2.1 p.pos p'.pos)
 | there (t:TaT) (l:List TaT) (k:Nat) (pre suf:List AbN) (a:AbN) (h:p.left=t::l) (hk:t.2.1=(k:Int)) (hT:T'=T) (ht:T[k]? =some (pre++a::suf)) (hin:∃ y∈a.es,y.1=t.1) (hl:p'.left=l) (hf:p'.leaf=if k=0 then a.pg else p.leaf) (hu:g.used=false) (he:g.eds=[])
 | put (t:TaT) (l:List TaT) (k:Nat) (pre suf:List AbN) (a:AbN) (h:p.left=t::l) (hk:t.2.1=(k:Int)) (ht:T[k]? =some (pre++a::suf)) (hT:T'=T.set k (pre++⟨a.pg,a.low,insA (t.1,kidA k t.2.2) a.es⟩::suf)) (hno:∀ y∈a.es,y.1≠t.1) (hl:p'.left=l) (hf:p'.leaf=if k=0 then a.pg else p.leaf) (hu:g.used=false)
 | cut (t:TaT) (l:List TaT) (k:Nat) (pre suf:List AbN) (a:AbN) (mid:ByteArray) (h:p.left=t::l) (hk:t.2.1=(k:Int)) (ht:T[k]? =some (pre++a::suf)) (h8:a.es.length=8) (htop:k+1 < T.length) (hT:T'=T.set k (pre++⟨a.pg,a.low,a.es.take 4⟩::⟨fresh,mid,a.es.drop 4⟩::suf)) (hl:p'.left=t::l++[(mid,(k:Int)+1,fresh)]) (hf:p'.leaf=p.leaf) (hp:p'.pos=p.pos) (hpa:a.pg=p.pos) (hu:g.used=true)
 | grow (t:TaT) (l:List TaT) (T0:List (List AbN)) (r:AbN) (h:p.left=t::l) (hk:t.2.1=(T0.length:Int)) (ht:T=T0++[[r]]) (hr:r.pg=p.root) (h8:r.es.length=8) (hT:T'=T0++[[⟨fresh,r.low,r.es⟩],[⟨p.root,leastB,[(leastB,fresh)]⟩]]) (hl:p'.left=t::l) (hf:p'.leaf=p.leaf) (hp:p'.pos=fresh) (hpa:p.pos=p.root) (hu:g.used=true)
theorem ne_nil_size {b:ByteArray} (h:4≤b.size):(b.toList==(⟨#[]⟩:ByteArray).toList)=false:=by
 rw [beq_eq_false_iff_ne,ByteArray.toList_eq,ByteArray.toList_eq]
 intro e
 have h2:=bl_len b
 have h3:bl b=[]:=e
 rw [h3] at h2
 simp at h2
 omega
def sndA:List AbN→ByteArray→Bool
 | [], _=>false
 | b:: _,x=>!lessF x b.low
/-- does a node of the tree send an entry on -/
theorem snd_next {n:NoD} {suf:List AbN} {x:ByteArray} (hd:n.dead=false) (hh:n.high=hiA suf) (h4:∀ b∈suf,4≤b.low.size):sndB n.dead n.high x=sndA suf x:=by
 rw [sndB,hd,hh,Bool.false_or]
 cases suf with
 | nil=>rw [show (hiA []).toList=(⟨#[]⟩:ByteArray).toList from rfl,beq_self_eq_true]; rfl
 | cons b s=>
   show (!(b.low.toList==(⟨#[]⟩:ByteArray).toList)&&!lessF x b.low)= _
   rw [ne_nil_size (h4 b (by simp))]; rfl
theorem LvOk.l4 {l:List AbN} (h:LvOk l):∀ b∈l,4≤b.low.size:=fun b hb=>(h.nd b hb).l4
/-- down: the child whose least entry is the last that x does not stand ahead of -/
theorem down_at {es:List EnD} {x:ByteArray} (hk:∀ e∈es,0≤e.2.2) (hr:es.Pairwise (fun a b=>lessF a.1 b.1=true)) (h4:∀ e∈es,4≤e.1.size) (hx:4≤x.size) (h0:∃ e∈es,lessF x e.1=false):∃ e∈es,downF x es (-1)=e.2.2∧lessF x e.1=false:=by
 have key:∀ (r l:List EnD),es=r.reverse++l→(∀ y∈l,lessF x y.1=true)→(∃ e∈r,lessF x e.1=false)→∃ e∈es,downF x es (-1)=e.2.2∧lessF x e.1=false:=by
  intro r
  induction r with
  | nil=>rintro l _ _ ⟨e,he, _⟩; cases he
  | cons c r ih=>
    intro l he hl hex
    cases hc:lessF x c.1 with
    | false=>
      refine ⟨c,by rw [he]; simp,?_,hc⟩
      have e2:es=r.reverse++c::l:=by rw [he,List.reverse_cons,List.append_assoc]; rfl
      rw [e2]
      exact downF_hit (hk c (by rw [he]; simp)) hc hl
    | true=>
      refine ih (c::l) (by rw [he,List.reverse_cons,List.append_assoc]; rfl) (fun y hy=>?_) ?_
      ·rcases List.mem_cons.1 hy with rfl | hy
       ·exact hc
       ·exact hl y hy
      ·obtain ⟨e,he1,he2⟩:=hex
       rcases List.mem_cons.1 he1 with rfl | he1
       ·rw [hc] at he2; cases he2
       ·exact ⟨e,he1,he2⟩
 exact key es.reverse [] (by simp) (fun y hy=>nomatch hy) (by obtain ⟨e,he,h⟩:=h0; exact ⟨e,by simpa using he,h⟩)
theorem kv_mem {es:List EnD} {l:List Kv} (h:es.map kv=l) {e:EnD} (he:e∈es):(e.1,e.2.2)∈l:=by rw [← h]; exact List.mem_map.2 ⟨e,he,rfl⟩
/-- from a node of an inner level, down -/
theorem Tr.down {ps:List PgS} {T:List (List AbN)} {root:Int} (h:Tr ps T root) {k:Nat} {pre suf:List AbN} {a:AbN} {n:NoD} {x:ByteArray} (hk:T[k+1]? =some (pre++a::suf)) (hn:ndAt ps a.pg=some n) (hx:4≤x.size) (hge:lessF x a.low=false):
  ∃ below m,T[k]? =some below∧m∈below∧downF x n.es (-1)=m.pg∧lessF x m.low=false:=by
 obtain ⟨n0,hn0,hlv,hdd,hrt,hhi,hes⟩:=h.node hk
 rw [hn] at hn0
 injection hn0 with hn0
 subst hn0
 have hkl:=(List.getElem?_eq_some_iff.1 hk).1
 have hb:T[k]? =some (T[k]'(by omega)):=List.getElem?_eq_getElem (by omega)
 obtain ⟨⟨k1,t,h1⟩,h2⟩:=h.inn k _ _ hk hb a (by simp)
 have hA:=(h.level hk).2.nd a (by simp)
 have h4:=(nd_srt hn).2
 have hr:n.es.Pairwise (fun a b=>lessF a.1 b.1=true):=by have:=hA.ris; rw [← hes] at this; exact List.pairwise_map.1 this
 have hkid:=(nd_hd (nd_at hn).2.2).2.2.2
 obtain ⟨e,he,hd,hl⟩:=down_at (x:=x) (fun e he=>((hkid e he).1 (by omega)).1) hr h4 hx (by
  have hm:(a.low,k1)∈n.es.map kv:=by rw [hes,h1]; exact List.mem_cons_self ..
  obtain ⟨e,he,he2⟩:=List.mem_map.1 hm
  injection he2 with e1 e2
  exact ⟨e,he,by rw [e1]; exact hge⟩)
 obtain ⟨m,hm,hm1,hm2⟩:=h2 _ (kv_mem hes he)
 exact ⟨_,m,hb,hm,hd.trans hm1.symm,by rw [hm2]; exact hl⟩
/-- the page of the root stands in the top level alone -/
theorem Tr.at_root {ps:List PgS} {T:List (List AbN)} {root:Int} (h:Tr ps T root) {k:Nat} {l:List AbN} {a:AbN} (hk:T[k]? =some l) (ha:a∈l) (hp:a.pg=root):k+1=T.length:=by
 obtain ⟨T0,r,e,h1, _,h2⟩:=h.root
 by_cases hj:k=T0.length
 ·rw [e,hj]; simp
 ·exact absurd (hp.trans h1.symm) (h.other hk h2 hj ha (by simp))
theorem Tr.not_root {ps:List PgS} {T:List (List AbN)} {root:Int} (h:Tr ps T root) {k:Nat} {l:List AbN} {a:AbN} (hk:T[k]? =some l) (ha:a∈l) (hp:a.pg≠root):k+1 < T.length:=by
 obtain ⟨T0,r,e,h1, _,h2⟩:=h.root
 have hkl:=(List.getElem?_eq_some_iff.1 hk).1
 by_cases hj:k=T0.length
 ·subst hj
  rw [hk] at h2
  injection h2 with h2
  rw [h2] at ha
  rw [List.mem_singleton.1 ha] at hp
  exact absurd h1 hp
 ·have:T.length=T0.length+1:=by rw [e]; simp
  omega
/-- at the root for any pending entry -/
theorem pos_root {ps:List PgS} {T:List (List AbN)} {root:Int} (h:Tr ps T root) {t:TaT} (ht:TaskOk T t):PosOk T root t.1 t.2.1:=by
 obtain ⟨T0,r,e,h1,h2,h3⟩:=h.root
 refine ⟨T0.length,[r],r,h3,by simp,h1,?_,by rw [h2]; exact least_le _⟩
 have:T.length=T0.length+1:=by rw [e]; simp
 rcases ht.2 with h0 | ⟨j, _, _,h4,h5, _⟩
 ·omega
 ·omega
theorem ins_step {ps:List PgS} {T:List (List AbN)} {root fresh:Int} {p:PuT} (h:Tr ps T root) (hi:InsOk T root p) (hits:∀ q∈ps,q.2.2.length≤101) (hps:ps.length≤150) (hf0:0≤fresh) (hf1:fresh < ps.length) (hff:fresh∉pgsA T):
  ∃ T',Tr (doB ps (stepF ps p fresh).2.eds) T' root∧InsOk T' root (stepF ps p fresh).1∧Evo T T'∧(stepF ps p fresh).2.err=0∧Out T T' p (stepF ps p fresh).1 (stepF ps p fresh).2 fresh:=by
 obtain ⟨root',pos,leaf,left,fro,to,spl⟩:=p
 have hrt:root'=root:=hi.rt
 subst hrt
 have hnil:Tr (doB ps []) T root':=h
 cases left with
 | nil=>
   refine ⟨T,hnil,⟨rfl,fun t l e=>(nomatch e),fun t ht=>(nomatch ht)⟩,Evo.refl T,rfl, .idle rfl rfl rfl rfl rfl rfl⟩
 | cons t l=>
   obtain ⟨te,tl,tk⟩:=t
   obtain ⟨k,lv,a,hk,ha,hpg,htl,hge⟩:=hi.pos _ _ rfl
   have hpg:a.pg=pos:=hpg
   have htl:tl≤(k:Int):=htl
   have hge:lessF te a.low=false:=hge
   obtain ⟨pre,suf,rfl⟩:=List.append_of_mem ha
   obtain ⟨n,hn,hlv,hdd,hrt,hhi,hes⟩:=h.node hk
   have hL:=(h.level hk).2
   have htask:TaskOk T (te,tl,tk):=hi.tasks _ (List.mem_cons_self ..)
   have h4:4≤te.size:=htask.1
   have hsn:=snd_next (x:=te) hdd hhi fun b hb=>hL.l4 b (by simp [hb])
   rw [hpg] at hn
   have hA:=hL.nd a (by simp)
   cases hs:sndB n.dead n.high te with
   | true=>
     rw [hs] at hsn
     cases suf with
     | nil=>cases hsn
     | cons b suf=>
       have hb0:lessF te b.low=false:=by simpa [sndA] using hsn.symm
       have hbp:=h.pg_lt (pgs_mem hk (a:=b) (by simp))
       have hr0:¬ n.right < 0:=by rw [hrt]; show ¬ b.pg < 0; omega
       rw [st_right hn hs hr0]
       refine ⟨T,hnil,⟨rfl,fun t l' e=>?_,hi.tasks⟩,Evo.refl T,rfl, .move _ _ rfl rfl rfl rfl rfl rfl (.right k pre suf a b hk hpg hrt.symm htl)⟩
       injection e with e1 e2
       subst e1
       exact ⟨k, _,b,hk,by simp,hrt.symm,htl,hb0⟩
   | false=>
     have hlt:∀ b s,suf=b::s→lessF te b.low=true:=by
      rintro b s rfl
      rw [hs] at hsn
      cases hc:lessF te b.low with
      | true=>rfl
      | false=>simp [sndA,hc] at hsn
     by_cases hl:tl < n.lv
     ·obtain ⟨k0,rfl⟩:∃ k0,k=k0+1:=by
       refine ⟨k - 1,?_⟩
       have:0≤tl:=by
        rcases htask.2 with h0 | ⟨j, _, _,h1, _⟩
        ·exact Int.le_of_eq h0.symm
        ·have h1:tl=(j:Int)+1:=h1
         omega
       omega
      obtain ⟨below,m,hb,hm,hd,hml⟩:=h.down hk (by rw [hpg]; exact hn) h4 hge
      rw [st_down hn hs hl]
      have htk:tl≤(k0:Int):=by omega
      refine ⟨T,hnil,⟨rfl,fun t l' e=>?_,hi.tasks⟩,Evo.refl T,rfl, .move _ _ rfl rfl rfl rfl rfl rfl (.down k0 _ below a m hk (by simp) hb hm hpg hd.symm htk)⟩
      injection e with e1 e2
      subst e1
      exact ⟨k0,below,m,hb,hm,hd.symm,htk,hml⟩
     ·have hkt:tl=(k:Int):=by omega
      have hm:¬ n.lv < tl:=by omega
      have hrest:∀ {T':List (List AbN)} {q:PuT},Tr (doB ps (stepF ps ⟨root',pos,leaf,(te,tl,tk)::l,fro,to,spl⟩ fresh).2.eds) T' root'→Evo T T'→q.root=root'→q.pos=root'→q.left=l→InsOk T' root' q:=fun {T' q} hT hev e1 e2 e3=>by
       refine ⟨e1,fun t l' e=>?_,fun t ht=>?_⟩
       ·rw [e2]
        exact pos_root hT (hev.task t (hi.tasks t (by rw [e3] at e; show t∈(te,tl,tk)::l; rw [e]; simp)))
       ·rw [e3] at ht
        exact hev.task t (hi.tasks t (List.mem_cons_of_mem _ ht))
      cases ht:hasE n.es te with
      | true=>
        have e0:=st_there (root:=root') (leaf:=leaf) (lf:=l) (tk:=tk) (fro:=fro) (to:=to) (spl:=spl) (fresh:=fresh) hn hs hl hm ht
        obtain ⟨e,he,hee⟩:=has_in ht
        refine ⟨T,by rw [e0]; exact hnil,hrest (by rw [e0]; exact hnil) (Evo.refl T) (by rw [e0]) (by rw [e0]) (by rw [e0]),Evo.refl T,by rw [e0],?_⟩
        rw [e0]
        refine .there _ _ k pre suf a rfl hkt rfl hk ⟨_,kv_mem hes he,hee⟩ rfl ?_ rfl rfl
        show (if tl=0 then pos else leaf)= _
        rw [hpg]
        by_cases h0:k=0
        ·rw [if_pos h0,if_pos (by omega)]
        ·rw [if_neg h0,if_neg (by omega)]
      | false=>
        have hne:∀ y∈a.es,y.1≠te:=fun y hy=>by
         rw [← hes] at hy
         obtain ⟨e,he,rfl⟩:=List.mem_map.1 hy
         exact has_ne ht e he
        by_cases h8:n.es.length < 8
        ·have e0:=st_put (root:=root') (leaf:=leaf) (lf:=l) (tk:=tk) (fro:=fro) (to:=to) (spl:=spl) (fresh:=fresh) hn hs hl hm ht h8
         have hT:=h.put (kid:=tk) hk (by rw [hpg]; exact hn) h4 hge hlt ht h8 (by omega) (by
          rintro k0 rfl
          rcases htask.2 with h0 | ⟨j,below,m,h1,h2,h3,h5,h6,h7⟩
          ·have h0:tl=0:=h0
           omega
          ·have h1:tl=(j:Int)+1:=h1
           obtain rfl:j=k0:=by omega
           exact ⟨below,m,h3,h5,h6,h7⟩)
         rw [hpg,← hkt] at hT
         have hev:Evo T (T.set k (pre++⟨pos,a.low,insA (te,kidA k tk) a.es⟩::suf)):=Evo.repl (mid:=[]) hk hpg.symm rfl
         refine ⟨_,by rw [e0]; exact hT,hrest (by rw [e0]; exact hT) hev (by rw [e0]) (by rw [e0]) (by rw [e0]),hev,by rw [e0],?_⟩
         rw [e0]
         refine .put _ _ k pre suf a rfl hkt hk (by rw [hpg]) hne rfl ?_ rfl
         show (if tl=0 then pos else leaf)= _
         rw [hpg]
         by_cases h0:k=0
         ·rw [if_pos h0,if_pos (by omega)]
         ·rw [if_neg h0,if_neg (by omega)]
        ·by_cases hr:pos=root'
         ·subst hr
          have e0:=st_grow (leaf:=leaf) (lf:=l) (tk:=tk) (fro:=fro) (to:=to) (spl:=spl) (fresh:=fresh) hn hs hl hm ht h8 (by omega) rfl
          obtain ⟨T0,r,rfl,h1,h2,h3⟩:=h.root
          have hkT:=h.at_root hk (by simp) hpg
          obtain rfl:k=T0.length:=by simp at hkT; omega
          rw [hk] at h3
          injection h3 with h3
          have har:pre=[]∧a=r∧suf=[]:=by
           cases pre with
           | nil=>injection h3 with e1 e2; exact ⟨rfl,e1,e2⟩
           | cons c s=>exact absurd (congrArg List.length h3) (by simp)
          obtain ⟨rfl,rfl,rfl⟩:=har
          have hT:=h.grow h1 hn hits hps hf0 hf1 hff
          have hl8:a.es.length=8:=by have:=hA.len; rw [← hes,List.length_map] at this ⊢; omega
          have hev:Evo (T0++[[a]]) (T0++[[⟨fresh,a.low,a.es⟩],[⟨pos,leastB,[(leastB,fresh)]⟩]]):=Evo.grow h1
          rw [e0]
          refine ⟨_,hT,⟨rfl,fun t l' e=>?_,fun t ht=>hev.task t (hi.tasks t ht)⟩,hev,rfl, .grow _ _ T0 a rfl hkt rfl h1 hl8 rfl rfl rfl rfl rfl rfl⟩
          injection e with e1 e2
          subst e1
          exact ⟨T0.length, _,⟨fresh,a.low,a.es⟩,by rw [List.getElem?_append_right (Nat.le_refl _),Nat.sub_self]; rfl,by simp,rfl,htl,hge⟩
         ·have e0:=st_cut (leaf:=leaf) (lf:=l) (tk:=tk) (fro:=fro) (to:=to) (spl:=spl) (fresh:=fresh) hn hs hl hm ht h8 (by omega) hr
          have htop:=h.not_root hk (a:=a) (by simp) (by rw [hpg]; exact hr)
          obtain ⟨hT,hl8,kd,tt,hdr⟩:=h.cut (fresh:=fresh) hk (by rw [hpg]; exact hn) h8 htop hits (by omega) hf0 hf1 hff
          rw [hpg] at hT
          have hev:Evo T (T.set k (pre++⟨pos,a.low,a.es.take 4⟩::([⟨fresh,midE n,a.es.drop 4⟩]++suf))):=Evo.repl hk hpg.symm rfl
          rw [e0]
          refine ⟨_,hT,⟨rfl,fun t l' e=>?_,fun t ht=>?_⟩,hev,rfl, .cut _ _ k pre suf a (midE n) rfl hkt hk hl8 htop (by rw [hpg]) ?_ rfl rfl hpg rfl⟩
          ·injection e with e1 e2
           subst e1
           exact hev.pos _ _ _ (hi.pos _ _ rfl)
          ·rcases List.mem_append.1 ht with ht | ht
           ·exact hev.task t (hi.tasks t ht)
           ·rw [List.mem_singleton] at ht
            subst ht
            refine ⟨?_, .inr ⟨k, _,⟨fresh,midE n,a.es.drop 4⟩,by show tl+1= _; omega,by rw [List.length_set]; exact htop,List.getElem?_set_self (List.getElem?_eq_some_iff.1 hk).1,by simp,rfl,rfl⟩⟩
            have:(midE n,kd)∈a.es:=List.mem_of_mem_drop (by rw [hdr]; exact List.mem_cons_self ..)
            exact hA.z4 _ this
          ·rw [hkt]
end
section
open Go.RowKit
def totA (l:List AbN):Nat:=(l.map fun a=>a.es.length).sum
def lvA (T:List (List AbN)) (k:Nat):List AbN:=T.getD k []
/-- the entries of the leaves -/
def lfs (T:List (List AbN)):List Kv:=(lvA T 0).flatMap AbN.es
theorem lvA_some {T:List (List AbN)} {k:Nat} {l:List AbN} (h:T[k]? =some l):lvA T k=l:=by rw [lvA,List.getD_eq_getElem?_getD,h]; rfl
theorem totA_len (l:List AbN):(l.flatMap AbN.es).length=totA l:=by
 rw [List.length_flatMap]; rfl
/-- the entries of a level, one node behind the other, rise -/
theorem LvOk.rises {l:List AbN} (h:LvOk l):(l.flatMap AbN.es).Pairwise (fun x y=>lessF x.1 y.1=true):=by
 rw [List.pairwise_flatMap]
 refine ⟨fun a ha=>(h.nd a ha).ris,?_⟩
 refine h.pw.imp_of_mem fun {a b} ha hb hab x hx y hy=>?_
 exact lessF_lt_le (h.nd b hb).l4 ((h.nd b hb).z4 y hy) (hab.2 x hx) ((h.nd b hb).ge y hy)
theorem rises_nodup {l:List Kv} (h:l.Pairwise (fun x y=>lessF x.1 y.1=true)):(l.map Prod.fst).Nodup:=by
 rw [List.Nodup,List.pairwise_map]
 exact h.imp fun {a b} hab e=>by rw [e,lessF_irr] at hab; cases hab
theorem sub_len {α:Type} [DecidableEq α]:∀ {l m:List α},l.Nodup→(∀ x∈l,x∈m)→l.length≤m.length
 | [], _, _, _=>Nat.zero_le _
 | x::l,m,hd,h=>by
   have hx:=h x (by simp)
   have h1:=sub_len (l:=l) (m:=m.erase x) (List.nodup_cons.1 hd).2 fun y hy=>by
    have hne:y≠x:=fun e=>(List.nodup_cons.1 hd).1 (e ▸ hy)
    exact (List.mem_erase_of_ne hne).2 (h y (by simp [hy]))
   have h2:=List.length_erase_of_mem hx
   have h3:=List.length_pos_of_mem hx
   rw [List.length_cons]; omega
theorem InOk.le {up below:List AbN} (h:InOk up below) (hu:LvOk up):totA up≤below.length:=by
 have h0:(below.map AbN.low).length=below.length:=List.length_map _
 rw [← totA_len,← List.length_map (f:=Prod.fst),← h0]
 refine sub_len (rises_nodup hu.rises) fun x hx=>?_
 obtain ⟨e,he,rfl⟩:=List.mem_map.1 hx
 obtain ⟨a,ha,hea⟩:=List.mem_flatMap.1 he
 obtain ⟨m,hm,h1,h2⟩:=(h a ha).2 e hea
 exact List.mem_map.2 ⟨m,hm,h2⟩
/-- below the root, nodes are half full at least -/
structure Occ (T:List (List AbN)):Prop where
 four:∀ (k:Nat) l,T[k]? =some l→k+1 < T.length→∀ a∈l,4≤a.es.length
 eight:∀ (k:Nat) l,T[k]? =some l→k+1 < T.length→8≤totA l
theorem four_tot:∀ {l:List AbN},(∀ a∈l,4≤a.es.length)→4*l.length≤totA l
 | [], _=>Nat.zero_le _
 | a::l,h=>by
   have h1:=four_tot (l:=l) fun b hb=>h b (by simp [hb])
   have h2:=h a (by simp)
   show 4*(a::l).length≤a.es.length+totA l
   rw [List.length_cons]; omega
theorem pgs_flat (T:List (List AbN)):(pgsA T).length=(T.map List.length).sum:=by rw [pgsA,List.length_map,List.length_flatten]
theorem occ_pages {ps:List PgS} {T:List (List AbN)} {root:Int} (h:Tr ps T root) (ho:Occ T) {N:Nat} (hN:(lfs T).length≤N) (hN1:N < 128):(pgsA T).length≤N / 4+N / 16+1∧T.length≤3:=by
 obtain ⟨T0,r,e, _, _,hr⟩:=h.root
 have hlf:∀ l:List AbN,T[0]? =some l→totA l≤N:=fun l hl=>by rw [← totA_len]; rw [lfs,lvA_some hl] at hN; exact hN
 have stp:∀ (k:Nat) (up below:List AbN),T[k+1]? =some up→T[k]? =some below→totA up≤below.length∧4*below.length≤totA below∧8≤totA below:=fun k up below hu hb=>by
  have hk:=(List.getElem?_eq_some_iff.1 hu).1
  exact ⟨(h.inn k _ _ hu hb).le (h.level hu).2,four_tot (ho.four k _ hb hk),ho.eight k _ hb hk⟩
 rw [pgs_flat]
 match T,e,h,ho,hr,hlf,stp with
 | [],e, _, _, _, _, _=>exact absurd (congrArg List.length e) (by simp)
 | [l0],e, _, _,hr,hlf, _=>
   have h0:T0=[]:=by cases T0 with | nil=>rfl | cons a b=>exact absurd (congrArg List.length e) (by simp)
   subst h0
   injection e with e _
   subst e
   simp
 | [l0,l1],e, _, _,hr,hlf,stp=>
   have h0:T0.length=1:=by have:=congrArg List.length e; simp at this; omega
   rw [h0] at hr
   have hl1:l1=[r]:=by injection hr with hr
   have s0:=stp 0 _ _ rfl rfl
   have:=hlf _ rfl
   subst hl1
   simp
   omega
 | [l0,l1,l2],e, _, _,hr,hlf,stp=>
   have h0:T0.length=2:=by have:=congrArg List.length e; simp at this; omega
   rw [h0] at hr
   have hl2:l2=[r]:=by injection hr with hr
   have s0:=stp 0 _ _ rfl rfl
   have s1:=stp 1 _ _ rfl rfl
   have:=hlf _ rfl
   subst hl2
   simp
   omega
 | l0::l1::l2::l3::R,e, _, _, _,hlf,stp=>
   have s0:=stp 0 _ _ rfl rfl
   have s1:=stp 1 _ _ rfl rfl
   have s2:=stp 2 _ _ rfl rfl
   have:=hlf _ rfl
   omega
theorem totA_app (l m:List AbN):totA (l++m)=totA l+totA m:=by simp [totA]
theorem totA_cons (a:AbN) (l:List AbN):totA (a::l)=a.es.length+totA l:=by simp [totA]
theorem Occ.out {T T':List (List AbN)} {p p':PuT} {g:GoT} {fresh:Int} (h:Occ T) (ho:Out T T' p p' g fresh):Occ T':=by
 have set:∀ {k:Nat} {l l':List AbN},T[k]? =some l→(k+1 < T.length→(∀ a∈l,4≤a.es.length)→8≤totA l→(∀ a∈l',4≤a.es.length)∧8≤totA l')→Occ (T.set k l'):=fun {k l l'} hk hl=>by
  have hkl:=(List.getElem?_eq_some_iff.1 hk).1
  refine ⟨fun j m hj hjl=>?_,fun j m hj hjl=>?_⟩<;>rw [List.length_set] at hjl<;>by_cases e:k=j
  ·subst e; rw [List.getElem?_set_self hkl] at hj; injection hj with hj; subst hj; exact (hl hjl (h.four _ _ hk hjl) (h.eight _ _ hk hjl)).1
  ·rw [List.getElem?_set_ne e] at hj; exact h.four j m hj hjl
  ·subst e; rw [List.getElem?_set_self hkl] at hj; injection hj with hj; subst hj; exact (hl hjl (h.four _ _ hk hjl) (h.eight _ _ hk hjl)).2
  ·rw [List.getElem?_set_ne e] at hj; exact h.eight j m hj hjl
 cases ho with
 | idle _ hT=>exact hT ▸ h
 | move _ _ _ hT=>exact hT ▸ h
 | there _ _ _ _ _ _ _ _ hT=>exact hT ▸ h
 | put t l k pre suf a _ _ ht hT=>
   subst hT
   have hl:(insA (t.1,kidA k t.2.2) a.es).length=a.es.length+1:=by rw [(insA_perm _ _).length_eq]; rfl
   refine set ht fun _ h4 h8=>⟨fun b hb=>?_,?_⟩
   ·rcases List.mem_append.1 hb with hb | hb
    ·exact h4 b (by simp [hb])
    ·rcases List.mem_cons.1 hb with rfl | hb
     ·have:=h4 a (by simp)
      show 4≤(insA (t.1,kidA k t.2.2) a.es).length
      omega
     ·exact h4 b (by simp [hb])
   ·rw [totA_app,totA_cons] at h8 ⊢
    show 8≤totA pre+((insA (t.1,kidA k t.2.2) a.es).length+totA suf)
    omega
 | cut t l k pre suf a mid _ _ ht h8 htop hT=>
   subst hT
   refine set ht fun _ h4 h8'=>⟨fun b hb=>?_,?_⟩
   ·rcases List.mem_append.1 hb with hb | hb
    ·exact h4 b (by simp [hb])
    ·rcases List.mem_cons.1 hb with rfl | hb
     ·show 4≤(a.es.take 4).length
      rw [List.length_take]; omega
     ·rcases List.mem_cons.1 hb with rfl | hb
      ·show 4≤(a.es.drop 4).length
       rw [List.length_drop]; omega
      ·exact h4 b (by simp [hb])
   ·rw [totA_app,totA_cons] at h8'
    rw [totA_app,totA_cons,totA_cons]
    show 8≤totA pre+((a.es.take 4).length+((a.es.drop 4).length+totA suf))
    rw [List.length_take,List.length_drop]
    omega
 | grow t l T0 r _ _ ht _ h8 hT=>
   subst ht hT
   have get:∀ (j:Nat) m,(T0++[[⟨fresh,r.low,r.es⟩],[⟨p.root,leastB,[(leastB,fresh)]⟩]])[j]? =some m→j+1 < (T0++[[(⟨fresh,r.low,r.es⟩:AbN)],[⟨p.root,leastB,[(leastB,fresh)]⟩]]).length→((T0++[[r]])[j]? =some m∧j+1 < (T0++[[r]]).length)∨m=[⟨fresh,r.low,r.es⟩]:=fun j m hj hjl=>by
    rcases Nat.lt_or_ge j T0.length with h1 | h1
    ·rw [List.getElem?_append_left h1] at hj
     exact .inl ⟨by rw [List.getElem?_append_left h1]; exact hj,by simp; omega⟩
    ·rw [List.getElem?_append_right h1] at hj
     have:j - T0.length=0:=by simp at hjl; omega
     rw [this] at hj
     injection hj with hj
     exact .inr hj.symm
   refine ⟨fun j m hj hjl=>?_,fun j m hj hjl=>?_⟩<;>rcases get j m hj hjl with ⟨h1,h2⟩ | rfl
   ·exact h.four j m h1 h2
   ·intro a ha; rw [List.mem_singleton.1 ha]; show 4≤r.es.length; omega
   ·exact h.eight j m h1 h2
   ·show 8≤r.es.length+0; omega
/-- a fresh page more, or none -/
theorem Out.pages {T T':List (List AbN)} {p p':PuT} {g:GoT} {fresh:Int} (ho:Out T T' p p' g fresh) (hr:∀ T0 r,T=T0++[[r]]→r.pg=p.root→True):(pgsA T').Perm ((if g.used then [fresh] else [])++pgsA T):=by
 cases ho with
 | idle _ hT _ _ hu=>rw [hu,hT]; exact List.Perm.refl _
 | move _ _ _ hT _ _ hu=>rw [hu,hT]; exact List.Perm.refl _
 | there _ _ _ _ _ _ _ _ hT _ _ _ _ hu=>rw [hu,hT]; exact List.Perm.refl _
 | put t l k pre suf a _ _ ht hT _ _ _ hu=>
   rw [hu,hT]
   obtain ⟨T1,T2,e, _,h2⟩:=lv_split ht
   rw [h2,pgs_app,e,pgs_app]
   simp
 | cut t l k pre suf a mid _ _ ht _ _ hT _ _ _ _ hu=>
   rw [hu,hT]
   obtain ⟨T1,T2,e, _,h2⟩:=lv_split ht
   rw [h2,pgs_app,e,pgs_app,List.perm_iff_count]
   intro x
   simp only [List.map_append,List.map_cons,List.count_append,List.count_cons,if_true,List.count_nil]
   omega
 | grow t l T0 r _ _ ht hr _ hT _ _ _ _ hu=>
   rw [hu,hT,ht]
   have e3:pgsA (T0++[[⟨fresh,r.low,r.es⟩],[⟨p.root,leastB,[(leastB,fresh)]⟩]])=pgsA T0++[fresh,p.root]:=by simp [pgsA]
   rw [e3,pgs_snoc,show [r].map AbN.pg=[p.root] by rw [← hr]; rfl,if_pos rfl]
   exact List.perm_middle
/-- the leaves' entries: one more where an entry was put into a leaf -/
theorem lfs_set {T:List (List AbN)} {k:Nat} {l l':List AbN} (hk:T[k]? =some l):lfs (T.set k l')=if k=0 then l'.flatMap AbN.es else lfs T:=by
 have hkl:=(List.getElem?_eq_some_iff.1 hk).1
 unfold lfs
 by_cases e:k=0
 ·subst e
  rw [if_pos rfl,lvA_some (List.getElem?_set_self hkl)]
 ·rw [if_neg e]
  congr 1
  rw [lvA,lvA,List.getD_eq_getElem?_getD,List.getD_eq_getElem?_getD,List.getElem?_set_ne e]
theorem lfs_grow {T0:List (List AbN)} {root fresh:Int} {r:AbN}:lfs (T0++[[⟨fresh,r.low,r.es⟩],[⟨root,leastB,[(leastB,fresh)]⟩]])=lfs (T0++[[r]]):=by
 cases T0 with
 | nil=>simp [lfs,lvA]
 | cons a l=>rfl
theorem Out.lfs {T T':List (List AbN)} {p p':PuT} {g:GoT} {fresh:Int} (ho:Out T T' p p' g fresh):(lfs T').Perm (lfs T)∨∃ t l,p.left=t::l∧t.2.1=0∧p'.left=l∧(∀ y∈lfs T,y.1≠t.1∨True)∧(lfs T').Perm ((t.1, -1)::lfs T):=by
 cases ho with
 | idle _ hT=>exact .inl (hT ▸ List.Perm.refl _)
 | move _ _ _ hT=>exact .inl (hT ▸ List.Perm.refl _)
 | there _ _ _ _ _ _ _ _ hT=>exact .inl (hT ▸ List.Perm.refl _)
 | put t l k pre suf a hp hk ht hT hno hl=>
   rw [hT,lfs_set ht]
   by_cases e:k=0
   ·subst e
    rw [if_pos rfl]
    refine .inr ⟨t,l,hp,hk,hl,fun _ _=> .inr trivial,?_⟩
    rw [Proofs.Ytjlcoglmjldjbaa.lfs,lvA_some ht,show kidA 0 t.2.2= -1 from rfl]
    simp only [List.flatMap_append,List.flatMap_cons]
    refine ((List.Perm.append_left _ ((insA_perm _ _).append_right _))).trans ?_
    exact List.perm_middle
   ·rw [if_neg e]; exact .inl (List.Perm.refl _)
 | cut t l k pre suf a mid _ _ ht h8 _ hT=>
   rw [hT,lfs_set ht]
   by_cases e:k=0
   ·subst e
    rw [if_pos rfl,Proofs.Ytjlcoglmjldjbaa.lfs,lvA_some ht]
    simp only [List.flatMap_append,List.flatMap_cons]
    refine .inl (List.Perm.of_eq ?_)
    rw [← List.append_assoc (a.es.take 4),List.take_append_drop]
   ·rw [if_neg e]; exact .inl (List.Perm.refl _)
 | grow t l T0 r _ _ ht _ _ hT=>rw [hT,ht,lfs_grow]; exact .inl (List.Perm.refl _)
end
section
open Go.RowKit
-- the rank of a page: pages in levels below, and behind it in its own
def ordA (T:List (List AbN)):List Int:=T.reverse.flatten.map AbN.pg
def rkF (T:List (List AbN)) (pos:Int):Nat:=((ordA T).dropWhile fun q=>!(q==pos)).length
def sumA (T:List (List AbN)) (k:Nat):Nat:=((T.take k).map List.length).sum
theorem ord_perm (T:List (List AbN)):(ordA T).Perm (pgsA T):=by
 unfold ordA pgsA
 exact (List.Perm.flatten (List.reverse_perm T)).map _
theorem drop_at {L A B:List Int} {x:Int} (h:L=A++x::B) (hd:L.Nodup):L.dropWhile (fun q=>!(q==x))=x::B:=by
 subst h
 have h1:=(List.nodup_append.1 hd).2.2
 rw [List.dropWhile_append_of_pos]
 ·rw [List.dropWhile_cons_of_neg (by simp)]
 ·intro a ha
  have:=h1 a ha x (by simp)
  simpa using this
theorem rk_at {T:List (List AbN)} (hd:(pgsA T).Nodup) {k:Nat} {pre suf:List AbN} {a:AbN} (hk:T[k]? =some (pre++a::suf)):rkF T a.pg=suf.length+1+sumA T k:=by
 obtain ⟨T1,T2,rfl,h1, _⟩:=lv_split hk
 have hd2:(ordA (T1++(pre++a::suf)::T2)).Nodup:=(ord_perm _).nodup_iff.2 hd
 have e:ordA (T1++(pre++a::suf)::T2)=(T2.reverse.flatten.map AbN.pg++pre.map AbN.pg)++a.pg::(suf.map AbN.pg++T1.reverse.flatten.map AbN.pg):=by simp [ordA]
 rw [rkF,drop_at e hd2,List.length_cons,List.length_append,List.length_map,List.length_map,sumA,List.take_left' h1]
 have h2:T1.reverse.flatten.length=(T1.map List.length).sum:=by rw [List.length_flatten,List.map_reverse,List.sum_reverse]
 omega
theorem rk_le (T:List (List AbN)) (pos:Int):rkF T pos≤(pgsA T).length:=by
 rw [← (ord_perm T).length_eq]
 exact (List.dropWhile_sublist _).length_le
theorem sum_succ {T:List (List AbN)} {k:Nat} {l:List AbN} (hk:T[k]? =some l):sumA T (k+1)=sumA T k+l.length:=by
 rw [sumA,sumA,List.take_add_one,hk]; simp
theorem Mv.rk {T:List (List AbN)} {tl pos pos':Int} (h:Mv T tl pos pos') (hd:(pgsA T).Nodup):rkF T pos' < rkF T pos:=by
 cases h with
 | right k pre suf a b hk h1 h2=>
   subst h1 h2
   have hk2:T[k]? =some ((pre++[a])++b::suf):=by rw [hk]; simp
   rw [rk_at hd hk,rk_at hd hk2,List.length_cons]; omega
 | down k l below a m hk ha hb hm h1 h2=>
   subst h1 h2
   obtain ⟨p1,s1,rfl⟩:=List.append_of_mem ha
   obtain ⟨p2,s2,rfl⟩:=List.append_of_mem hm
   rw [rk_at hd hk,rk_at hd hb,sum_succ hb,List.length_append,List.length_cons]; omega
theorem sum_set {T:List (List AbN)} {k:Nat} {l:List AbN}:sumA (T.set k l) k=sumA T k:=by
 rw [sumA,sumA,List.take_set,List.set_eq_of_length_le (by rw [List.length_take]; omega)]
/-- lists of items stay short -/
theorem its_do {L:List EdT}:∀ {ps:List PgS},(∀ q∈ps,q.2.2.length≤101)→∀ q∈doB ps L,q.2.2.length≤101:=by
 induction L with
 | nil=>exact fun h=>h
 | cons e L ih=>
   intro ps h
   refine ih (ps:=do1B ps e) fun q hq=>?_
   unfold do1B at hq
   split at hq
   ·rename_i hok
    have hok:=of_decide_eq_true hok
    rcases List.mem_or_eq_of_mem_set hq with h1 | rfl
    ·exact h q h1
    ·unfold edP
     split
     ·exact Nat.zero_le _
     ·dsimp only
      rw [setI_len]
      have:=h _ (getD_mem' (l:=ps) (n:=e.1.toNat) (d:=pgs0) (by omega)).2
      omega
   ·exact h q hq
/-- a book with a valid tree; pages from nx on are free -/
structure GS (d:Int) (ps:List PgS) (T:List (List AbN)) (nx:Int):Prop where
 tr:Tr ps T 0
 its:∀ q∈ps,q.2.2.length≤101
 len:ps.length=60
 occ:Occ T
 pg:∀ q∈pgsA T,q < nx
 cnt:nx=((pgsA T).length:Int)+d
 d0:0≤d
def PM (N:Nat):Nat:=N / 4+N / 16+1
theorem GS.pages {d nx:Int} {ps:List PgS} {T:List (List AbN)} (h:GS d ps T nx) {N:Nat} (hN:(lfs T).length≤N) (hN1:N < 128):(pgsA T).length≤PM N∧T.length≤3:=occ_pages h.tr h.occ hN hN1
theorem GS.step {d nx:Int} {ps:List PgS} {T:List (List AbN)} {p:PuT} (h:GS d ps T nx) (hi:InsOk T 0 p) {N:Nat} (hN:(lfs T).length≤N) (hN1:N < 128) (hd:(PM N:Int)+d < 60):
  ∃ T',GS d (doB ps (stepF ps p nx).2.eds) T' (if (stepF ps p nx).2.used then nx+1 else nx)∧InsOk T' 0 (stepF ps p nx).1∧Evo T T'∧(stepF ps p nx).2.err=0∧Out T T' p (stepF ps p nx).1 (stepF ps p nx).2 nx:=by
 have hp:=(h.pages hN hN1).1
 have hc:=h.cnt
 have h0:=h.d0
 obtain ⟨T',h1,h2,h3,h4,h5⟩:=ins_step h.tr hi h.its (by rw [h.len]; omega) (fresh:=nx) (by omega) (by rw [h.len]; omega) (fun hq=>by have:=h.pg nx hq; omega)
 have h6:=h5.pages (fun _ _ _ _=>trivial)
 refine ⟨T',⟨h1,its_do h.its,by rw [doB_len]; exact h.len,h.occ.out h5,fun q hq=>?_,?_,h0⟩,h2,h3,h4,h5⟩
 ·have h7:=h6.mem_iff.1 hq
  cases hu:(stepF ps p nx).2.used with
  | true=>
    rw [hu] at h7
    rcases List.mem_cons.1 h7 with rfl | h7
    ·show q < q+1; omega
    ·have:=h.pg q h7; show q < nx+1; omega
  | false=>rw [hu] at h7; exact h.pg q h7
 ·have h7:=h6.length_eq
  cases hu:(stepF ps p nx).2.used with
  | true=>rw [hu] at h7; rw [h7]; simp; omega
  | false=>rw [hu] at h7; rw [h7]; simp; omega
/-- how far an insertion is from its leaf, at most -/
def phi (N:Nat) (T:List (List AbN)) (pos:Int):Nat:=rkF T pos+2*(PM N - (pgsA T).length)
theorem Out.phi {T T':List (List AbN)} {p p':PuT} {g:GoT} {fresh:Int} {N:Nat} (ho:Out T T' p p' g fresh) (hd:(pgsA T).Nodup) (hd':(pgsA T').Nodup) (hN:(pgsA T').length≤PM N) {t:TaT} {l:List TaT} (hl:p.left=t::l) (hl':∃ l',p'.left=t::l') (hne:p'.left≠l):Proofs.Ytjlcoglmjldjbaa.phi N T' p'.pos < Proofs.Ytjlcoglmjldjbaa.phi N T p.pos:=by
 have hpg:=ho.pages (fun _ _ _ _=>trivial)
 cases ho with
 | idle h=>rw [hl] at h; cases h
 | move _ _ _ hT _ _ _ _ hm=>subst hT; have:=hm.rk hd; unfold Proofs.Ytjlcoglmjldjbaa.phi; omega
 | there t2 l2 _ _ _ _ h _ _ _ _ hl2=>rw [hl] at h; injection h with h1 h2; rw [hl2] at hne; exact absurd h2.symm hne
 | put t2 l2 _ _ _ _ h _ _ _ _ hl2=>rw [hl] at h; injection h with h1 h2; rw [hl2] at hne; exact absurd h2.symm hne
 | cut t2 l2 k pre suf a mid _ _ ht _ _ hT _ _ hp hpa hu=>
   rw [hu,if_pos rfl] at hpg
   have h6:=hpg.length_eq
   rw [List.singleton_append,List.length_cons] at h6
   have hkl:=(List.getElem?_eq_some_iff.1 ht).1
   have e1:=rk_at hd ht
   have hg:T'[k]? =some (pre++⟨a.pg,a.low,a.es.take 4⟩::⟨fresh,mid,a.es.drop 4⟩::suf):=by rw [hT]; exact List.getElem?_set_self hkl
   have e2:=rk_at hd' hg
   have e3:sumA T' k=sumA T k:=by rw [hT]; exact sum_set
   rw [hpa] at e1
   have e2:rkF T' p.pos=suf.length+1+1+sumA T' k:=by rw [← hpa]; exact e2
   unfold Proofs.Ytjlcoglmjldjbaa.phi
   rw [hp,e1,e2,e3]
   omega
 | grow t2 l2 T0 r _ _ ht hr _ hT _ _ hp hpa hu=>
   rw [hu,if_pos rfl] at hpg
   have h6:=hpg.length_eq
   rw [List.singleton_append,List.length_cons] at h6
   have g1:T[T0.length]? =some ([]++r::[]):=by rw [ht]; simp
   have g2:T'[T0.length]? =some ([]++⟨fresh,r.low,r.es⟩::[]):=by rw [hT]; simp
   have e1:=rk_at hd g1
   have e2:rkF T' fresh=([]:List AbN).length+1+sumA T' T0.length:=rk_at hd' g2
   have e3:sumA T' T0.length=sumA T T0.length:=by rw [hT,ht,sumA,sumA,List.take_left' rfl,List.take_left' rfl]
   rw [hr,← hpa] at e1
   unfold Proofs.Ytjlcoglmjldjbaa.phi
   rw [hp,e1,e2,e3]
   omega
theorem out_left {T T':List (List AbN)} {p p':PuT} {g:GoT} {fresh:Int} (ho:Out T T' p p' g fresh) {t:TaT} {l:List TaT} (hl:p.left=t::l):p'.left=l∨∃ l',p'.left=t::l'∧l <+:l'∧∀ s∈l',s∈l∨1≤s.2.1:=by
 cases ho with
 | idle h=>rw [hl] at h; cases h
 | move t2 l2 h _ hl2=>rw [hl] at h; injection h with h1 h2; subst h1 h2; exact .inr ⟨l,hl2,List.prefix_rfl,fun s hs=> .inl hs⟩
 | there t2 l2 _ _ _ _ h _ _ _ _ hl2=>rw [hl] at h; injection h with h1 h2; exact .inl (hl2.trans h2.symm)
 | put t2 l2 _ _ _ _ h _ _ _ _ hl2=>rw [hl] at h; injection h with h1 h2; exact .inl (hl2.trans h2.symm)
 | cut t2 l2 k pre suf a mid h _ _ _ _ _ hl2=>
   rw [hl] at h; injection h with h1 h2; subst h1 h2
   refine .inr ⟨_,hl2,List.prefix_append _ _,fun s hs=>?_⟩
   rcases List.mem_append.1 hs with hs | hs
   ·exact .inl hs
   ·rw [List.mem_singleton] at hs; subst hs; exact .inr (by show (1:Int)≤(k:Int)+1; omega)
 | grow t2 l2 T0 r h _ _ _ _ _ hl2=>rw [hl] at h; injection h with h1 h2; subst h1 h2; exact .inr ⟨l,hl2,List.prefix_rfl,fun s hs=> .inl hs⟩
/-- the rest of an insertion leaves the leaves' entries -/
theorem rest_lfs {T T':List (List AbN)} {p p':PuT} {g:GoT} {fresh:Int} (ho:Out T T' p p' g fresh) (h1:∀ t∈p.left,1≤t.2.1):(lfs T').Perm (lfs T)∧(∀ t∈p'.left,1≤t.2.1)∧p'.leaf=p.leaf:=by
 refine ⟨?_,?_,?_⟩
 ·rcases ho.lfs with h | ⟨t,l,hl,h0, _⟩
  ·exact h
  ·have:=h1 t (by rw [hl]; simp); omega
 ·cases hl:p.left with
  | nil=>
    cases ho with
    | idle _ _ hl2=>intro t ht; rw [hl2] at ht; cases ht
    | move _ _ h=>rw [hl] at h; cases h
    | there _ _ _ _ _ _ h=>rw [hl] at h; cases h
    | put _ _ _ _ _ _ h=>rw [hl] at h; cases h
    | cut _ _ _ _ _ _ _ h=>rw [hl] at h; cases h
    | grow _ _ _ _ h=>rw [hl] at h; cases h
  | cons t l=>
    rw [hl] at h1
    rcases out_left ho hl with h | ⟨l',h, _,h2⟩
    ·rw [h]; exact fun s hs=>h1 s (by simp [hs])
    ·rw [h]
     intro s hs
     rcases List.mem_cons.1 hs with rfl | hs
     ·exact h1 s (by simp)
     ·rcases h2 s hs with h3 | h3
      ·exact h1 s (by simp [h3])
      ·exact h3
 ·cases ho with
  | idle _ _ _ hf=>exact hf
  | move _ _ _ _ _ hf=>exact hf
  | there t l k _ _ _ h hk _ _ _ _ hf=>have:=h1 t (by rw [h]; simp); rw [hf,if_neg (by omega)]
  | put t l k _ _ _ h hk _ _ _ _ hf=>have:=h1 t (by rw [h]; simp); rw [hf,if_neg (by omega)]
  | cut _ _ _ _ _ _ _ _ _ _ _ _ _ _ hf=>exact hf
  | grow _ _ _ _ _ _ _ _ _ _ _ hf=>exact hf
theorem run_rest {d:Int} {N:Nat} (hN1:N < 128) (hd:(PM N:Int)+d < 60):∀ (j:Nat) {ps:List PgS} {T:List (List AbN)} {p:PuT} {nx:Int},GS d ps T nx→InsOk T 0 p→(lfs T).length≤N→(∀ t∈p.left,1≤t.2.1)→
  ∃ T',GS d (runF j ps nx p).1 T' (runF j ps nx p).2∧(lfs T').Perm (lfs T)
 | 0,ps,T,p,nx,h,hi,hN,h1=>⟨T,h,List.Perm.refl _⟩
 | j+1,ps,T,p,nx,h,hi,hN,h1=>by
   by_cases hl:p.left=[]
   ·rw [runF_nil _ _ _ hl]; exact ⟨T,h,List.Perm.refl _⟩
   ·rw [runF_step hl]
    obtain ⟨T1,h2,h3,h4,h5,h6⟩:=h.step hi hN hN1 hd
    obtain ⟨h7,h8, _⟩:=rest_lfs h6 h1
    obtain ⟨T2,h9,h10⟩:=run_rest hN1 hd j h2 h3 (by rw [h7.length_eq]; exact hN) h8
    exact ⟨T2,h9,h10.trans h7⟩
/-- an insertion finds its leaf in time -/
theorem run_leaf {d:Int} {N:Nat} (hN1:N < 128) (hd:(PM N:Int)+d < 60) {x:ByteArray} {kd:Int}:∀ (j:Nat) {ps:List PgS} {T:List (List AbN)} {p:PuT} {nx:Int} {l:List TaT},GS d ps T nx→InsOk T 0 p→(lfs T).length+1≤N→p.left=(x,0,kd)::l→(∀ t∈l,1≤t.2.1)→(∀ y∈lfs T,y.1≠x)→phi N T p.pos < j→
  ∃ T',GS d (runF j ps nx p).1 T' (runF j ps nx p).2∧(lfs T').Perm ((x, -1)::lfs T)
 | 0,ps,T,p,nx,l,h,hi,hN,hl,h1,hx,hj=>absurd hj (Nat.not_lt_zero _)
 | j+1,ps,T,p,nx,l,h,hi,hN,hl,h1,hx,hj=>by
   rw [runF_step (by rw [hl]; simp)]
   obtain ⟨T1,h2,h3,h4,h5,h6⟩:=h.step hi (Nat.le_of_succ_le hN) hN1 hd
   rcases out_left h6 hl with hl2 | ⟨l',hl2,hpre,hl3⟩
   · -- the entry has come to its leaf
     have hput:(lfs T1).Perm ((x, -1)::lfs T):=by
      cases h6 with
      | idle h=>rw [hl] at h; cases h
      | move _ _ h _ hl4=>rw [hl] at h; injection h with e1 e2; rw [hl2,← e2] at hl4; exact absurd (congrArg List.length hl4) (by simp)
      | there t l2 k pre suf a h hk _ ht hin=>
        rw [hl] at h
        injection h with e1 e2
        subst e1
        have hk0:k=0:=by have:(0:Int)=(k:Int):=hk; omega
        subst hk0
        obtain ⟨y,hy,hyx⟩:=hin
        refine absurd hyx (hx y ?_)
        rw [lfs,lvA_some ht]
        exact List.mem_flatMap.2 ⟨a,by simp,hy⟩
      | put t l2 k pre suf a h hk ht hT hno hl4 hf hu=>
        rw [hl] at h
        injection h with e1 e2
        subst e1
        have hk0:k=0:=by have:(0:Int)=(k:Int):=hk; omega
        subst hk0
        rw [hT,lfs_set ht,if_pos rfl,lfs,lvA_some ht]
        simp only [List.flatMap_append,List.flatMap_cons]
        refine ((List.Perm.append_left _ ((insA_perm _ _).append_right _))).trans ?_
        exact List.perm_middle
      | cut _ _ _ _ _ _ _ h _ _ _ _ _ hl4=>rw [hl] at h; injection h with e1 e2; rw [hl2,← e2] at hl4; exact absurd (congrArg List.length hl4) (by simp only [List.length_append,List.length_cons,List.length_nil]; omega)
      | grow _ _ _ _ h _ _ _ _ _ hl4=>rw [hl] at h; injection h with e1 e2; rw [hl2,← e2] at hl4; exact absurd (congrArg List.length hl4) (by simp)
     obtain ⟨T2,h7,h8⟩:=run_rest hN1 hd j h2 h3 (by rw [hput.length_eq]; exact hN) (by rw [hl2]; exact h1)
     exact ⟨T2,h7,h8.trans hput⟩
   ·have hne:(stepF ps p nx).1.left≠l:=fun e=>by
     have h9:=congrArg List.length (hl2.symm.trans e)
     have:=hpre.length_le
     rw [List.length_cons] at h9
     omega
    have hlf:(lfs T1).Perm (lfs T):=by
     rcases h6.lfs with h7 | ⟨t,l2,h7, _,h8, _⟩
     ·exact h7
     ·rw [hl] at h7; injection h7 with e1 e2; exact absurd (h8.trans e2.symm) hne
    have hphi:=h6.phi h.tr.dist h2.tr.dist (h2.pages (by rw [hlf.length_eq]; exact Nat.le_of_succ_le hN) hN1).1 hl ⟨l',hl2⟩ hne
    obtain ⟨T2,h7,h8⟩:=run_leaf hN1 hd j h2 h3 (by rw [hlf.length_eq]; exact hN) hl2 (fun t ht=>(hl3 t ht).elim (h1 t) id) (fun y hy=>hx y (hlf.mem_iff.1 hy)) (by omega)
    exact ⟨T2,h7,h8.trans (hlf.cons _)⟩
end
section
open Go.RowKit
def entG (l:List Int) (i:Nat):ByteArray:=entF (keyF (l.getD i 0)) (1+(i:Int) / 8) (1+(i:Int) % 8)
def entsG (l:List Int) (n:Nat):List Kv:=(List.range n).map fun i=>(entG l i, -1)
theorem entG_inj {l l':List Int} {i j:Nat} (hi:i < 500000) (hj:j < 500000) (h:entG l i=entG l' j):i=j:=by
 have h1:=congrArg ppF h
 have h2:=congrArg psF h
 rw [entG,entG,ppF_ent,ppF_ent] at h1
 rw [entG,entG,psF_ent,psF_ent] at h2
 omega
theorem blank_tr:GS 0 (blankF 60) [[⟨0,leastB,[]⟩]] 1:=by
 obtain ⟨n,h1,h2,h3,h4,h5,h6⟩:=fresh_nd (ps:=List.replicate 60 pgs0) (pg:=0) (lv:=0) (rt:= -1) (hi:=⟨#[]⟩) (es:=[]) (by omega) (by rw [List.length_replicate]; decide) ⟨by omega,by omega⟩ ⟨by omega,by omega⟩ (.inl rfl) (fun e he=>nomatch he) (by simp)
 have e:doB (List.replicate 60 pgs0) (freshE 0 0 (-1) ⟨#[]⟩ [])=blankF 60:=rfl
 rw [e] at h1
 have hes:n.es.map kv=[]:=List.Perm.eq_nil h6
 refine ⟨⟨fun k l hk=>?_,fun l hl=>?_,(fun k up below hu hb=>by simp at hu),⟨_,rfl,rfl⟩,by simp [pgsA],by simp⟩,?_,(blank_sz 60).2,⟨fun k l hk hkl=>?_,fun k l hk hkl=>?_⟩,fun q hq=>?_,rfl,Int.le_refl 0⟩
 ·match k with
  | 0=>injection hk with hk; subst hk; exact ⟨⟨n,h1,h2,h5,h3,h4,hes⟩,trivial⟩
  | k+1=>cases hk
 ·rw [List.mem_singleton.1 hl]
  refine ⟨List.pairwise_singleton _ _,fun a ha=>?_, _, _,rfl,rfl⟩
  rw [List.mem_singleton.1 ha]
  exact ⟨List.Pairwise.nil,fun e he=>absurd he (by simp),fun e he=>absurd he (by simp),by rw [leastB_size]; exact Nat.le_refl 4,by simp⟩
 ·exact its_do fun q hq=>by rw [(List.mem_replicate.1 hq).2]; decide
 ·simp at hkl
 ·simp at hkl
 ·simp [pgsA] at hq; omega
theorem grown_step {l:List Int} {i:Nat} (hi:i < 90) {T:List (List AbN)} (h:GS 0 (grwF l i).1 T (grwF l i).2) (hp:(lfs T).Perm (entsG l i)):∃ T',GS 0 (grwF l (i+1)).1 T' (grwF l (i+1)).2∧(lfs T').Perm (entsG l (i+1)):=by
 have hlen:(lfs T).length=i:=by rw [hp.length_eq,entsG,List.length_map,List.length_range]
 have htask:TaskOk T (entG l i,0,0):=⟨by show 4≤(entF _ _ _).size; rw [entF_size]; omega, .inl rfl⟩
 have hpg:=(h.pages (N:=90) (by omega) (by omega)).1
 have hrk:=rk_le T 0
 have e28:PM 90=28:=rfl
 have hP:1≤(pgsA T).length:=by
  obtain ⟨T0,r,e,h1, _,h2⟩:=h.tr.root
  exact List.length_pos_of_mem (pgs_mem h2 (a:=r) (by simp))
 obtain ⟨T',h1,h2⟩:=run_leaf (N:=90) (by omega) (by rw [e28]; omega) (x:=entG l i) (kd:=0) 60 (p:=putT 0 (keyF (l.getD i 0)) (1+(i:Int) / 8) (1+(i:Int) % 8)) (l:=[]) h
  ⟨rfl,fun t l' e=>(by injection e with e1 e2; subst e1; exact pos_root h.tr htask),fun t ht=>(by rw [List.mem_singleton.1 ht]; exact htask)⟩ (by omega) rfl (fun t ht=>nomatch ht) (fun y hy=>by
   obtain ⟨j,hj,rfl⟩:=List.mem_map.1 (hp.mem_iff.1 hy)
   have hj:=List.mem_range.1 hj
   intro e
   have:=entG_inj (by omega) (by omega) e
   omega) (by show phi 90 T 0 < 60; unfold phi; rw [e28]; omega)
 refine ⟨T',h1,h2.trans ?_⟩
 rw [entsG,List.range_succ,List.map_append]
 exact ((hp.cons _).trans (List.perm_append_comm (l₁:=[_])))
theorem grown_tr (l:List Int):∀ i,i≤90→∃ T,GS 0 (grwF l i).1 T (grwF l i).2∧(lfs T).Perm (entsG l i)
 | 0, _=>⟨_,blank_tr,by simp [lfs,lvA,entsG]⟩
 | i+1,hi=>by
   obtain ⟨T,h1,h2⟩:=grown_tr l i (by omega)
   exact grown_step (by omega) h1 h2
-- rows of a valid tree
def ndD (ps:List PgS) (x:Int):NoD:=(ndAt ps x).getD ⟨0,0,⟨#[]⟩,false,[],0⟩
def ndP (ps:List PgS) (a:AbN):Int×NoD:=(a.pg,ndD ps a.pg)
theorem ndD_some {ps:List PgS} {x:Int} {n:NoD} (h:ndAt ps x=some n):ndD ps x=n:=by rw [ndD,h]; rfl
theorem ndAt_m1 (ps:List PgS):ndAt ps (-1)=none:=by rw [ndAt,if_neg (by omega)]
theorem chn_rep {ps:List PgS} {lv:Int}:∀ {l:List AbN} {f:Nat},RepL ps lv l→l.length≤f→chnF ps lv f (rtA l)=l.map (ndP ps)
 | [],f, _, _=>chn_none (ndAt_m1 ps)
 | a::l,f,h,hf=>by
   obtain ⟨n,h1,h2,h3,h4,h5,h6⟩:=h.1
   obtain ⟨f,rfl⟩:∃ g,f=g+1:=⟨f - 1,by rw [List.length_cons] at hf; omega⟩
   rw [List.length_cons] at hf
   show chnF ps lv (f+1) a.pg= _
   rw [chn_hit h1 h2,h4,chn_rep h.2 (by omega),List.map_cons,ndP,ndD_some h1]
theorem LvOk.first {a b:AbN} {t:List AbN} (h:LvOk (a::t)) (hb:b∈a::t) (hl:b.low=leastB):b=a:=by
 rcases List.mem_cons.1 hb with rfl | hb
 ·rfl
 ·have h1:=((List.pairwise_cons.1 h.pw).1 b hb).1
  rw [hl,least_le] at h1; cases h1
theorem LvOk.headlow {a:AbN} {t:List AbN} (h:LvOk (a::t)):a.low=leastB:=by
 obtain ⟨b,s,e,hl⟩:=h.hd
 injection e with e1 _
 rw [e1]; exact hl
theorem dsc_rep {ps:List PgS} {T:List (List AbN)} {root:Int} (h:Tr ps T root) {k:Nat} {b:AbN} {s:List AbN} (hk:T[k]? =some (b::s)):∀ (j:Nat) {a:AbN} {t:List AbN} {f:Nat},T[k+j]? =some (a::t)→j < f→dscF ps (k:Int) f a.pg=some (b.pg,ndD ps b.pg)
 | 0,a,t,f,hj,hf=>by
   rw [Nat.add_zero,hk] at hj
   injection hj with hj
   injection hj with e1 e2
   subst e1
   obtain ⟨n,h1,h2, _⟩:=h.node (pre:=[]) hk
   obtain ⟨f,rfl⟩:∃ g,f=g+1:=⟨f - 1,by omega⟩
   rw [dsc_hit h1 h2,ndD_some h1]
 | j+1,a,t,f,hj,hf=>by
   obtain ⟨n,h1,h2, _, _, _,h3⟩:=h.node (pre:=[]) hj
   obtain ⟨f,rfl⟩:∃ g,f=g+1:=⟨f - 1,by omega⟩
   have hlen:=(List.getElem?_eq_some_iff.1 hj).1
   have hb:T[k+j]? =some (T[k+j]'(by omega)):=List.getElem?_eq_getElem (by omega)
   obtain ⟨c,u,e,hl⟩:=(h.level hb).2.hd
   rw [e] at hb
   obtain ⟨⟨k1,t1,g1⟩,g2⟩:=h.inn (k+j) _ _ hj hb a (by simp)
   obtain ⟨m,hm,hm1,hm2⟩:=g2 (a.low,k1) (by rw [g1]; simp)
   have hmc:=(h.level hb).2.first hm (by rw [hm2]; exact (h.level hj).2.headlow)
   have hes:n.es≠[]:=fun e2=>by rw [e2] at h3; rw [← h3] at g1; cases g1
   obtain ⟨x,r,he⟩:=List.exists_cons_of_ne_nil hes
   have hx:x.2.2=c.pg:=by
    rw [he,g1] at h3
    injection h3 with h4 _
    have:kv x=(a.low,k1):=h4
    injection this with _ h5
    rw [h5,← hmc]; exact hm1.symm
   rw [dsc_down h1 (by rw [h2]; omega) (by rw [he]; simp),he]
   show dscF ps (k:Int) f x.2.2= _
   rw [hx]
   exact dsc_rep h hk j hb (by omega)
theorem Tr.row {ps:List PgS} {T:List (List AbN)} {root:Int} (h:Tr ps T root) (hps:ps.length≤150) {k:Nat} {l:List AbN} (hk:T[k]? =some l):rowF ps root (k:Int)=l.map (ndP ps):=by
 obtain ⟨T0,r,e,h1,h2,h3⟩:=h.root
 have hkl:=(List.getElem?_eq_some_iff.1 hk).1
 obtain ⟨b,s,rfl,hl⟩:=(h.level hk).2.hd
 have hlT:T.length=T0.length+1:=by rw [e]; simp
 have hbd:=h.bd
 obtain ⟨j,hj⟩:∃ j,T0.length=k+j:=⟨T0.length - k,by omega⟩
 have hd:=dsc_rep h hk j (a:=r) (t:=[]) (f:=1000) (by rw [← hj]; exact h3) (by omega)
 rw [h1] at hd
 rw [rowF,hd]
 have hlen:(b::s).length≤1000:=by
  have:(b::s).length≤(pgsA T).length:=by
   rw [pgs_flat]
   obtain ⟨T1,T2,e2, _, _⟩:=lv_split hk
   rw [e2]; simp; omega
  omega
 exact chn_rep (h.level hk).1 hlen
/-- behind the top level there is none -/
theorem ndP_kv {ps:List PgS} {lv:Int}:∀ {l:List AbN},RepL ps lv l→(l.map (ndP ps)).flatMap (fun x=>x.2.es.map kv)=l.flatMap AbN.es
 | [], _=>rfl
 | a::l,h=>by
   obtain ⟨n,h1, _, _, _, _,h6⟩:=h.1
   rw [List.map_cons,List.flatMap_cons,List.flatMap_cons,ndP_kv h.2]
   congr 1
   show (ndD ps a.pg).es.map kv=a.es
   rw [ndD_some h1,h6]
/-- all entries -/
theorem Tr.all {ps:List PgS} {T:List (List AbN)} {root:Int} (h:Tr ps T root) (hps:ps.length≤150):(allF ps root).map kv=lfs T:=by
 obtain ⟨T0,r,e, _, _, _⟩:=h.root
 have h0:T[0]? =some (lvA T 0):=by
  have:0 < T.length:=by rw [e]; simp
  rw [lvA,List.getD_eq_getElem?_getD,List.getElem?_eq_getElem this]; rfl
 have hr:=h.row hps h0
 rw [allF,show (0:Int)=((0:Nat):Int) from rfl,hr,List.map_flatMap,ndP_kv (h.level h0).1]; rfl
end
section
open Go.RowKit
def idxP {α:Type} (p:α→Bool) (k:Int):List α→Int
 | []=> -1
 | x::l=>if p x then k else idxP p (k+1) l
theorem idxP_at {α:Type} {p:α→Bool} {l:List α} {x:α} {k:Nat} (h:l[k]? =some x):idxP p (k:Int) (l.drop k)=if p x then (k:Int) else idxP p ((k+1:Nat):Int) (l.drop (k+1)):=by
 obtain ⟨hk,rfl⟩:=List.getElem?_eq_some_iff.1 h
 rw [List.drop_eq_getElem_cons hk,idxP]; rfl
theorem idxP_any {α:Type} (p:α→Bool) (l:List α):∀ k:Int,0≤k→decide (0≤idxP p k l)=l.any p:=by
 induction l with
 | nil=>intro k _; rfl
 | cons x l ih=>
   intro k hk
   rw [idxP,List.any_cons]
   cases p x with
   | true=>rw [if_pos rfl,Bool.true_or]; exact decide_eq_true hk
   | false=>rw [if_neg (by decide),Bool.false_or]; exact ih (k+1) (by omega)
theorem getE3 {l:List EnD} {k:Nat} (h:k < l.length):∃ x y z,l[k]? =some (x,y,z):=⟨l[k].1,l[k].2.1,l[k].2.2,List.getElem?_eq_getElem h⟩
theorem kfresh_any (pg:Int) (np lv rt fr:Int) (hg:ByteArray) (EA:Option Addr) (ec n:Nat) (es:List EnD) (w:World) (hE:At w EA (es.flatMap enC)) (hn:es.length=n) (hez:∀ e∈es,e.1.size≤1000000) (hnb:n≤1000) (hlv:0≤lv∧lv≤256) (hrt: -1≤rt∧rt≤1000000) (hhi:hg.size≤1000000):
  Calls Try.prog 81 #[.int .i64 pg, .agg #[.int .i64 np, .int .i64 lv, .int .i64 rt, .string hg, .bool false, .slice EA n ec, .int .i64 fr]] w (EdPost (freshE pg lv rt hg es) w):=by
 go_enter Try.func81,Try.ntmps81
 have hst0:=St.start w
 refine wp_seq (sqr ?_)
 refine sqbx #[vi np,vi lv,vi rt, .string hg, .bool false, .slice EA n ec,vi fr] hst0 fun B3_1 W1 hst1=>?_
 refine sqp [.k 4 (.slice none 0 0)] ?_
 refine then_normal (wp_seq (wp_region_Y [0,0,2,7,0,0,32,112,255,511] [[],[],[1],[],[],[0]] [[],[1],[],[],[],[],[],[],[2]] [] [.k 8 (vi pg), .a 9, .c 10 (.string (strOfNums ([2]))), .k 11 (.agg #[vi pg,vi (-1), .string (strOfNums ([2]))]), .k 12 (vi pg), .c 13 (.agg #[vi np,vi lv,vi rt, .string hg, .bool false, .slice EA n ec,vi fr]), .c 14 (.string (hdB lv rt false hg)), .k 15 (.agg #[vi pg,vi 0, .string (hdB lv rt false hg)]), .a 16, .a 5] (fun ix σ β X=>match ix with | 0=>True | 1=>σ 9= .slice (sA (β 9)) 1 1∧X 1=eO 5 1 (.slice (sA (β 9)) 1 1) 1 ([.int .u8 2]) | 2=>True | 3=>True | 4=>True | 5=>True | 6=>True | 7=>True | 8=>σ 16= .slice ((some ⟨(pb' (β 16)),0,none⟩)) 2 2∧X 2=eO 99 3 (.slice ((some ⟨(pb' (β 16)),0,none⟩)) 2 2) 2 ([vi pg,vi (-1), .string (strOfNums ([2])),vi pg,vi 0, .string (hdB lv rt false hg)]) | 9=>σ 5= .slice ((some ⟨(pb' (β 16)),0,none⟩)) 2 2 | _=>True) [0,1,2] [1,2,5,6,8,9] [(5,9,1,6),(2,0,9,11)] hst1 ?_ ?_ ?_))
 ·exact fun ix _ _ _ _ _ _ hs hb hx h=>match ix,h with
  | 1,h=>by dsimp only; rw [← hs 9 rfl,← hb 9 rfl,← hx 1 rfl]; exact h
  | 8,h=>by dsimp only; rw [← hs 16 rfl,← hb 16 rfl,← hx 2 rfl]; exact h
  | 9,h=>by dsimp only; rw [← hs 5 rfl,← hb 16 rfl]; exact h
  | 0, _ | 2, _ | 3, _ | 4, _ | 5, _ | 6, _ | 7, _ | _+10, _=>trivial
 ·refine ⟨?_,?_,?_,?_,?_,?_,trivial⟩
  ·refine svA fun ρ β W X cx=>?_
   exact dv_lit (e:=5) (xs:=[.int .u8 2]) rfl (by simp [go_sem,cx.sees.const]) rfl (by decide) rfl rfl (fun σ β' X' hs hb hv hx=>⟨hv,hx⟩)
  ·exact xs4 rfl id fun cx=>run_convB (e:=5) rfl (by kernel_rfl) (by kernel_rfl) (by kernel_rfl) (dTn (cx.an 1)).1 (cx.row (dTn (cx.an 1)).2 rfl)
  ·exact xs4 rfl id fun cx=>run_loadB (n:=7) rfl (by kernel_rfl) (by kernel_rfl) (cx.ou 3) (cx.bi 0 rfl) (nle rfl) rfl
  ·exact xsc rfl id rfl rfl fun cx=>⟨_,khead_le np lv rt fr hg false _ _ _ _ (by omega) (by omega) (by first | omega | decide),(map1 (cx.an 5))⟩
  ·refine svA fun ρ β W X cx=>?_
   have fF11:ρ (.tmp 11)= .agg #[vi pg,vi (-1), .string (strOfNums ([2]))]:=(cx.an 3)
   have fF15:ρ (.tmp 15)= .agg #[vi pg,vi 0, .string (hdB lv rt false hg)]:=(cx.an 7)
   exact dv_litN (e:=99) (sz:=3) (xs:=[vi pg,vi (-1), .string (strOfNums ([2])),vi pg,vi 0, .string (hdB lv rt false hg)]) rfl (by simp [go_sem,fF11,fF15]) rfl (by decide) rfl rfl (fun σ β' X' hs hb hv hx=>⟨hv,hx⟩)
  ·exact sv rfl rfl rfl rfl rfl _ (fun _ _ _ h=>h) (fun β β' h=>by rw [h 16 (by decide)]) fun ρ β W X cx=>run_assign' rfl (dTn (cx.an 8)).1
 intro σ β X W3 hD hst3 fr hfr
 obtain ⟨A9_3,hu_A9_3⟩:∃ z,sA (β 9)=z:=⟨_,rfl⟩
 obtain ⟨B16_3,hu_B16_3⟩:∃ z,pb' (β 16)=z:=⟨_,rfl⟩
 simp only [exq 1 ((dTn (hD 1 lq)).2),exq 2 ((dTn (hD 8 lq)).2),hu_A9_3,hu_B16_3] at hst3
 simp only [ed 9 ((dTn (hD 1 lq)).1),ed 16 ((dTn (hD 8 lq)).1),ed 5 ((dTn (hD 9 lq))),hu_A9_3,hu_B16_3] at hfr
 clear hD hu_A9_3 hu_B16_3; subst hfr; clear σ β X
 refine then_normal (wp_seq (wp_seq (sqr (sqp [.k 17 (.pointer (some ⟨B3_1,5,none⟩))] ?_))))
 refine sqld 0 hst3 ?_
 refine sqp [.k 19 (vi ((n:Int))), .k 20 (vi 0)] ?_
 refine then_normal (wp_block ?_)
 rw [show [vi pg,vi (-1), .string (strOfNums ([2])),vi pg,vi 0, .string (hdB lv rt false hg)]=(hd2E pg lv rt hg).flatMap edC from rfl] at hst3
 refine wp_loopT (fun t_ mz az W=>∃ i:Nat,∃ nn:Nat,∃ O:List EdT,∃ OA:Option Addr,∃ OC:Nat,i≤n∧O=hd2E pg lv rt hg++itsE pg lv 1 (es.take i)∧O.length=nn∧nn≤10+i∧mz=n - i∧az=⟨(ovr (jv az) [(5,5,0,[.slice OA nn OC]),(0,6,2,[]),(12,20,0,[vi ((i:Int))]),(0,21,15,[])] t_).toArray,[]⟩∧St w [] [eB B3_1 116 #[vi np,vi lv,vi rt, .string hg, .bool false, .slice EA n ec,vi fr],eO 5 1 (.slice A9_3 1 1) 1 ([.int .u8 2]),eO 99 3 (.slice OA nn OC) nn (O.flatMap edC)] W) (n - 0) ?_ ?_
 · -- the loop begins
   exact ⟨0,2,(hd2E pg lv rt hg),(some ⟨B16_3,0,none⟩),2,Nat.zero_le _,rfl,rfl,by omega,rfl,(by kernel_rfl),hst3.pk [0,1,2]⟩
 rintro n8 a8 W8 ⟨i,nn,O,OA,OC,hi,hO,hOl,hnn,rfl,hj_,hst8⟩
 refine ovz hj_ fun u8_=>?_
 refine wp_seq (sqr (sqp [.k 21 (.bool (decide ((i:Int) < (n:Int))))] ?_))
 refine then_normal (wp_seq (wds (fun hs10 hs10p=>?_) fun hs10 hs10p=>?_))
 ·refine wp_skip (then_normal (wp_seq (wp_block (wp_seq (sqr (sqp [.m 22 20] ?_))))))
  refine sql (.pointer (some ((ad EA).add (i*3)))) hst8 (fun cx=>run_indexSlM (e:=104) (m:=i) (sz:=3) rfl (by kernel_rfl) (by kernel_rfl) (cx.ou 18) (cx.ou 20) (by omega) (by omega) (hE.ext cx.upd.to_ext) (flatPos (sz:=3) enC_len (by decide) (by omega))) ?_
  refine sql (.agg #[.string ((es.getD i en0).1),vi (((es.getD i en0).2.1:Int)),vi ((es.getD i en0).2.2)]) hst8 (fun cx=>run_loadElt (f:=enC) (m:=i) (sz:=3) (off:=0) (n:=3) rfl (by kernel_rfl) (by kernel_rfl) (cx.ou 23) rfl enC_len (hE.ext cx.upd.to_ext) (en_get (by omega)) (fun k hk=>match k,hk with | 0, _=>rfl | 1, _=>rfl | 2, _=>rfl | k+3,hk=>absurd hk (by omega))) ?_
  refine sqal #[.string ByteArray.empty,vi 0,vi 0] hst8 fun B7_14 W14 hst14=>?_
  refine sqp [.m 6 22] ?_
  refine sqst (n:=3) 3 #[.string ((es.getD i en0).1),vi (((es.getD i en0).2.1:Int)),vi ((es.getD i en0).2.2)] hst14 fun W16 hst16=>?_
  refine then_normal (sqr (sqp [.m 25 5, .m 26 0, .m 27 6,sI 28 ((i:Int)+1) (by omega)] ?_))
  refine sqlb 0 7 hst16 ?_
  refine sqlb 3 3 hst16 ?_
  refine sqk (.string (itB lv ((es.getD i en0).2.2) ((es.getD i en0).1))) hst16 (fun cx=>⟨_,kitem_any np lv rt fr hg false _ _ _ ((es.getD i en0).1) ((es.getD i en0).2.1:Int) ((es.getD i en0).2.2) _ (getD_size hez _),(map2 (cx.ou 29) (cx.ou 30))⟩) fun W23 hst23=>?_
  refine sqp [.k 32 (.agg #[vi pg,vi ((i:Int)+1), .string (itB lv ((es.getD i en0).2.2) ((es.getD i en0).1))])] ?_
  refine sqli 99 3 1 (edC (pg,(i:Int)+1,itB lv ((es.getD i en0).2.2) ((es.getD i en0).1))) hst23 (@fun ρ β W X cx=>by have fF32:ρ (.tmp 32)= .agg #[vi pg,vi ((i:Int)+1), .string (itB lv ((es.getD i en0).2.2) ((es.getD i en0).1))]:=(cx.ou 32); simp [go_sem,fF32,edC]) fun B33_25 W25 hst25=>?_
  refine sqap (nn+1) ((O++[(pg,(i:Int)+1,itB lv ((es.getD i en0).2.2) ((es.getD i en0).1))]).flatMap edC) 2 hst25 Try.infoEdit (fun cx=>(At.of_ownN (cx.ri 4 rfl))) (h1:=by simp [edC,Value.oneCell']) (hxs:=ed_snoc _ _) fun A34_26 c34_26 W26 hst26=>?_
  refine sqp [.m 5 34] ?_
  refine blk_normal (then_normal (sqr (sqp [sI 35 ((i:Int)+1) (by omega), .m 20 35] ?_)))
  refine then_normal ?_
  refine ⟨n - ((i+1)),by omega,?_⟩
  exact ⟨(i+1),(nn+1),(O++[(pg,(i:Int)+1,itB lv ((es.getD i en0).2.2) ((es.getD i en0).1))]),A34_26,c34_26,by omega,by rw [hO,itsE_snoc (by omega),← List.append_assoc]; (first | rfl | (congr 4; omega) | simp),by rw [List.length_append,hOl]; rfl,by omega,rfl,(by kernel_rfl),hst26.pk [0,1,2]⟩
 refine wp_exit (then_exit (then_exit (blk_eq (then_normal (wp_seq (sqr (sqp [.m 36 5, .m 4 36] ?_)))))))
 refine then_normal (wp_ret ?_)
 refine bpr (.slice OA nn OC) (results_1 Try.results81 rpt) ?_
 rw [fresh_all (by omega)] at hO
 rw [hO] at hst8 hOl
 rw [← hOl] at hst8 ⊢
 have ho_:=hst8.own' 2 rfl
 exact ⟨_, _,rfl,ho_,hst8.ext⟩
theorem kfresh_0 (pg:Int) (w:World):Calls Try.prog 81 #[.int .i64 pg, .agg #[.int .i64 0, .int .i64 0, .int .i64 (-1), .string ⟨#[]⟩, .bool false, .slice none 0 0, .int .i64 0]] w (EdPost (begF pg) w):=kfresh_any pg 0 0 (-1) 0 ⟨#[]⟩ none 0 0 [] w (At.nil _ _) rfl (fun e he=>nomatch he) (by decide) (by decide) (by decide) (by decide)
theorem kbegin_any (n:Int) (w:World):
  Calls Try.prog 46 #[.int .i64 n] w (EdPost (begF n) w):=by
 go_enter Try.func46,Try.ntmps46
 have hst0:=St.start w
 refine wp_seq (sqr (sqp [.k 2 (.slice none 0 0)] ?_))
 refine then_normal (wp_seq (sqr (sqp [.m 3 0, .k 4 (.agg #[vi 0,vi 0,vi (-1), .string ByteArray.empty, .bool false, .slice none 0 0,vi 0])] ?_)))
 refine sqk2 (fun A5_4 c5_4=> .slice A5_4 2 c5_4) (fun A5_4 c5_4=>eO 99 3 (.slice A5_4 2 c5_4) 2 ((begF n).flatMap edC)) hst0 (fun cx=>⟨_,(kfresh_0 n _).mono (by rintro e W1 ⟨A4,c4,rfl,ho_,hx⟩; exact ⟨_, _,rfl,St.one hx (eO_new (n:=2) (xs:=(begF n).flatMap edC) ho_)⟩),(map2 (cx.ou 3) (cx.ou 4))⟩) fun A5_4 c5_4 W4 hst4=>?_
 refine sqp [.m 2 5] ?_
 refine then_normal (wp_ret ?_)
 refine bpr (.slice A5_4 2 c5_4) (results_1 Try.results46 rpt) ?_
 have ho_:=hst4.own' 0 rfl
 exact ⟨_, _,rfl,ho_,hst4.ext⟩
theorem kidx_any (FA:Option Addr) (fc:Nat) (ks:List EnD) (f0:FuncId) (cap:Array Value) (p:EnD→Bool) (w:World) (hF:At w FA (ks.flatMap enC)) (hl:ks.length≤100000) (hcf:callP Try.prog f0=true) (hf:∀ (W:World) (k:EnD),Ext w W→Calls Try.prog f0 (#[.agg #[.string k.1, .int .i64 (k.2.1:Int), .int .i64 k.2.2]]++cap) W (Ret (.bool (p k)) W)):
  Calls Try.prog 82 #[.slice FA ks.length fc, .func (.func f0) #[] cap] w (Ret (.int .i64 (idxP p 0 ks)) w):=by
 go_enter Try.func82,Try.ntmps82
 have hst0:=St.start w
 refine wp_seq (sqr (sqp [.k 4 (vi 0)] ?_))
 refine then_normal (wp_seq (wp_seq (sqr (sqp [.m 6 0, .k 7 (vi ((ks.length:Int))), .k 8 (vi 0)] ?_))))
 refine then_normal (wp_block ?_)
 refine wp_loopT (fun t_ mz az W=>∃ k:Nat,k≤ks.length∧idxP p 0 ks=idxP p (k:Int) (ks.drop k)∧mz=ks.length - k∧az=⟨(ovr (jv az) [(4,4,2,[]),(2,8,0,[vi ((k:Int))]),(0,9,10,[])] t_).toArray,[]⟩∧St w [] [] W) (ks.length - 0) ?_ ?_
 · -- the loop begins
   exact ⟨0,Nat.zero_le _,rfl,rfl,(by kernel_rfl),hst0.pk []⟩
 rintro n5 a5 W5 ⟨k,hk,hkr,rfl,hj_,hst5⟩
 refine ovz hj_ fun u5_=>?_
 refine wp_seq (sqr (sqp [.k 9 (.bool (decide ((k:Int) < (ks.length:Int))))] ?_))
 refine then_normal (wp_seq (wds (fun hs7 hs7p=>?_) fun hs7 hs7p=>?_))
 ·refine wp_skip (then_normal (wp_seq (wp_block (wp_seq (sqr (sqp [.m 10 8, .m 5 10] ?_))))))
  refine then_normal (wp_seq ?_)
  obtain ⟨kx,ky,kz,hkj⟩:=getE3 (l:=ks) (k:=k) (by omega)
  refine sqr (sqp [.m 11 1, .m 12 0, .m 13 5] ?_)
  refine sql (.pointer (some ((ad FA).add (k*3)))) hst5 (fun cx=>run_indexSlM (e:=104) (m:=k) (sz:=3) rfl (by kernel_rfl) (by kernel_rfl) (cx.ou 12) (cx.ou 13) (by omega) (by omega) (hF.ext cx.upd.to_ext) (flatPos (sz:=3) enC_len (by decide) (by omega))) ?_
  refine sql (.agg #[.string kx,vi ((ky:Int)),vi kz]) hst5 (fun cx=>run_loadElt (f:=enC) (m:=k) (sz:=3) (off:=0) (n:=3) rfl (by kernel_rfl) (by kernel_rfl) (cx.ou 14) rfl enC_len (hF.ext cx.upd.to_ext) hkj (fun k hk=>match k,hk with | 0, _=>rfl | 1, _=>rfl | 2, _=>rfl | k+3,hk=>absurd hk (by omega))) ?_
  refine sqv (.bool ((p (kx,ky,kz)))) hst5 (sv_call rfl rfl rfl rfl rfl (fun _ _ _ h=>h) fun ρ β W X cx=>⟨_, _,run_callV (f:=f0) (args:=#[.agg #[.string kx,vi ((ky:Int)),vi kz]]) (args':=#[.agg #[.string kx,vi ((ky:Int)),vi kz]]++cap) rfl rfl (cx.ou 11) hcf (map1 (cx.ou 15)) (by rw [Array.empty_append]),(by have h9:=hf W (kx,ky,kz) cx.upd.to_ext; dsimp only at h9; exact h9)⟩) fun W15 hst15=>?_
  refine then_normal (wbs (fun hs16=>?_) fun hs16=>?_)
  ·refine wp_seq (sqr (sqp [.m 17 5, .m 4 17] ?_))
   refine then_normal (wp_ret (blk_ret (then_ret (then_ret (blk_ret (then_ret ?_))))))
   refine bpr (vi ((k:Int))) (results_1 Try.results82 rpt) ?_
   exact Ret.of (by rw [hkr,idxP_at hkj,hs16]; rfl) hst15.ext
  refine wp_skip (blk_normal (then_normal (sqr (sqp [sI 18 ((k:Int)+1) (by omega), .m 8 18] ?_))))
  refine then_normal ?_
  refine ⟨ks.length - ((k+1)),by omega,?_⟩
  exact ⟨(k+1),by omega,by rw [hkr,idxP_at hkj,hs16]; rfl,rfl,(by kernel_rfl),hst15.pk []⟩
 refine wp_exit (then_exit (then_exit (blk_eq (then_normal (wp_seq (sqr (sqp [.k 4 (vi (-1))] ?_)))))))
 refine then_normal (wp_ret ?_)
 refine bpr (vi (-1)) (results_1 Try.results82 rpt) ?_
 exact Ret.of (by rw [hkr,List.drop_of_length_le (by omega)]; rfl) hst5.ext
theorem kcon_any (FA:Option Addr) (fc:Nat) (ks:List EnD) (f0:FuncId) (cap:Array Value) (p:EnD→Bool) (w:World) (hF:At w FA (ks.flatMap enC)) (hl:ks.length≤100000) (hcf:callP Try.prog f0=true) (hf:∀ (W:World) (k:EnD),Ext w W→Calls Try.prog f0 (#[.agg #[.string k.1, .int .i64 (k.2.1:Int), .int .i64 k.2.2]]++cap) W (Ret (.bool (p k)) W)):
  Calls Try.prog 51 #[.slice FA ks.length fc, .func (.func f0) #[] cap] w (Ret (.bool (ks.any p)) w):=by
 go_enter Try.func51,Try.ntmps51
 have hst0:=St.start w
 refine wp_seq (sqr (sqp [.k 4 (.bool false)] ?_))
 refine then_normal (wp_seq (sqr (sqp [.m 5 0, .m 6 1] ?_)))
 refine sqv (vi ((idxP p 0 ks))) hst0 (sv_call rfl rfl rfl rfl rfl (fun _ _ _ h=>h) fun ρ β W X cx=>⟨_, _,run_callF (args:=#[.slice FA ks.length fc, .func (.func f0) #[] cap]) rfl cx.sees rfl (by kernel_rfl) (map2 (cx.ou 5) (cx.ou 6)),kidx_any _ _ ks _ _ p _ (hF.ext cx.upd.to_ext) hl hcf (fun W k hW=>hf W k (cx.upd.to_ext.trans hW))⟩) fun W4 hst4=>?_
 refine sqp [.k 8 (.bool (decide (0≤(idxP p 0 ks)))), .m 4 8] ?_
 refine then_normal (wp_ret ?_)
 refine bpr (.bool (decide (0≤(idxP p 0 ks)))) (results_1 Try.results51 rpt) ?_
 exact Ret.of (by rw [← idxP_any _ _ 0 (by omega)]) hst4.ext
theorem kput1_any (x:ByteArray) (y z:Int) (tb:Nat) (te:ByteArray) (t1 tk tl:Int) (w:World) (h1:Blk w tb 106 #[.string te, .int .i64 t1, .int .i64 tk, .int .i64 tl]):
  Calls Try.prog 83 #[.agg #[.string x, .int .i64 y, .int .i64 z], .pointer (some ⟨tb,0,none⟩)] w (Ret (.bool (x.toList==te.toList)) w):=by
 go_enter Try.func83,Try.ntmps83
 have hst0:=St.start w
 refine wp_seq (sqr ?_)
 refine sqbx #[.string x,vi y,vi z] hst0 fun B2_1 W1 hst1=>?_
 refine sqp [.k 3 (.bool false)] ?_
 refine then_normal (wp_seq (sqr (sqp [.k 4 (vp B2_1)] ?_)))
 refine sqld 0 hst1 ?_
 refine sqp [.k 6 (vp tb), .k 7 (vp tb)] ?_
 refine sql (.string te) hst1 (fun cx=>run_load1 rfl (by kernel_rfl) (cx.ou 7) ((Blk.ext h1 cx.upd.to_ext).cell 0)) ?_
 refine sqp [.k 9 (.bool (x.toList==te.toList)), .m 3 9] ?_
 refine then_normal (wp_ret ?_)
 refine bpr (.bool (x.toList==te.toList)) (results_1 Try.results83 rpt) ?_
 exact Ret.bool rfl hst1.ext
theorem kput1_con {A:Option Addr} {c:Nat} {es:List EnD} {w:World} {tb:Nat} {te:ByteArray} {t1 tk tl:Int} (hE:At w A (es.flatMap enC)) (hl:es.length≤100000) (h1:Blk w tb 106 #[.string te, .int .i64 t1, .int .i64 tk, .int .i64 tl]):
  Calls Try.prog 51 #[.slice A es.length c, .func (.func 83) #[] #[.pointer (some ⟨tb,0,none⟩)]] w (Ret (.bool (hasE es te)) w):=
 kcon_any A c es 83 #[.pointer (some ⟨tb,0,none⟩)] (fun e=>e.1.toList==te.toList) w hE hl (by kernel_rfl) (fun W k hW=>kput1_any k.1 _ k.2.2 tb te t1 tk tl W (h1.ext hW))
theorem kstep1_any (x:ByteArray) (y z:Int) (tb:Nat) (te:ByteArray) (t1 tk tl:Int) (w:World) (h1:Blk w tb 106 #[.string te, .int .i64 t1, .int .i64 tk, .int .i64 tl]):
  Calls Try.prog 48 #[.agg #[.string x, .int .i64 y, .int .i64 z], .pointer (some ⟨tb,0,none⟩)] w (Ret (.bool (x.toList==te.toList)) w):=by
 go_enter Try.func48,Try.ntmps48
 have hst0:=St.start w
 refine wp_seq (sqr ?_)
 refine sqbx #[.string x,vi y,vi z] hst0 fun B2_1 W1 hst1=>?_
 refine sqp [.k 3 (.bool false)] ?_
 refine then_normal (wp_seq (sqr (sqp [.k 4 (vp B2_1)] ?_)))
 refine sqld 0 hst1 ?_
 refine sqp [.k 6 (vp tb), .k 7 (vp tb)] ?_
 refine sql (.string te) hst1 (fun cx=>run_load1 rfl (by kernel_rfl) (cx.ou 7) ((Blk.ext h1 cx.upd.to_ext).cell 0)) ?_
 refine sqp [.k 9 (.bool (x.toList==te.toList)), .m 3 9] ?_
 refine then_normal (wp_ret ?_)
 refine bpr (.bool (x.toList==te.toList)) (results_1 Try.results48 rpt) ?_
 exact Ret.bool rfl hst1.ext
theorem kstep1_con {A:Option Addr} {c:Nat} {es:List EnD} {w:World} {tb:Nat} {te:ByteArray} {t1 tk tl:Int} (hE:At w A (es.flatMap enC)) (hl:es.length≤100000) (h1:Blk w tb 106 #[.string te, .int .i64 t1, .int .i64 tk, .int .i64 tl]):
  Calls Try.prog 51 #[.slice A es.length c, .func (.func 48) #[] #[.pointer (some ⟨tb,0,none⟩)]] w (Ret (.bool (hasE es te)) w):=
 kcon_any A c es 48 #[.pointer (some ⟨tb,0,none⟩)] (fun e=>e.1.toList==te.toList) w hE hl (by kernel_rfl) (fun W k hW=>kstep1_any k.1 _ k.2.2 tb te t1 tk tl W (h1.ext hW))
end
end Go.Proofs.Ytjlcoglmjldjbaa

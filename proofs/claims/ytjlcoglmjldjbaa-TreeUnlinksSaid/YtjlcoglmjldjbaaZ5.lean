import Derived.Test.YtjlcoglmjldjbaaZ4
set_option linter.unusedVariables false
set_option linter.unusedSimpArgs false
set_option maxRecDepth 100000
set_option maxHeartbeats 16000000
namespace Go.Proofs.Ytjlcoglmjldjbaa
section
open Go.RowKit
def neB(a:ByteArray):Bool:=!(a.toList==(⟨#[]⟩:ByteArray).toList)
def srS(hi lo:ByteArray)(es:List EnD)(i:Nat):Bool:=(neB lo&&ag (es.getD i en0).1 lo)||(neB hi&&!(ag (es.getD i en0).1 hi))||(decide (0<(i:Int))&&((es.getD i en0).1.toList==(es.getD ((i:Int)-1).toNat en0).1.toList))
def srF(hi lo:ByteArray)(es:List EnD):Bool:=(List.range es.length).all fun i=>!srS hi lo es i
theorem kG{p:Nat->Bool}{i:Nat}(h:(List.range i).all p=true)(hp:p i=true):(List.range (i+1)).all p=true:=by
 rw[List.range_succ,List.all_append,h];simp[hp]
theorem dO{p:Nat->Bool}{i n:Nat}(hi:i<n)(hp:p i=false):(List.range n).all p=false:=by
 rw[List.all_eq_false]
 exact⟨i,List.mem_range.2 hi,by rw[hp];simp⟩
theorem Ah(pg lv rt fr:Int)(hg:ByteArray)(dd:Bool)(EA:Option Addr)(ec n:Nat)(es:List EnD)(lo:ByteArray)(w:World)(hE:At w EA (es.flatMap enC))(hn:es.length=n)(hn1:n<=100)(hez:∀e∈es,e.1.size<=1000000)(hgz:hg.size<=1000000)(hlz:lo.size<=1000000):
  Calls Try.prog 100 #[.agg #[.int .i64 pg,.int .i64 lv,.int .i64 rt,.string hg,.bool dd,.slice EA n ec,.int .i64 fr],.string lo] w (Ret (.bool (srF hg lo es)) w):=by
 go_enter Try.func100,Try.ntmps100
 have aq:=St.start w
 refine wp_seq (sqr ?_)
 refine bX #[vi pg,vi lv,vi rt,.string hg,.bool dd,.slice EA n ec,vi fr] aq fun bV W1 aC=>?_
 refine sqp [.k 4 (.bool false)] ?_
 refine aa (wp_seq (wp_seq (sqr (sqp [.k 7 (.pointer (some ⟨bV,5,none⟩))] ?_))))
 refine al 0 aC ?_
 refine sqp [.k 9 (vi ((n:Int))),.k 10 (vi 0)] ?_
 refine aa (wp_block ?_)
 refine aX (fun t_ mz az W=>∃i:Nat,i<=n/\(List.range i).all (fun i=>!srS hg lo es i)=true/\mz=n-i/\az=⟨(ovr (jv az) [(4,4,3,[]),(3,10,0,[vi ((i:Int))]),(0,11,42,[])] t_).toArray,[]⟩/\St w [] [eB bV 116 #[vi pg,vi lv,vi rt,.string hg,.bool dd,.slice EA n ec,vi fr]] W) (n-0) ?_ ?_
 exact⟨0,Nat.zero_le _,rfl,rfl,(by kernel_rfl),aC.pk [0]⟩
 rintro n7 a7 W7 ⟨i,hi,hall,rfl,hj_,bF⟩
 refine ovz hj_ fun IV=>?_
 refine wp_seq (sqr (sqp [.k 11 (.bool (decide ((i:Int)<(n:Int))))] ?_))
 refine aa (wp_seq (wds (fun wS xj=>?_) fun wS xj=>?_))
 refine wp_skip (aa (wp_seq (wp_block (wp_seq (sqr (sqp [.m 12 10] ?_))))))
 refine sql (.pointer (some ((ad EA).add (i*3)))) bF (fun cx=>aD (e:=104) (m:=i) (sz:=3) rfl (by kernel_rfl) (by kernel_rfl) (cx.ou 8) (cx.ou 10) (by omega) (by omega) (hE.ext cx.upd.to_ext) (be (sz:=3) aH (by decide) (by omega))) ?_
 refine sql (.agg #[.string ((es.getD i en0).1),vi (((es.getD i en0).2.1:Int)),vi ((es.getD i en0).2.2)]) bF (fun cx=>aY (f:=enC) (m:=i) (sz:=3) (off:=0) (n:=3) rfl (by kernel_rfl) (by kernel_rfl) (cx.ou 13) rfl aH (hE.ext cx.upd.to_ext) (ck (by omega)) (fun k hk=>match k,hk with|0,_=>rfl|1,_=>rfl|2,_=>rfl|k+3,hk=>absurd hk (by omega))) ?_
 refine bW #[.string ByteArray.empty,vi 0,vi 0] bF fun zK kO bE=>?_
 refine sqp [.m 5 12] ?_
 refine aF (n:=3) 1 #[.string ((es.getD i en0).1),vi (((es.getD i en0).2.1:Int)),vi ((es.getD i en0).2.2)] bE fun ow cj=>?_
 refine aa (wp_seq (bC [0,1,3,7,15,7,63,127,255,511,1023,2047,4095,8191,16383,8191,40959,131071,262143,524287,1048575,2097151,4194303,8388607,16777215,33554431,67108863,33554431,167772159,33554431,570425343,2046820351,4194303999,8489271295,17179869183,34359738367,68719476735] [[],[],[],[],[1],[],[],[],[],[],[0],[],[],[],[1],[],[0],[],[],[],[],[],[],[],[],[],[1],[],[0]] [.k 15 (.string lo),.k 16 (.bool (!(lo.toList==((⟨#[]⟩:ByteArray)).toList))),.k 17 (.bool (!(lo.toList==((⟨#[]⟩:ByteArray)).toList))),.z 18 (!(lo.toList==((⟨#[]⟩:ByteArray)).toList)) (vp zK),.y 19 (!(lo.toList==((⟨#[]⟩:ByteArray)).toList)) (.string ((es.getD i en0).1)),.z 20 (!(lo.toList==((⟨#[]⟩:ByteArray)).toList)) (.string lo),.y 21 (!(lo.toList==((⟨#[]⟩:ByteArray)).toList)) (.bool (ag ((es.getD i en0).1) lo)),tA 22 (!(lo.toList==((⟨#[]⟩:ByteArray)).toList)) (ag ((es.getD i en0).1) lo),.k 23 (.bool ((!(lo.toList==((⟨#[]⟩:ByteArray)).toList))&&(ag ((es.getD i en0).1) lo))),.z 24 (!((!(lo.toList==((⟨#[]⟩:ByteArray)).toList))&&(ag ((es.getD i en0).1) lo))) (.pointer (some ⟨bV,3,none⟩)),.y 25 (!((!(lo.toList==((⟨#[]⟩:ByteArray)).toList))&&(ag ((es.getD i en0).1) lo))) (.string hg),.y 26 (!((!(lo.toList==((⟨#[]⟩:ByteArray)).toList))&&(ag ((es.getD i en0).1) lo))) (.bool (!(hg.toList==((⟨#[]⟩:ByteArray)).toList))),.z 27 (!((!(lo.toList==((⟨#[]⟩:ByteArray)).toList))&&(ag ((es.getD i en0).1) lo))) (.bool (!(hg.toList==((⟨#[]⟩:ByteArray)).toList))),.z 28 ((!((!(lo.toList==((⟨#[]⟩:ByteArray)).toList))&&(ag ((es.getD i en0).1) lo)))&&(!(hg.toList==((⟨#[]⟩:ByteArray)).toList))) (vp zK),.y 29 ((!((!(lo.toList==((⟨#[]⟩:ByteArray)).toList))&&(ag ((es.getD i en0).1) lo)))&&(!(hg.toList==((⟨#[]⟩:ByteArray)).toList))) (.string ((es.getD i en0).1)),.z 30 ((!((!(lo.toList==((⟨#[]⟩:ByteArray)).toList))&&(ag ((es.getD i en0).1) lo)))&&(!(hg.toList==((⟨#[]⟩:ByteArray)).toList))) (.pointer (some ⟨bV,3,none⟩)),.y 31 ((!((!(lo.toList==((⟨#[]⟩:ByteArray)).toList))&&(ag ((es.getD i en0).1) lo)))&&(!(hg.toList==((⟨#[]⟩:ByteArray)).toList))) (.string hg),.y 32 ((!((!(lo.toList==((⟨#[]⟩:ByteArray)).toList))&&(ag ((es.getD i en0).1) lo)))&&(!(hg.toList==((⟨#[]⟩:ByteArray)).toList))) (.bool (ag ((es.getD i en0).1) hg)),.z 33 ((!((!(lo.toList==((⟨#[]⟩:ByteArray)).toList))&&(ag ((es.getD i en0).1) lo)))&&(!(hg.toList==((⟨#[]⟩:ByteArray)).toList))) (.bool (!(ag ((es.getD i en0).1) hg))),.y 34 (!((!(lo.toList==((⟨#[]⟩:ByteArray)).toList))&&(ag ((es.getD i en0).1) lo))) (.bool ((!(hg.toList==((⟨#[]⟩:ByteArray)).toList))&&(!(ag ((es.getD i en0).1) hg)))),tO 35 ((!(lo.toList==((⟨#[]⟩:ByteArray)).toList))&&(ag ((es.getD i en0).1) lo)) ((!(hg.toList==((⟨#[]⟩:ByteArray)).toList))&&(!(ag ((es.getD i en0).1) hg))),.k 36 (.bool (((!(lo.toList==((⟨#[]⟩:ByteArray)).toList))&&(ag ((es.getD i en0).1) lo))||((!(hg.toList==((⟨#[]⟩:ByteArray)).toList))&&(!(ag ((es.getD i en0).1) hg))))),.z 37 (!(((!(lo.toList==((⟨#[]⟩:ByteArray)).toList))&&(ag ((es.getD i en0).1) lo))||((!(hg.toList==((⟨#[]⟩:ByteArray)).toList))&&(!(ag ((es.getD i en0).1) hg))))) (vi ((i:Int))),.z 38 (!(((!(lo.toList==((⟨#[]⟩:ByteArray)).toList))&&(ag ((es.getD i en0).1) lo))||((!(hg.toList==((⟨#[]⟩:ByteArray)).toList))&&(!(ag ((es.getD i en0).1) hg))))) (.bool (decide (0<(i:Int)))),.z 39 (!(((!(lo.toList==((⟨#[]⟩:ByteArray)).toList))&&(ag ((es.getD i en0).1) lo))||((!(hg.toList==((⟨#[]⟩:ByteArray)).toList))&&(!(ag ((es.getD i en0).1) hg))))) (.bool (decide (0<(i:Int)))),.z 40 ((!(((!(lo.toList==((⟨#[]⟩:ByteArray)).toList))&&(ag ((es.getD i en0).1) lo))||((!(hg.toList==((⟨#[]⟩:ByteArray)).toList))&&(!(ag ((es.getD i en0).1) hg)))))&&(decide (0<(i:Int)))) (vp zK),.y 41 ((!(((!(lo.toList==((⟨#[]⟩:ByteArray)).toList))&&(ag ((es.getD i en0).1) lo))||((!(hg.toList==((⟨#[]⟩:ByteArray)).toList))&&(!(ag ((es.getD i en0).1) hg)))))&&(decide (0<(i:Int)))) (.string ((es.getD i en0).1)),.z 42 ((!(((!(lo.toList==((⟨#[]⟩:ByteArray)).toList))&&(ag ((es.getD i en0).1) lo))||((!(hg.toList==((⟨#[]⟩:ByteArray)).toList))&&(!(ag ((es.getD i en0).1) hg)))))&&(decide (0<(i:Int)))) (.pointer (some ⟨bV,5,none⟩)),.y 43 ((!(((!(lo.toList==((⟨#[]⟩:ByteArray)).toList))&&(ag ((es.getD i en0).1) lo))||((!(hg.toList==((⟨#[]⟩:ByteArray)).toList))&&(!(ag ((es.getD i en0).1) hg)))))&&(decide (0<(i:Int)))) (.slice EA n ec),.z 44 ((!(((!(lo.toList==((⟨#[]⟩:ByteArray)).toList))&&(ag ((es.getD i en0).1) lo))||((!(hg.toList==((⟨#[]⟩:ByteArray)).toList))&&(!(ag ((es.getD i en0).1) hg)))))&&(decide (0<(i:Int)))) (vi ((i:Int))),.y 45 ((!(((!(lo.toList==((⟨#[]⟩:ByteArray)).toList))&&(ag ((es.getD i en0).1) lo))||((!(hg.toList==((⟨#[]⟩:ByteArray)).toList))&&(!(ag ((es.getD i en0).1) hg)))))&&(decide (0<(i:Int)))) (vi ((i:Int)-1)),.y 46 ((!(((!(lo.toList==((⟨#[]⟩:ByteArray)).toList))&&(ag ((es.getD i en0).1) lo))||((!(hg.toList==((⟨#[]⟩:ByteArray)).toList))&&(!(ag ((es.getD i en0).1) hg)))))&&(decide (0<(i:Int)))) (.pointer (some ((ad EA).add ((((i:Int)-1).toNat)*3)))),.y 47 ((!(((!(lo.toList==((⟨#[]⟩:ByteArray)).toList))&&(ag ((es.getD i en0).1) lo))||((!(hg.toList==((⟨#[]⟩:ByteArray)).toList))&&(!(ag ((es.getD i en0).1) hg)))))&&(decide (0<(i:Int)))) (.pointer (some ((ad EA).add ((((i:Int)-1).toNat)*3+0)))),.y 48 ((!(((!(lo.toList==((⟨#[]⟩:ByteArray)).toList))&&(ag ((es.getD i en0).1) lo))||((!(hg.toList==((⟨#[]⟩:ByteArray)).toList))&&(!(ag ((es.getD i en0).1) hg)))))&&(decide (0<(i:Int)))) (.string ((es.getD (((i:Int)-1).toNat) en0).1)),.y 49 ((!(((!(lo.toList==((⟨#[]⟩:ByteArray)).toList))&&(ag ((es.getD i en0).1) lo))||((!(hg.toList==((⟨#[]⟩:ByteArray)).toList))&&(!(ag ((es.getD i en0).1) hg)))))&&(decide (0<(i:Int)))) (.bool (((es.getD i en0).1).toList==((es.getD (((i:Int)-1).toNat) en0).1).toList)),.y 50 (!(((!(lo.toList==((⟨#[]⟩:ByteArray)).toList))&&(ag ((es.getD i en0).1) lo))||((!(hg.toList==((⟨#[]⟩:ByteArray)).toList))&&(!(ag ((es.getD i en0).1) hg))))) (.bool ((decide (0<(i:Int)))&&(((es.getD i en0).1).toList==((es.getD (((i:Int)-1).toNat) en0).1).toList))),tO 51 (((!(lo.toList==((⟨#[]⟩:ByteArray)).toList))&&(ag ((es.getD i en0).1) lo))||((!(hg.toList==((⟨#[]⟩:ByteArray)).toList))&&(!(ag ((es.getD i en0).1) hg)))) ((decide (0<(i:Int)))&&(((es.getD i en0).1).toList==((es.getD (((i:Int)-1).toNat) en0).1).toList))] [0,1] [4,6,10,11,14,16,17,19,26,28,30,31,32,33,34,35] [(15,0,37,52)] cj ?_ fun ov bP=>?_))
 refine⟨?_,?_,?_,?_,?_,?_,?_,?_,?_,?_,?_,?_,?_,?_,?_,?_,trivial⟩
 exact m2 rfl (fun _ _ _ h=>h) (fun cx=>(cx.an 2)) fun cx hq=>ae rfl (by kernel_rfl) (mbv (cx.an 3) hq) ((cx.bi 1 rfl).cell 0)
 exact m3 rfl (fun _ _ _ h=>h) (fun cx=>(cx.an 2)) fun cx hq=>⟨_,_,av (args:=#[.string ((es.getD i en0).1),.string lo]) rfl cx.sees rfl (by kernel_rfl) (aK (mbv (cx.an 4) hq) (mbv (cx.an 5) hq)),gl ((es.getD i en0).1) lo _ (cH hez _) (by omega)⟩
 exact m2 rfl (fun _ _ _ h=>h) (fun cx=>(cx.an 8)) fun cx hq=>ae rfl (by kernel_rfl) (mbv (cx.an 9) hq) ((cx.bi 0 rfl).cell 3)
 exact m2 rfl (fun _ _ _ h=>h) (fun cx=>(cx.an 8)) fun cx hq=>ue rfl (mbv (cx.an 10) hq) (cx.co _)
 exact m0 rfl (fun _ _ _ h=>h) (fun cx=>(cx.an 12)) fun cx hq=>ae rfl (by kernel_rfl) (mbv (cx.an 13) hq) ((cx.bi 1 rfl).cell 0)
 exact m0 rfl (fun _ _ _ h=>h) (fun cx=>(cx.an 12)) fun cx hq=>ae rfl (by kernel_rfl) (mbv (cx.an 15) hq) ((cx.bi 0 rfl).cell 3)
 exact m1 rfl (fun _ _ _ h=>h) (fun cx=>(cx.an 12)) fun cx hq=>⟨_,_,av (args:=#[.string ((es.getD i en0).1),.string hg]) rfl cx.sees rfl (by kernel_rfl) (aK (mbv (cx.an 14) hq) (mbv (cx.an 16) hq)),gl ((es.getD i en0).1) hg _ (cH hez _) (by omega)⟩
 exact m2 rfl (fun _ _ _ h=>h) (fun cx=>(cx.an 8)) fun cx hq=>nZ rfl (mbv (cx.an 12) hq) (cx.an 18) (fun e_=>by rw[hq,e_];rfl) (cx.co _)
 exact m0 rfl (fun _ _ _ h=>h) (fun cx=>(cx.an 24)) fun cx hq=>ae rfl (by kernel_rfl) (mbv (cx.an 25) hq) ((cx.bi 1 rfl).cell 0)
 exact m0 rfl (fun _ _ _ h=>h) (fun cx=>(cx.an 24)) fun cx hq=>ae rfl (by kernel_rfl) (mbv (cx.an 27) hq) ((cx.bi 0 rfl).cell 5)
 exact m0 rfl (fun _ _ _ h=>h) (fun cx=>(cx.an 24)) fun cx hq=>km rfl (mbv (cx.an 29) hq) (cx.co _) (congrArg (fun z=>some (Value.int .i64 z)) ((IntWalk.i64_in _ (by have hq_:=hq;simp only[zB] at hq_;omega)).trans (by have hq_:=hq;simp only[zB] at hq_;omega)))
 exact m0 rfl (fun _ _ _ h=>h) (fun cx=>(cx.an 24)) fun cx hq=>aD (e:=104) (m:=((i:Int)-1).toNat) (sz:=3) rfl (by kernel_rfl) (by kernel_rfl) (mbv (cx.an 28) hq) (mbv (cx.an 30) hq) (by have hq_:=hq;simp only[zB] at hq_;omega) (by have hq_:=hq;simp only[zB] at hq_;omega) (hE.ext cx.upd.to_ext) (be (sz:=3) aH (by decide) (by have hq_:=hq;simp only[zB] at hq_;omega))
 exact m0 rfl (fun _ _ _ h=>h) (fun cx=>(cx.an 24)) fun cx hq=>db rfl (by kernel_rfl) (mbv (cx.an 31) hq)
 exact m0 rfl (fun _ _ _ h=>h) (fun cx=>(cx.an 24)) fun cx hq=>ae rfl (by kernel_rfl) (mbv (cx.an 32) hq) (At.eltc (f:=enC) (k:=0) aH (hE.ext cx.upd.to_ext) (ck (by have hq_:=hq;simp only[zB] at hq_;omega)) rfl)
 exact m0 rfl (fun _ _ _ h=>h) (fun cx=>(cx.an 24)) fun cx hq=>om rfl (mbv (cx.an 26) hq) (mbv (cx.an 33) hq)
 exact m2 rfl (fun _ _ _ h=>h) (fun cx=>(cx.an 21)) fun cx hq=>nZ rfl (mbv (cx.an 24) hq) (cx.an 34) (fun e_=>by rw[hq,e_];rfl) (cx.co _)
 refine aa (wbs (fun ip=>?_) fun ip=>?_)
 have lw:=ip
 simp only[zB] at lw
 refine wp_seq (sqr (sqp [.k 4 (.bool false)] ?_))
 refine aa (wp_ret (aB (ai (ai (aB (ai ?_))))))
 refine bpr (.bool false) (ak Try.results100 rpt) ?_
 exact Ret.bool (by rw[srF,hn];exact(dO (i:=i) (by omega) (by rw[show srS hg lo es i=true from ip];rfl)).symm) bP.ext
 have lw:=ip
 simp only[zB] at lw
 obtain⟨⟨OK,OL⟩,OM⟩:=lw
 refine wp_skip (aw (aa (sqr (sqp [sI 52 ((i:Int)+1) (by omega),.m 10 52] ?_))))
 refine aa ?_
 refine⟨n-((i+1)),by omega,?_⟩
 exact⟨(i+1),by omega,kG hall (by rw[show srS hg lo es i=false from ip];rfl),rfl,(by kernel_rfl),bP.pk [0]⟩
 refine wp_exit (am (am (bj (aa (wp_seq (sqr (sqp [.k 4 (.bool true)] ?_)))))))
 refine aa (wp_ret ?_)
 refine bpr (.bool true) (ak Try.results100 rpt) ?_
 exact Ret.bool (by rw[srF,hn,show n=i by omega];exact hall.symm) bF.ext
def yn0:YnD:=(cZ,0,none,0)
theorem jJ{l:List YnD}{k:Nat}(h:k<l.length):l[k]? =some (l.getD k yn0):=by rw[List.getD_eq_getElem?_getD,List.getElem?_eq_getElem h];rfl
def ldW(L:List (Int×NoD))(k:Int):ByteArray:=if 0<k then (L.getD (k-1).toNat (0,cZ)).2.high else ay
def ldI(L:List (Int×NoD))(kid:Int):Int:=cG (fun m=>m.1==kid) 0 L
def ldS(L:List (Int×NoD))(e:EnD):Bool:=decide (ldI L e.2.2<0)||!(e.1.toList==(ldW L (ldI L e.2.2)).toList)
def ldF(L:List (Int×NoD))(es:List EnD):Bool:=((List.range es.length).all fun i=>!ldS L (es.getD i en0))&&decide (0<(es.length:Int))
theorem vZ{α a:Type}(f:α->a)(p:a->Bool):∀(l:List α) (k:Int),cG p k (l.map f)=cG (fun x=>p (f x)) k l
 | [],_=>rfl
 |x::l,k=>by rw[List.map_cons,cG,cG,vZ f p l]
theorem sK{α:Type}(p:α->Bool):∀(l:List α) (k:Int),0<=k->  -1<=cG p k l/\cG p k l<k+l.length
 | [],k,h=>⟨Int.le_refl _,by rw[cG,List.length_nil];omega⟩
 |x::l,k,h=>by
  rw[cG,List.length_cons]
  split
  exact⟨by omega,by omega⟩
  have:=sK p l (k+1) (by omega)
  exact⟨this.1,by omega⟩
theorem cg(xs:List YnD)(k:Nat):(xs.map pgN).getD k (0,cZ)=pgN (xs.getD k yn0):=by
 rw[List.getD_eq_getElem?_getD,List.getD_eq_getElem?_getD,List.getElem?_map]
 cases xs[k]? <;>rfl
theorem xG(y:YnD)(eb:Nat)(x:ByteArray)(s kid:Int)(w:World)(h1:Blk w eb 104 #[.string x,.int .i64 s,.int .i64 kid]):
  Calls Try.prog 107 #[.agg #[.int .i64 y.2.1,.int .i64 y.1.lv,.int .i64 y.1.right,.string y.1.high,.bool y.1.dead,.slice y.2.2.1 y.1.es.length y.2.2.2,.int .i64 ((y.1.free:Int))],.pointer (some ⟨eb,0,none⟩)] w (Ret (.bool (y.2.1==kid)) w):=by
 go_enter Try.func107,Try.ntmps107
 have aq:=St.start w
 refine wp_seq (sqr ?_)
 refine bX #[vi y.2.1,vi y.1.lv,vi y.1.right,.string y.1.high,.bool y.1.dead,.slice y.2.2.1 y.1.es.length y.2.2.2,vi ((y.1.free:Int))] aq fun bV W1 aC=>?_
 refine sqp [.k 3 (.bool false)] ?_
 refine aa (wp_seq (sqr (sqp [.k 4 (vp bV)] ?_)))
 refine al 0 aC ?_
 refine sqp [.k 6 (.pointer (some ⟨eb,2,none⟩))] ?_
 refine sql (vi kid) aC (fun cx=>ae rfl (by kernel_rfl) (cx.ou 6) ((Blk.ext h1 cx.upd.to_ext).cell 2)) ?_
 refine sqp [.k 8 (.bool (y.2.1==kid)),.m 3 8] ?_
 refine aa (wp_ret ?_)
 refine bpr (.bool (y.2.1==kid)) (ak Try.results107 rpt) ?_
 exact Ret.bool rfl aC.ext
theorem Aw(FA:Option Addr)(fc:Nat)(ks:List YnD)(f0:FuncId)(cap:Array Value)(p:YnD->Bool)(w:World)(hF:At w FA (ks.flatMap ynC))(hl:ks.length<=100000)(hcf:dV Try.prog f0=true)(hf:∀(W:World) (k:YnD),Ext w W->Calls Try.prog f0 (#[.agg #[.int .i64 k.2.1,.int .i64 k.1.lv,.int .i64 k.1.right,.string k.1.high,.bool k.1.dead,.slice k.2.2.1 k.1.es.length k.2.2.2,.int .i64 ((k.1.free:Int))]]++cap) W (Ret (.bool (p k)) W)):
  Calls Try.prog 106 #[.slice FA ks.length fc,.func (.func f0) #[] cap] w (Ret (.int .i64 (cG p 0 ks)) w):=by
 go_enter Try.func106,Try.ntmps106
 have aq:=St.start w
 refine wp_seq (sqr (sqp [.k 4 (vi 0)] ?_))
 refine aa (wp_seq (wp_seq (sqr (sqp [.m 6 0,.k 7 (vi ((ks.length:Int))),.k 8 (vi 0)] ?_))))
 refine aa (wp_block ?_)
 refine aX (fun t_ mz az W=>∃k:Nat,k<=ks.length/\cG p 0 ks=cG p (k:Int) (ks.drop k)/\mz=ks.length-k/\az=⟨(ovr (jv az) [(4,4,2,[]),(2,8,0,[vi ((k:Int))]),(0,9,10,[])] t_).toArray,[]⟩/\St w [] [] W) (ks.length-0) ?_ ?_
 exact⟨0,Nat.zero_le _,rfl,rfl,(by kernel_rfl),aq.pk []⟩
 rintro n5 a5 W5 ⟨k,hk,hkr,rfl,hj_,bO⟩
 refine ovz hj_ fun EL=>?_
 refine wp_seq (sqr (sqp [.k 9 (.bool (decide ((k:Int)<(ks.length:Int))))] ?_))
 refine aa (wp_seq (wds (fun wG qn=>?_) fun wG qn=>?_))
 refine wp_skip (aa (wp_seq (wp_block (wp_seq (sqr (sqp [.m 10 8,.m 5 10] ?_))))))
 refine aa (wp_seq (sqr (sqp [.m 11 1,.m 12 0,.m 13 5] ?_)))
 refine sql (.pointer (some ((ad FA).add (k*7)))) bO (fun cx=>aD (e:=116) (m:=k) (sz:=7) rfl (by kernel_rfl) (by kernel_rfl) (cx.ou 12) (cx.ou 13) (by omega) (by omega) (hF.ext cx.upd.to_ext) (be (sz:=7) fU (by decide) (by omega))) ?_
 refine sql (.agg #[vi ((ks.getD k yn0).2.1),vi ((ks.getD k yn0).1.lv),vi ((ks.getD k yn0).1.right),.string ((ks.getD k yn0).1.high),.bool ((ks.getD k yn0).1.dead),.slice ((ks.getD k yn0).2.2.1) ((ks.getD k yn0).1.es.length) ((ks.getD k yn0).2.2.2),vi (((ks.getD k yn0).1.free:Int))]) bO (fun cx=>aY (f:=ynC) (m:=k) (sz:=7) (off:=0) (n:=7) rfl (by kernel_rfl) (by kernel_rfl) (cx.ou 14) rfl fU (hF.ext cx.upd.to_ext) (jJ (by omega)) (fun k hk=>match k,hk with|0,_=>rfl|1,_=>rfl|2,_=>rfl|3,_=>rfl|4,_=>rfl|5,_=>rfl|6,_=>rfl|k+7,hk=>absurd hk (by omega))) ?_
 refine sqv (.bool ((p (ks.getD k yn0)))) bO (eI rfl rfl rfl rfl rfl (fun _ _ _ h=>h) fun b a W X cx=>⟨_,_,fy (f:=f0) (args:=#[.agg #[vi ((ks.getD k yn0).2.1),vi ((ks.getD k yn0).1.lv),vi ((ks.getD k yn0).1.right),.string ((ks.getD k yn0).1.high),.bool ((ks.getD k yn0).1.dead),.slice ((ks.getD k yn0).2.2.1) ((ks.getD k yn0).1.es.length) ((ks.getD k yn0).2.2.2),vi (((ks.getD k yn0).1.free:Int))]]) (args':=#[.agg #[vi ((ks.getD k yn0).2.1),vi ((ks.getD k yn0).1.lv),vi ((ks.getD k yn0).1.right),.string ((ks.getD k yn0).1.high),.bool ((ks.getD k yn0).1.dead),.slice ((ks.getD k yn0).2.2.1) ((ks.getD k yn0).1.es.length) ((ks.getD k yn0).2.2.2),vi (((ks.getD k yn0).1.free:Int))]]++cap) rfl rfl (cx.ou 11) hcf (br (cx.ou 15)) (by rw[Array.empty_append]),(by have h9:=hf W (ks.getD k yn0) cx.upd.to_ext;exact h9)⟩) fun ow cj=>?_
 refine aa (wbs (fun qv=>?_) fun qv=>?_)
 refine wp_seq (sqr (sqp [.m 17 5,.m 4 17] ?_))
 refine aa (wp_ret (aB (ai (ai (aB (ai ?_))))))
 refine bpr (vi ((k:Int))) (ak Try.results106 rpt) ?_
 exact Ret.of (by rw[hkr,pf (jJ (l:=ks) (k:=k) (by omega)),qv];rfl) cj.ext
 refine wp_skip (aw (aa (sqr (sqp [sI 18 ((k:Int)+1) (by omega),.m 8 18] ?_))))
 refine aa ?_
 refine⟨ks.length-((k+1)),by omega,?_⟩
 exact⟨(k+1),by omega,by rw[hkr,pf (jJ (l:=ks) (k:=k) (by omega)),qv];rfl,rfl,(by kernel_rfl),cj.pk []⟩
 refine wp_exit (am (am (bj (aa (wp_seq (sqr (sqp [.k 4 (vi (-1))] ?_)))))))
 refine aa (wp_ret ?_)
 refine bpr (vi (-1)) (ak Try.results106 rpt) ?_
 exact Ret.of (by rw[hkr,List.drop_of_length_le (by omega)];rfl) bO.ext
theorem Bt{A:Option Addr}{c:Nat}{xs:List YnD}{w:World}{eb:Nat}{x:ByteArray}{s kid:Int}(hF:At w A (xs.flatMap ynC))(hl:xs.length<=100000)(h1:Blk w eb 104 #[.string x,.int .i64 s,.int .i64 kid]):
  Calls Try.prog 106 #[.slice A xs.length c,.func (.func 107) #[] #[.pointer (some ⟨eb,0,none⟩)]] w (Ret (.int .i64 (ldI (xs.map pgN) kid)) w):=by
 rw[ldI,vZ]
 exact Aw A c xs 107 #[.pointer (some ⟨eb,0,none⟩)] (fun y=>y.2.1==kid) w hF hl (by kernel_rfl) (fun W k hW=>xG k eb x s kid W (h1.ext hW))
theorem vv(pg lv rt fr:Int)(hg:ByteArray)(dd:Bool)(EA:Option Addr)(ec n:Nat)(es:List EnD)(BA:Option Addr)(bc:Nat)(xs:List YnD)(w:World)(hE:At w EA (es.flatMap enC))(hn:es.length=n)(hn1:n<=100)(hB:At w BA (xs.flatMap ynC))(hbl:xs.length<=100000):
  Calls Try.prog 101 #[.agg #[.int .i64 pg,.int .i64 lv,.int .i64 rt,.string hg,.bool dd,.slice EA n ec,.int .i64 fr],.slice BA xs.length bc] w (Ret (.bool (ldF (xs.map pgN) es)) w):=by
 go_enter Try.func101,Try.ntmps101
 have aq:=St.start w
 refine wp_seq (sqr ?_)
 refine bX #[vi pg,vi lv,vi rt,.string hg,.bool dd,.slice EA n ec,vi fr] aq fun bV W1 aC=>?_
 refine sqp [.k 4 (.bool false)] ?_
 refine aa (wp_seq (wp_seq (sqr (sqp [.k 9 (.pointer (some ⟨bV,5,none⟩))] ?_))))
 refine al 0 aC ?_
 refine sqp [.k 11 (vi ((n:Int))),.k 12 (vi 0)] ?_
 refine aa (wp_block ?_)
 refine aX (fun t_ mz az W=>∃i:Nat,i<=n/\(List.range i).all (fun i=>!ldS (xs.map pgN) (es.getD i en0))=true/\mz=n-i/\az=⟨(ovr (jv az) [(4,4,1,[]),(1,6,3,[]),(3,12,0,[vi ((i:Int))]),(0,13,24,[])] t_).toArray,[]⟩/\St w [] [eB bV 116 #[vi pg,vi lv,vi rt,.string hg,.bool dd,.slice EA n ec,vi fr]] W) (n-0) ?_ ?_
 exact⟨0,Nat.zero_le _,rfl,rfl,(by kernel_rfl),aC.pk [0]⟩
 rintro n7 a7 W7 ⟨i,hi,hall,rfl,hj_,bF⟩
 refine ovz hj_ fun IV=>?_
 refine wp_seq (sqr (sqp [.k 13 (.bool (decide ((i:Int)<(n:Int))))] ?_))
 refine aa (wp_seq (wds (fun wS xj=>?_) fun wS xj=>?_))
 ·refine wp_skip (aa (wp_seq (wp_block (wp_seq (sqr ?_)))))
  refine sql (.pointer (some ((ad EA).add (i*3)))) bF (fun cx=>aD (e:=104) (m:=i) (sz:=3) rfl (by kernel_rfl) (by kernel_rfl) (cx.ou 10) (cx.ou 12) (by omega) (by omega) (hE.ext cx.upd.to_ext) (be (sz:=3) aH (by decide) (by omega))) ?_
  refine sql (.agg #[.string ((es.getD i en0).1),vi (((es.getD i en0).2.1:Int)),vi ((es.getD i en0).2.2)]) bF (fun cx=>aY (f:=enC) (m:=i) (sz:=3) (off:=0) (n:=3) rfl (by kernel_rfl) (by kernel_rfl) (cx.ou 14) rfl aH (hE.ext cx.upd.to_ext) (ck (by omega)) (fun k hk=>match k,hk with|0,_=>rfl|1,_=>rfl|2,_=>rfl|k+3,hk=>absurd hk (by omega))) ?_
  refine bW #[.string ByteArray.empty,vi 0,vi 0] bF fun uK nD cb=>?_
  refine aF (n:=3) 1 #[.string ((es.getD i en0).1),vi (((es.getD i en0).2.1:Int)),vi ((es.getD i en0).2.2)] cb fun kO bE=>?_
  refine aa (wp_seq (sqr (sqp [.m 16 1] ?_)))
  refine sqv (.func (.func 107) #[] #[vp uK]) bE (by
    exact sv0 rfl rfl rfl rfl rfl (fun _ _ _ h=>h) fun b c W X cx=>by
     have IR:b (.tmp 6)=vp uK:=(cx.ou 6)
     simp[go_sem,Instr.makeFunc,IR]) fun ow cj=>?_
  refine sqk (vi ((ldI (xs.map pgN) ((es.getD i en0).2.2)))) cj (fun cx=>⟨_,Bt (hB.ext cx.upd.to_ext) hbl (cx.bi 1 rfl),(aK (cx.ou 16) (cx.ou 17))⟩) fun ov bP=>?_
  refine sqp [.m 7 18] ?_
  refine aa (wp_seq ?_)
  obtain⟨ix,lG⟩:∃z,(ldI (xs.map pgN) ((es.getD i en0).2.2))=z:=⟨_,rfl⟩
  rw[lG]
  have hix:=sK (fun m:Int×NoD=>m.1==(es.getD i en0).2.2) (xs.map pgN) 0 (by omega)
  rw[show cG (fun m:Int×NoD=>m.1==(es.getD i en0).2.2) 0 (xs.map pgN)=ix from lG,List.length_map] at hix
  refine sqr (sqk (.string ay) bP (fun cx=>⟨_,qz _,zo⟩) fun wB cB=>?_)
  refine sqp [.m 8 19] ?_
  refine aa ?_
  refine ji (fun t_ az W=>∃wt:ByteArray,wt=ldW (xs.map pgN) ix/\az=⟨(ovr (jv az) [(8,8,0,[.string wt]),(11,20,8,[])] t_).toArray,[]⟩/\St w [] [eB bV 116 #[vi pg,vi lv,vi rt,.string hg,.bool dd,.slice EA n ec,vi fr],eB uK 104 #[.string ((es.getD i en0).1),vi (((es.getD i en0).2.1:Int)),vi ((es.getD i en0).2.2)]] W) ?_ ?_
  refine wp_seq (sqr (sqp [.m 20 7,.k 21 (.bool (decide (0<ix)))] ?_))
  refine aa (wds (fun wE LH=>?_) fun wE LH=>?_)
  refine sqr (sqp [.m 22 1,.m 23 7,sI 24 (ix-1) (by omega)] ?_)
  refine sql (.pointer (some ((ad BA).add (((ix-1).toNat)*7)))) cB (fun cx=>aD (e:=116) (m:=(ix-1).toNat) (sz:=7) rfl (by kernel_rfl) (by kernel_rfl) (cx.ou 22) (cx.ou 24) (by omega) (by omega) (hB.ext cx.upd.to_ext) (be (sz:=7) fU (by decide) (by omega))) ?_
  refine sql (.pointer (some ((ad BA).add (((ix-1).toNat)*7+3)))) cB (fun cx=>db rfl (by kernel_rfl) (cx.ou 25)) ?_
  refine sql (.string ((xs.getD ((ix-1).toNat) yn0).1.high)) cB (fun cx=>ae rfl (by kernel_rfl) (cx.ou 26) (At.eltc (f:=ynC) (k:=3) fU (hB.ext cx.upd.to_ext) (jJ (by omega)) rfl)) ?_
  refine sqp [.m 8 27] ?_
  refine aa ?_
  exact⟨((xs.getD ((ix-1).toNat) yn0).1.high),by rw[ldW,if_pos (by omega)];rw[cg];rfl,(by kernel_rfl),cB.pk [0,1]⟩
  refine wp_skip (aa ?_)
  exact⟨ay,by rw[ldW,if_neg (by omega)],(by kernel_rfl),cB.pk [0,1]⟩
  rintro a20 wD ⟨wt,hwt,hj_,dL⟩
  refine ovz hj_ fun MV=>?_
  refine wp_seq (sqr (sqp [.m 28 7,.k 29 (.bool (decide (ix<0))),.m 30 29] ?_))
  refine fo 30 [31,32,33,34] ?_ rfl (fun hq=>?_) ?_
  rotate_left
  refine sqp [.k 31 (vp uK)] ?_
  refine al 1 dL ?_
  refine sqp [.m 33 8,.k 34 (.bool (!(((es.getD i en0).1).toList==wt.toList)))] ?_
  exact sqe
  refine dn ?_
  refine sqp [sPo 35 (decide (ix<0)) (!(((es.getD i en0).1).toList==wt.toList))] ?_
  refine aa (wbs (fun ef=>?_) fun ef=>?_)
  have uL:=ef
  simp only[zB] at uL
  refine wp_seq (sqr (sqp [.k 4 (.bool false)] ?_))
  refine aa (wp_ret (aB (ai (ai (aB (ai ?_))))))
  refine bpr (.bool false) (ak Try.results101 rpt) ?_
  exact Ret.bool (by rw[ldF,hn,dO (i:=i) (by omega) (by rw[show ldS (xs.map pgN) (es.getD i en0)=true by rw[ldS,lG,<-hwt];exact ef];rfl),Bool.false_and]) dL.ext
  have uL:=ef
  simp only[zB] at uL
  obtain⟨ON,OO⟩:=uL
  refine wp_skip (aw (aa (sqr (sqp [sI 36 ((i:Int)+1) (by omega),.m 12 36] ?_))))
  refine aa ?_
  refine⟨n-((i+1)),by omega,?_⟩
  exact⟨(i+1),by omega,kG hall (by rw[show ldS (xs.map pgN) (es.getD i en0)=false by rw[ldS,lG,<-hwt];exact ef];rfl),rfl,(by kernel_rfl),dL.pk [0]⟩
 refine wp_exit (am (am (bj (aa (wp_seq (sqr (sqp [.k 37 (.pointer (some ⟨bV,5,none⟩))] ?_)))))))
 refine al 0 bF ?_
 refine sqp [.k 39 (vi ((n:Int))),.k 40 (.bool (decide (0<(n:Int)))),.m 4 40] ?_
 refine aa (wp_ret ?_)
 refine bpr (.bool (decide (0<(n:Int)))) (ak Try.results101 rpt) ?_
 exact Ret.bool (by rw[ldF,hn,show n=i by omega,hall,Bool.true_and]) bF.ext
def rgA(n:NoD)(last:Bool)(lo:ByteArray):Bool:=n.dead||decide (8<(n.es.length:Int))||(last != (n.high.toList==(⟨#[]⟩:ByteArray).toList))||(last != decide (n.right<0))||!(srF n.high lo n.es)
def rgB(n:NoD)(i:Nat)(Lb:List (Int×NoD)):Bool:=decide (0<n.lv)&&(!(ldF Lb n.es)||(((i:Int)==0)&&((n.es.getD 0 en0).2.2 != (Lb.getD 0 (0,cZ)).1)))
def rgC(n:NoD)(lo:ByteArray):Bool:=(neB lo&&neB n.high)&&ag n.high lo
def kF(L:List (Int×NoD))(i:Nat):ByteArray:=if i=0 then ⟨#[]⟩ else (L.getD (i-1) (0,cZ)).2.high
def rgX(L Lb:List (Int×NoD))(i:Nat):Bool:=rgA (L.getD i (0,cZ)).2 ((i:Int)==(L.length:Int)-1) (kF L i)||rgB (L.getD i (0,cZ)).2 i Lb||rgC (L.getD i (0,cZ)).2 (kF L i)
def rgF(L Lb:List (Int×NoD)):Bool:=((List.range L.length).all fun i=>!rgX L Lb i)&&(decide (0<(L.length:Int))&&decide ((L.length:Int)<=400))
theorem Hg{L:List (Int×NoD)}{es:List EnD}(h:ldF L es=true):0<L.length/\0<es.length:=by
 rw[ldF,Bool.and_eq_true] at h
 have h2:0<es.length:=by have:=of_decide_eq_true h.2;omega
 refine⟨?_,h2⟩
 have h1:=List.all_eq_true.1 h.1 0 (List.mem_range.2 h2)
 have h3:ldS L (es.getD 0 en0)=false:=by simpa using h1
 rw[ldS,Bool.or_eq_false_iff] at h3
 have h4:=of_decide_eq_false h3.1
 have h5:=sK (fun m:Int×NoD=>m.1==(es.getD 0 en0).2.2) L 0 (by omega)
 rw[ldI] at h4
 omega
theorem gp{xs ys:List YnD}{i:Nat}{y:YnD}{lo:ByteArray}(h:(xs.map pgN).getD i (0,cZ)=pgN y)(hl:lo=kF (xs.map pgN) i):rgX (xs.map pgN) (ys.map pgN) i=(rgA y.1 ((i:Int)==(xs.length:Int)-1) lo||rgB y.1 i (ys.map pgN)||rgC y.1 lo):=by rw[rgX,h,<-hl,List.length_map];rfl
theorem II{xs:List YnD}(h:∀y∈xs,NdOk y.1)(i:Nat):(kF (xs.map pgN) i).size<=900000:=by
 unfold kF;split
 exact Nat.zero_le _
 rw[cg,List.getD_eq_getElem?_getD]
 cases hx:xs[i-1]? with
 |none=>exact Nat.zero_le _
 |some y=>exact(h y (List.mem_of_getElem? hx)).hi
theorem C4(SA BA:Option Addr)(sc bc:Nat)(xs ys:List YnD)(w:World)(hS:At w SA (xs.flatMap ynC))(hR:∀y∈xs,At w y.2.2.1 (y.1.es.flatMap enC))(hB:At w BA (ys.flatMap ynC))(hN:∀y∈xs,NdOk y.1)(hxl:xs.length<=1000)(hyl:ys.length<=1000):
  Calls Try.prog 73 #[.slice SA xs.length sc,.slice BA ys.length bc] w (Ret (.bool (rgF (xs.map pgN) (ys.map pgN))) w):=by
 go_enter Try.func73,Try.ntmps73
 have aq:=St.start w
 refine wp_seq (sqr (sqp [.k 4 (.bool false)] ?_))
 refine aa (wp_seq (sqr (sqp [.k 5 (.string ⟨#[]⟩)] ?_)))
 refine aa (wp_seq (wp_seq (sqr (sqp [.m 9 0,.k 10 (vi ((xs.length:Int))),.k 11 (vi 0)] ?_))))
 refine aa (wp_block ?_)
 refine aX (fun t_ mz az W=>∃i:Nat,∃lo:ByteArray,i<=xs.length/\lo=kF (xs.map pgN) i/\(List.range i).all (fun i=>!rgX (xs.map pgN) (ys.map pgN) i)=true/\mz=xs.length-i/\az=⟨(ovr (jv az) [(4,4,1,[.string lo]),(0,6,3,[]),(2,11,0,[vi ((i:Int))]),(0,12,73,[])] t_).toArray,[]⟩/\St w [] [] W) (xs.length-0) ?_ ?_
 exact⟨0,(⟨#[]⟩:ByteArray),Nat.zero_le _,rfl,rfl,rfl,(by kernel_rfl),aq.pk []⟩
 rintro n6 a6 W6 ⟨i,lo,hi,hlo,hall,rfl,hj_,ci⟩
 refine ovz hj_ fun IJ=>?_
 refine wp_seq (sqr (sqp [.k 12 (.bool (decide ((i:Int)<(xs.length:Int))))] ?_))
 refine aa (wp_seq (wds (fun wC qm=>?_) fun wC qm=>?_))
 refine wp_skip (aa (wp_seq (wp_block (wp_seq ?_))))
 obtain⟨y_,hy_⟩:∃z,xs[i]? =some z:=⟨_,jJ (by omega)⟩
 have hym_:=List.mem_of_getElem? hy_
 have hRy:=hR y_ hym_
 have hNy:=hN y_ hym_
 have hN1:=hNy.len
 have hN2:=hNy.lv
 have hN3:=hNy.rt
 have hN4:=hNy.hi
 have hNz:∀e∈y_.1.es,e.1.size<=1000000:=fun e he=>Nat.le_trans (hNy.es e he) (by decide)
 have hloz:lo.size<=900000:=by rw[hlo];exact II hN i
 have hgd:(xs.map pgN).getD i (0,cZ)=pgN y_:=by rw[cg,List.getD_eq_getElem?_getD,hy_];rfl
 refine sqr (sqp [.m 13 11] ?_)
 refine sql (.pointer (some ((ad SA).add (i*7)))) ci (fun cx=>aD (e:=116) (m:=i) (sz:=7) rfl (by kernel_rfl) (by kernel_rfl) (cx.ou 9) (cx.ou 11) (by omega) (by omega) (hS.ext cx.upd.to_ext) (be (sz:=7) fU (by decide) (by omega))) ?_
 refine sql (.agg #[vi y_.2.1,vi y_.1.lv,vi y_.1.right,.string y_.1.high,.bool y_.1.dead,.slice y_.2.2.1 y_.1.es.length y_.2.2.2,vi ((y_.1.free:Int))]) ci (fun cx=>aY (f:=ynC) (m:=i) (sz:=7) (off:=0) (n:=7) rfl (by kernel_rfl) (by kernel_rfl) (cx.ou 14) rfl fU (hS.ext cx.upd.to_ext) hy_ (fun k hk=>match k,hk with|0,_=>rfl|1,_=>rfl|2,_=>rfl|3,_=>rfl|4,_=>rfl|5,_=>rfl|6,_=>rfl|k+7,hk=>absurd hk (by omega))) ?_
 refine bW #[vi 0,vi 0,vi 0,.string ByteArray.empty,.bool false,.slice none 0 0,vi 0] ci fun fj nD cb=>?_
 refine sqp [.m 6 13] ?_
 refine aF (n:=7) 0 #[vi y_.2.1,vi y_.1.lv,vi y_.1.right,.string y_.1.high,.bool y_.1.dead,.slice y_.2.2.1 y_.1.es.length y_.2.2.2,vi ((y_.1.free:Int))] cb fun iY bn=>?_
 refine aa (wp_seq (sqr (sqp [.m 16 6,.m 17 0,.k 18 (vi ((xs.length:Int))),sI 19 ((xs.length:Int)-1) (by omega),.k 20 (.bool ((i:Int)==((xs.length:Int)-1))),.m 8 20] ?_)))
 refine aa (wp_seq (wp_block (wp_seq (wp_seq (sqr (sqp [.k 22 (.pointer (some ⟨fj,4,none⟩))] ?_))))))
 refine al 0 bn ?_
 refine sqp [.m 21 23] ?_
 refine aa (wbs (fun fK=>?_) fun fK=>?_)
 refine wp_skip (aa (wct fK (wp_seq (sqr (sqp [.k 4 (.bool false)] ?_)))))
 refine aa (wp_ret (aB (ai (aB (ai (ai (aB (ai ?_))))))))
 refine bpr (.bool false) (ak Try.results73 rpt) ?_
 exact Ret.bool (by rw[rgF,dO (i:=i) (by rw[List.length_map];omega) (by rw[gp hgd hlo];simp only[rgA,rgB,rgC,neB,bne,cg,pgN,fK,Bool.or_false,Bool.false_or,Bool.not_true,Bool.not_false,Bool.or_true,Bool.true_or,Bool.and_true,Bool.true_and,Bool.and_false,Bool.false_and]),Bool.false_and]) bn.ext
 refine wp_seq (sqr (sqp [.k 24 (.pointer (some ⟨fj,5,none⟩))] ?_))
 refine al 0 bn ?_
 refine sqp [.k 26 (vi ((y_.1.es.length:Int))),.k 27 (.bool (decide (8<(y_.1.es.length:Int)))),.m 21 27] ?_
 refine aa (wds (fun eF rE=>?_) fun eF rE=>?_)
 refine wp_skip (aa (wct eF (wp_seq (sqr (sqp [.k 4 (.bool false)] ?_)))))
 refine aa (wp_ret (aB (ai (aB (ai (ai (aB (ai ?_))))))))
 refine bpr (.bool false) (ak Try.results73 rpt) ?_
 exact Ret.bool (by rw[rgF,dO (i:=i) (by rw[List.length_map];omega) (by rw[gp hgd hlo];simp only[rgA,rgB,rgC,neB,bne,cg,pgN,fK,eF,Bool.or_false,Bool.false_or,Bool.not_true,Bool.not_false,Bool.or_true,Bool.true_or,Bool.and_true,Bool.true_and,Bool.and_false,Bool.false_and]),Bool.false_and]) bn.ext
 refine wp_seq (sqr (sqp [.m 28 8,.k 29 (.pointer (some ⟨fj,3,none⟩))] ?_))
 refine al 0 bn ?_
 refine sqp [.k 31 (.bool (y_.1.high.toList==((⟨#[]⟩:ByteArray)).toList))] ?_
 refine sqv (.bool (!(((i:Int)==((xs.length:Int)-1))==(y_.1.high.toList==((⟨#[]⟩:ByteArray)).toList)))) bn (by
   exact sv0 rfl rfl rfl rfl rfl (fun _ _ _ h=>h) fun a b W X cx=>by
    have Ee:a (.tmp 28)= .bool ((i:Int)==((xs.length:Int)-1)):=(cx.ou 28)
    have Ef:a (.tmp 31)= .bool (y_.1.high.toList==((⟨#[]⟩:ByteArray)).toList):=(cx.ou 31)
    simp[go_sem,Ee,Ef]) fun I8 ia=>?_
 refine sqp [.m 21 32] ?_
 refine aa ?_
 rcases Bool.eq_false_or_eq_true (((i:Int)==((xs.length:Int)-1))==(y_.1.high.toList==((⟨#[]⟩:ByteArray)).toList)) with ef|ef
 refine wp_cond_false (show Act.eval _ _= .bool false from(congrArg Value.bool (by rw[ef];rfl))) (wp_seq (sqr (sqp [.m 33 8,.k 34 (.pointer (some ⟨fj,2,none⟩))] ?_)))
 refine al 0 ia ?_
 refine sqp [.k 36 (.bool (decide (y_.1.right<0)))] ?_
 refine sqv (.bool (!(((i:Int)==((xs.length:Int)-1))==(decide (y_.1.right<0))))) ia (by
   exact sv0 rfl rfl rfl rfl rfl (fun _ _ _ h=>h) fun a b W X cx=>by
    have Nn:a (.tmp 33)= .bool ((i:Int)==((xs.length:Int)-1)):=(cx.ou 33)
    have No:a (.tmp 36)= .bool (decide (y_.1.right<0)):=(cx.ou 36)
    simp[go_sem,Nn,No]) fun Oh jB=>?_
 refine sqp [.m 21 37] ?_
 refine aa ?_
 rcases Bool.eq_false_or_eq_true (((i:Int)==((xs.length:Int)-1))==(decide (y_.1.right<0))) with iV|iV
 have LI:=beq_iff_eq.1 iV
 refine wp_cond_false (show Act.eval _ _= .bool false from(congrArg Value.bool (by rw[iV];rfl))) (sqr ?_)
 refine d9 0 7 jB ?_
 refine sqp [.m 39 5] ?_
 refine sqk (.bool (srF y_.1.high lo y_.1.es)) jB (fun cx=>⟨_,Ah _ _ _ _ _ _ _ _ _ y_.1.es lo _ (hRy.ext cx.upd.to_ext) rfl (by omega) hNz (by omega) (by omega),(aK (cx.ou 38) (cx.ou 39))⟩) fun Mg lH=>?_
 refine sqp [.k 41 (.bool (!(srF y_.1.high lo y_.1.es))),.m 21 41] ?_
 refine aa ?_
 rcases Bool.eq_false_or_eq_true (srF y_.1.high lo y_.1.es) with j0|j0
 ·refine wp_cond_false (show Act.eval _ _= .bool false from(congrArg Value.bool (by rw[j0];rfl))) (wp_seq ?_)
  rcases hlv_:decide (0<y_.1.lv) with _|_
  rotate_left
  rcases hlq_:ldF (ys.map pgN) y_.1.es with _|_
  refine bC [0,1,3,7,15,15,63,127,255,511,1023,2047,4095,8191,16383,32767,65535,4095,135167,397311,921599,2097151,4194303,8388607,16777215,33554431] [[],[0],[],[],[0]] [.k 43 (.pointer (some ⟨fj,1,none⟩)),.c 44 (vi y_.1.lv),.e 45 (.bool (decide (0<y_.1.lv))) (.bool true) (congrArg Value.bool hlv_),.k 46 (.bool true),.c 47 (.agg #[vi y_.2.1,vi y_.1.lv,vi y_.1.right,.string y_.1.high,.bool y_.1.dead,.slice y_.2.2.1 y_.1.es.length y_.2.2.2,vi ((y_.1.free:Int))]),.k 48 (.slice BA ys.length bc),.c 49 (.bool false),.k 50 (.bool true),.k 51 (.bool true),.u 52,.u 53,.u 54,.u 55,.u 56,.u 57,.u 58,.u 59,.u 60,.u 61,.u 62,.u 63,.u 64,.u 65,.k 66 (.bool true),.k 67 (.bool true),.k 42 (.bool true)] [0] [1,4,6] [(42,25,1,43),(0,0,25,25)] lH ?_ fun EU ke=>?_
  refine⟨?_,?_,?_,trivial⟩
  exact xs4 rfl id fun cx=>ae rfl (by kernel_rfl) (cx.an 0) ((cx.bi 0 rfl).cell 1)
  exact xs5 rfl id (fun cx=>(cx.an 3)) fun cx=>aO (n:=7) rfl (by kernel_rfl) (by kernel_rfl) (cx.ou 7) (cx.bi 0 rfl) (nle rfl) rfl
  exact j6 rfl rfl rfl rfl rfl rfl (fun _ _ _ h=>h.trans (congrArg Value.bool hlq_)) (fun _ _ _ _ cx=>(cx.an 3)) fun a b W X cx=>⟨_,_,av (args:=#[.agg #[vi y_.2.1,vi y_.1.lv,vi y_.1.right,.string y_.1.high,.bool y_.1.dead,.slice y_.2.2.1 y_.1.es.length y_.2.2.2,vi ((y_.1.free:Int))],.slice BA ys.length bc]) rfl cx.sees rfl (by kernel_rfl) (aK (cx.an 4) (cx.an 5)),vv _ _ _ _ _ _ _ _ _ y_.1.es BA bc ys _ (hRy.ext cx.upd.to_ext) rfl (by omega) (hB.ext cx.upd.to_ext) (by omega)⟩
  refine aa (wct rfl (wp_seq (sqr (sqp [.k 4 (.bool false)] ?_))))
  refine aa (wp_ret (aB (ai (aB (ai (ai (aB (ai ?_))))))))
  refine bpr (.bool false) (ak Try.results73 rpt) ?_
  exact Ret.bool (by rw[rgF,dO (i:=i) (by rw[List.length_map];omega) (by rw[gp hgd hlo];simp only[rgA,rgB,rgC,neB,bne,cg,pgN,fK,eF,ef,iV,j0,hlv_,hlq_,Bool.or_false,Bool.false_or,Bool.not_true,Bool.not_false,Bool.or_true,Bool.true_or,Bool.and_true,Bool.true_and,Bool.and_false,Bool.false_and]),Bool.false_and]) ke.ext
  ·have hlp_:=Hg hlq_
   rw[List.length_map] at hlp_
   have hlp1_:=hlp_.1
   have hlp2_:=hlp_.2
   refine bC [0,1,3,7,15,15,63,127,255,511,1023,2047,4095,8191,16383,32767,65535,4095,135167,397311,921599,2097151,4194303,8388607,16777215,33554431] [[],[0],[],[],[0],[],[],[],[],[],[],[],[],[0]] [.k 43 (.pointer (some ⟨fj,1,none⟩)),.c 44 (vi y_.1.lv),.e 45 (.bool (decide (0<y_.1.lv))) (.bool true) (congrArg Value.bool hlv_),.k 46 (.bool true),.c 47 (.agg #[vi y_.2.1,vi y_.1.lv,vi y_.1.right,.string y_.1.high,.bool y_.1.dead,.slice y_.2.2.1 y_.1.es.length y_.2.2.2,vi ((y_.1.free:Int))]),.k 48 (.slice BA ys.length bc),.c 49 (.bool true),.k 50 (.bool false),.k 51 (.bool false),.k 52 (vi ((i:Int))),.k 53 (.bool ((i:Int)==0)),.k 54 (.bool ((i:Int)==0)),.z 55 ((i:Int)==0) (.pointer (some ⟨fj,5,none⟩)),.y 56 ((i:Int)==0) (.slice y_.2.2.1 y_.1.es.length y_.2.2.2),.y 57 ((i:Int)==0) (.pointer (some ((ad y_.2.2.1).add (0*3)))),.y 58 ((i:Int)==0) (.pointer (some ((ad y_.2.2.1).add (0*3+2)))),.y 59 ((i:Int)==0) (vi ((y_.1.es.getD 0 en0).2.2)),.z 60 ((i:Int)==0) (.slice BA ys.length bc),.y 61 ((i:Int)==0) (.pointer (some ((ad BA).add (0*7)))),.y 62 ((i:Int)==0) (.pointer (some ((ad BA).add (0*7+0)))),.y 63 ((i:Int)==0) (vi ((ys.getD 0 yn0).2.1)),.z 64 ((i:Int)==0) (.bool (((y_.1.es.getD 0 en0).2.2) != ((ys.getD 0 yn0).2.1))),tA 65 ((i:Int)==0) (((y_.1.es.getD 0 en0).2.2) != ((ys.getD 0 yn0).2.1)),.k 66 (.bool (((i:Int)==0)&&(((y_.1.es.getD 0 en0).2.2) != ((ys.getD 0 yn0).2.1)))),.k 67 (.bool (((i:Int)==0)&&(((y_.1.es.getD 0 en0).2.2) != ((ys.getD 0 yn0).2.1)))),.k 42 (.bool (((i:Int)==0)&&(((y_.1.es.getD 0 en0).2.2) != ((ys.getD 0 yn0).2.1))))] [0] [1,4,6,13,14,15,16,18,19,20] [(42,25,1,43),(0,0,25,25)] lH ?_ fun EY eV=>?_
   refine⟨?_,?_,?_,?_,?_,?_,?_,?_,?_,?_,trivial⟩
   exact xs4 rfl id fun cx=>ae rfl (by kernel_rfl) (cx.an 0) ((cx.bi 0 rfl).cell 1)
   exact xs5 rfl id (fun cx=>(cx.an 3)) fun cx=>aO (n:=7) rfl (by kernel_rfl) (by kernel_rfl) (cx.ou 7) (cx.bi 0 rfl) (nle rfl) rfl
   exact j6 rfl rfl rfl rfl rfl rfl (fun _ _ _ h=>h.trans (congrArg Value.bool hlq_)) (fun _ _ _ _ cx=>(cx.an 3)) fun a b W X cx=>⟨_,_,av (args:=#[.agg #[vi y_.2.1,vi y_.1.lv,vi y_.1.right,.string y_.1.high,.bool y_.1.dead,.slice y_.2.2.1 y_.1.es.length y_.2.2.2,vi ((y_.1.free:Int))],.slice BA ys.length bc]) rfl cx.sees rfl (by kernel_rfl) (aK (cx.an 4) (cx.an 5)),vv _ _ _ _ _ _ _ _ _ y_.1.es BA bc ys _ (hRy.ext cx.upd.to_ext) rfl (by omega) (hB.ext cx.upd.to_ext) (by omega)⟩
   exact m2 rfl (fun _ _ _ h=>h) (fun cx=>(cx.an 11)) fun cx hq=>ae rfl (by kernel_rfl) (mbv (cx.an 12) hq) ((cx.bi 0 rfl).cell 5)
   exact m2 rfl (fun _ _ _ h=>h) (fun cx=>(cx.an 11)) fun cx hq=>aD (e:=104) (m:=0) (sz:=3) rfl (by kernel_rfl) (by kernel_rfl) (mbv (cx.an 13) hq) (cx.co _) (by have hq_:=hq;simp only[zB] at hq_;omega) (by have hq_:=hq;simp only[zB] at hq_;omega) (hRy.ext cx.upd.to_ext) (be (sz:=3) aH (by decide) (by have hq_:=hq;simp only[zB] at hq_;omega))
   exact m2 rfl (fun _ _ _ h=>h) (fun cx=>(cx.an 11)) fun cx hq=>db rfl (by kernel_rfl) (mbv (cx.an 14) hq)
   exact m2 rfl (fun _ _ _ h=>h) (fun cx=>(cx.an 11)) fun cx hq=>ae rfl (by kernel_rfl) (mbv (cx.an 15) hq) (At.eltc (f:=enC) (k:=2) aH (hRy.ext cx.upd.to_ext) (ck (by have hq_:=hq;simp only[zB] at hq_;omega)) rfl)
   exact m2 rfl (fun _ _ _ h=>h) (fun cx=>(cx.an 11)) fun cx hq=>aD (e:=116) (m:=0) (sz:=7) rfl (by kernel_rfl) (by kernel_rfl) (mbv (cx.an 17) hq) (cx.co _) (by have hq_:=hq;simp only[zB] at hq_;omega) (by have hq_:=hq;simp only[zB] at hq_;omega) (hB.ext cx.upd.to_ext) (be (sz:=7) fU (by decide) (by have hq_:=hq;simp only[zB] at hq_;omega))
   exact m2 rfl (fun _ _ _ h=>h) (fun cx=>(cx.an 11)) fun cx hq=>db rfl (by kernel_rfl) (mbv (cx.an 18) hq)
   exact m2 rfl (fun _ _ _ h=>h) (fun cx=>(cx.an 11)) fun cx hq=>ae rfl (by kernel_rfl) (mbv (cx.an 19) hq) (At.eltc (f:=ynC) (k:=0) fU (hB.ext cx.upd.to_ext) (jJ (by have hq_:=hq;simp only[zB] at hq_;omega)) rfl)
   refine aa (wbs (fun nb=>?_) fun nb=>?_)
   have uM:=nb
   simp only[zB] at uM
   obtain⟨OP,OQ⟩:=uM
   refine wp_seq (sqr (sqp [.k 4 (.bool false)] ?_))
   refine aa (wp_ret (aB (ai (aB (ai (ai (aB (ai ?_))))))))
   refine bpr (.bool false) (ak Try.results73 rpt) ?_
   simp only[bne] at nb
   exact Ret.bool (by rw[rgF,dO (i:=i) (by rw[List.length_map];omega) (by rw[gp hgd hlo];simp only[rgA,rgB,rgC,neB,bne,cg,pgN,fK,eF,ef,iV,j0,hlv_,hlq_,nb,Bool.or_false,Bool.false_or,Bool.not_true,Bool.not_false,Bool.or_true,Bool.true_or,Bool.and_true,Bool.true_and,Bool.and_false,Bool.false_and]),Bool.false_and]) eV.ext
   have uM:=nb
   simp only[zB] at uM
   refine wp_seq (sqr (sqp [.m 69 5,.k 70 (.bool (!(lo.toList==((⟨#[]⟩:ByteArray)).toList))),.m 71 70] ?_))
   refine fo 71 [72,73,74] ?_ rfl (fun hq=>?_) ?_
   rotate_left
   refine sqp [.k 72 (.pointer (some ⟨fj,3,none⟩))] ?_
   refine al 0 eV ?_
   refine sqp [.k 74 (.bool (!(y_.1.high.toList==((⟨#[]⟩:ByteArray)).toList)))] ?_
   exact sqe
   refine dn ?_
   refine sqp [sPa 75 (!(lo.toList==((⟨#[]⟩:ByteArray)).toList)) (!(y_.1.high.toList==((⟨#[]⟩:ByteArray)).toList)),.m 76 75] ?_
   refine nM 76 [77,78,79,80] ?_ eV rfl (fun hq=>?_) fun RK zL=>?_
   rotate_left
   have hq_:=hq
   try simp only[zB] at hq_
   refine sqp [.k 77 (.pointer (some ⟨fj,3,none⟩))] ?_
   refine al 0 eV ?_
   refine sqp [.m 79 5] ?_
   refine sqk (.bool (ag y_.1.high lo)) eV (fun cx=>⟨_,gl y_.1.high lo _ (by omega) (by omega),(aK (cx.ou 78) (cx.ou 79))⟩) fun OS ng=>?_
   exact sqE ng
   refine dn ?_
   refine sqp [sPa 81 ((!(lo.toList==((⟨#[]⟩:ByteArray)).toList))&&(!(y_.1.high.toList==((⟨#[]⟩:ByteArray)).toList))) (ag y_.1.high lo),.m 68 81] ?_
   refine aa (wbs (fun xk=>?_) fun xk=>?_)
   have uN:=xk
   simp only[zB] at uN
   obtain⟨⟨OT,OU⟩,OV⟩:=uN
   refine wp_seq (sqr (sqp [.k 4 (.bool false)] ?_))
   refine aa (wp_ret (aB (ai (aB (ai (ai (aB (ai ?_))))))))
   refine bpr (.bool false) (ak Try.results73 rpt) ?_
   simp only[bne] at nb
   exact Ret.bool (by rw[rgF,dO (i:=i) (by rw[List.length_map];omega) (by rw[gp hgd hlo];simp only[rgA,rgB,rgC,neB,bne,cg,pgN,fK,eF,ef,iV,j0,hlv_,hlq_,nb,xk,Bool.or_false,Bool.false_or,Bool.not_true,Bool.not_false,Bool.or_true,Bool.true_or,Bool.and_true,Bool.true_and,Bool.and_false,Bool.false_and]),Bool.false_and]) zL.ext
   have uN:=xk
   simp only[zB] at uN
   refine wp_skip (aw (aa (sqr (sqp [.k 82 (.pointer (some ⟨fj,3,none⟩))] ?_))))
   refine al 0 zL ?_
   refine sqp [.m 5 83] ?_
   refine aw (aa (sqr (sqp [sI 84 ((i:Int)+1) (by omega),.m 11 84] ?_)))
   refine aa ?_
   simp only[bne] at nb
   refine⟨xs.length-((i+1)),by omega,?_⟩
   exact⟨(i+1),y_.1.high,by omega,by rw[kF,if_neg (by omega),Nat.add_sub_cancel,hgd];rfl,kG hall (by rw[gp hgd hlo];simp only[rgA,rgB,rgC,neB,bne,cg,pgN,fK,eF,ef,iV,j0,hlv_,hlq_,nb,xk,Bool.or_false,Bool.false_or,Bool.not_true,Bool.not_false,Bool.or_true,Bool.true_or,Bool.and_true,Bool.true_and,Bool.and_false,Bool.false_and]),rfl,(by kernel_rfl),zL.pk []⟩
  ·refine bC [0,1,3,7,15,15,63,127,255,511,1023,2047,4095,8191,16383,32767,65535,4095,135167,397311,921599,2097151,4194303,8388607,16777215,33554431] [[],[0]] [.k 43 (.pointer (some ⟨fj,1,none⟩)),.c 44 (vi y_.1.lv),.e 45 (.bool (decide (0<y_.1.lv))) (.bool false) (congrArg Value.bool hlv_),.k 46 (.bool false),.u 47,.u 48,.u 49,.u 50,.u 51,.u 52,.u 53,.u 54,.u 55,.u 56,.u 57,.u 58,.u 59,.u 60,.u 61,.u 62,.u 63,.u 64,.u 65,.u 66,.k 67 (.bool false),.k 42 (.bool false)] [0] [1] [(42,25,1,43),(0,0,25,25)] lH ?_ fun BP dY=>?_
   refine⟨?_,trivial⟩
   exact xs4 rfl id fun cx=>ae rfl (by kernel_rfl) (cx.an 0) ((cx.bi 0 rfl).cell 1)
   refine aa (wcf rfl (wp_seq (sqr (sqp [.m 69 5,.k 70 (.bool (!(lo.toList==((⟨#[]⟩:ByteArray)).toList))),.m 71 70] ?_))))
   refine fo 71 [72,73,74] ?_ rfl (fun hq=>?_) ?_
   rotate_left
   refine sqp [.k 72 (.pointer (some ⟨fj,3,none⟩))] ?_
   refine al 0 dY ?_
   refine sqp [.k 74 (.bool (!(y_.1.high.toList==((⟨#[]⟩:ByteArray)).toList)))] ?_
   exact sqe
   refine dn ?_
   refine sqp [sPa 75 (!(lo.toList==((⟨#[]⟩:ByteArray)).toList)) (!(y_.1.high.toList==((⟨#[]⟩:ByteArray)).toList)),.m 76 75] ?_
   refine nM 76 [77,78,79,80] ?_ dY rfl (fun hq=>?_) fun RL zM=>?_
   rotate_left
   have hq_:=hq
   try simp only[zB] at hq_
   refine sqp [.k 77 (.pointer (some ⟨fj,3,none⟩))] ?_
   refine al 0 dY ?_
   refine sqp [.m 79 5] ?_
   refine sqk (.bool (ag y_.1.high lo)) dY (fun cx=>⟨_,gl y_.1.high lo _ (by omega) (by omega),(aK (cx.ou 78) (cx.ou 79))⟩) fun RM LJ=>?_
   exact sqE LJ
   refine dn ?_
   refine sqp [sPa 81 ((!(lo.toList==((⟨#[]⟩:ByteArray)).toList))&&(!(y_.1.high.toList==((⟨#[]⟩:ByteArray)).toList))) (ag y_.1.high lo),.m 68 81] ?_
   refine aa (wbs (fun nh=>?_) fun nh=>?_)
   have ki:=nh
   simp only[zB] at ki
   obtain⟨⟨JO,JP⟩,OW⟩:=ki
   refine wp_seq (sqr (sqp [.k 4 (.bool false)] ?_))
   refine aa (wp_ret (aB (ai (aB (ai (ai (aB (ai ?_))))))))
   refine bpr (.bool false) (ak Try.results73 rpt) ?_
   exact Ret.bool (by rw[rgF,dO (i:=i) (by rw[List.length_map];omega) (by rw[gp hgd hlo];simp only[rgA,rgB,rgC,neB,bne,cg,pgN,fK,eF,ef,iV,j0,hlv_,nh,Bool.or_false,Bool.false_or,Bool.not_true,Bool.not_false,Bool.or_true,Bool.true_or,Bool.and_true,Bool.true_and,Bool.and_false,Bool.false_and]),Bool.false_and]) zM.ext
   have ki:=nh
   simp only[zB] at ki
   refine wp_skip (aw (aa (sqr (sqp [.k 82 (.pointer (some ⟨fj,3,none⟩))] ?_))))
   refine al 0 zM ?_
   refine sqp [.m 5 83] ?_
   refine aw (aa (sqr (sqp [sI 84 ((i:Int)+1) (by omega),.m 11 84] ?_)))
   refine aa ?_
   refine⟨xs.length-((i+1)),by omega,?_⟩
   exact⟨(i+1),y_.1.high,by omega,by rw[kF,if_neg (by omega),Nat.add_sub_cancel,hgd];rfl,kG hall (by rw[gp hgd hlo];simp only[rgA,rgB,rgC,neB,bne,cg,pgN,fK,eF,ef,iV,j0,hlv_,nh,Bool.or_false,Bool.false_or,Bool.not_true,Bool.not_false,Bool.or_true,Bool.true_or,Bool.and_true,Bool.true_and,Bool.and_false,Bool.false_and]),rfl,(by kernel_rfl),zM.pk []⟩
 refine wp_cond_true (show Act.eval _ _= .bool true from(congrArg Value.bool (by rw[j0];rfl))) (wp_seq (sqr (sqp [.k 4 (.bool false)] ?_)))
 refine aa (wp_ret (aB (ai (aB (ai (ai (aB (ai ?_))))))))
 refine bpr (.bool false) (ak Try.results73 rpt) ?_
 exact Ret.bool (by rw[rgF,dO (i:=i) (by rw[List.length_map];omega) (by rw[gp hgd hlo];simp only[rgA,rgB,rgC,neB,bne,cg,pgN,fK,eF,ef,iV,j0,Bool.or_false,Bool.false_or,Bool.not_true,Bool.not_false,Bool.or_true,Bool.true_or,Bool.and_true,Bool.true_and,Bool.and_false,Bool.false_and]),Bool.false_and]) lH.ext
 have LI:=beq_eq_false_iff_ne.1 iV
 refine wp_cond_true (show Act.eval _ _= .bool true from(congrArg Value.bool (by rw[iV];rfl))) (wp_skip (aa (wp_cond_true (show Act.eval _ _= .bool true from(congrArg Value.bool (by rw[iV];rfl))) (wp_seq (sqr (sqp [.k 4 (.bool false)] ?_))))))
 refine aa (wp_ret (aB (ai (aB (ai (ai (aB (ai ?_))))))))
 refine bpr (.bool false) (ak Try.results73 rpt) ?_
 exact Ret.bool (by rw[rgF,dO (i:=i) (by rw[List.length_map];omega) (by rw[gp hgd hlo];simp only[rgA,rgB,rgC,neB,bne,cg,pgN,fK,eF,ef,iV,Bool.or_false,Bool.false_or,Bool.not_true,Bool.not_false,Bool.or_true,Bool.true_or,Bool.and_true,Bool.true_and,Bool.and_false,Bool.false_and]),Bool.false_and]) jB.ext
 refine wp_cond_true (show Act.eval _ _= .bool true from(congrArg Value.bool (by rw[ef];rfl))) (wp_skip (aa (wp_cond_true (show Act.eval _ _= .bool true from(congrArg Value.bool (by rw[ef];rfl))) (wp_seq (sqr (sqp [.k 4 (.bool false)] ?_))))))
 refine aa (wp_ret (aB (ai (aB (ai (ai (aB (ai ?_))))))))
 refine bpr (.bool false) (ak Try.results73 rpt) ?_
 exact Ret.bool (by rw[rgF,dO (i:=i) (by rw[List.length_map];omega) (by rw[gp hgd hlo];simp only[rgA,rgB,rgC,neB,bne,cg,pgN,fK,eF,ef,Bool.or_false,Bool.false_or,Bool.not_true,Bool.not_false,Bool.or_true,Bool.true_or,Bool.and_true,Bool.true_and,Bool.and_false,Bool.false_and]),Bool.false_and]) ia.ext
 refine wp_exit (am (am (bj (aa (wp_seq (sqr (sqp [.m 85 0,.k 86 (vi ((xs.length:Int))),.k 87 (.bool (decide (0<(xs.length:Int)))),.m 88 87] ?_)))))))
 refine sqw 88 [89,90,91] rfl (fun _=>sqp [.m 89 0,.k 90 (vi ((xs.length:Int))),.k 91 (.bool (decide ((xs.length:Int)<=400)))] sqe) ?_
 refine sqp [sPa 92 (decide (0<(xs.length:Int))) (decide ((xs.length:Int)<=400)),.m 4 92] ?_
 refine aa (wp_ret ?_)
 refine bpr (.bool ((decide (0<(xs.length:Int)))&&(decide ((xs.length:Int)<=400)))) (ak Try.results73 rpt) ?_
 exact Ret.bool (by rw[rgF,List.length_map,show xs.length=i by omega,hall,Bool.true_and]) ci.ext
end
section
open Go.RowKit
def dR(ps:List PgS)(root:Int):Nat->List (Int×NoD)
 |0=>[]
 |k+1=>bH ps root (k:Int)
def ckX(ps:List PgS)(root h:Int)(k:Nat):Bool:=(((k:Int)==h)&&(((bH ps root (k:Int)).length:Int) != 1))||(decide (0<(k:Int))&&(((dR ps root k).length:Int)==0))||!(rgF (bH ps root (k:Int)) (dR ps root k))
def du(ps:List PgS)(root:Int):Int:=match ao ps root with
 |none=>22
 |some n=>if ((List.range (n.lv+1).toNat).all fun k=>!ckX ps root n.lv k) then 0 else 11
theorem Ap{ps:List PgS}{root lv:Int}:∀y∈bH ps root lv,ao ps y.1=some y.2/\y.2.lv=lv:=fun y hy=>by
 unfold bH at hy
 split at hy
 cases hy
 exact BE y hy
theorem tC(ps:List PgS)(root:Int)(k:Nat):(dR ps root k).length<=1000:=by
 cases k with
 |zero=>exact Nat.zero_le _
 |succ k=>exact o6 _ _ _
theorem BJ{SA BA:Option Addr}{sc bc:Nat}{L Lb:List (Int×NoD)}{fp fq:List Nat}{w:World}(h:(eCL SA L fp).holds w)(hb:(eCL BA Lb fq).holds w)(hN:∀y∈L,NdOk y.2)(hl:L.length<=1000)(hlb:Lb.length<=1000):
  Calls Try.prog 73 #[.slice SA L.length sc,.slice BA Lb.length bc] w (Ret (.bool (rgF L Lb)) w):=by
 obtain⟨xs,rfl,_,h1,h2⟩:=h
 obtain⟨ys,rfl,_,h3,_⟩:=hb
 rw[List.length_map] at hl hlb |-
 rw[List.length_map]
 exact C4 SA BA sc bc xs ys w h1 (fun y hy=>(h2 y hy).2) h3 (fun y hy=>hN (pgN y) (List.mem_map.2 ⟨y,hy,rfl⟩)) hl hlb
theorem St.cl0{w W:World}{bor:List Nat}{L:List Ent}(h:St w bor L W):St w bor (L++[eCL none [] []]) W:=by
 refine⟨h.upd,fun e he=>?_,List.pairwise_append.2 ⟨h.apart,List.pairwise_singleton _ _,fun a ha b hb k hk hkb=>?_⟩⟩
 rcases List.mem_append.1 he with he|he
 exact h.ok e he
 rw[List.mem_singleton] at he;subst he
 exact⟨⟨[],rfl,(fun ad e=>nomatch e),At.nil _ _,fun y hy=>absurd hy (by simp)⟩,yJ _ _ _,fun k hk=>by simp[eCL] at hk⟩
 rw[List.mem_singleton] at hb;subst hb;simp[eCL] at hkb
theorem K0{ps:List PgS}{root:Int}{n:NoD}(h:ao ps root=some n){k:Nat}(hk:(k:Int)=n.lv+1)(ha:(List.range k).all (fun k=>!ckX ps root n.lv k)=true):(0:Int)=du ps root:=by
 rw[du,h]
 dsimp only
 rw[show (n.lv+1).toNat=k by omega,if_pos ha]
theorem HX{ps:List PgS}{root:Int}{n:NoD}(h:ao ps root=some n){k:Nat}(hk:(k:Int)<n.lv+1)(ha:ckX ps root n.lv k=true):(11:Int)=du ps root:=by
 rw[du,h]
 dsimp only
 rw[dO (i:=k) (by omega) (by rw[ha];rfl)];rfl
theorem Fo{ps:List PgS}{root:Int}(h:ao ps root=none):(22:Int)=du ps root:=by rw[du,h]
theorem pQ(tt:TypeId)(tv:Value)(root:Int)(ps:List PgS)(w:World)(hS:PgsOk w tt tv ps)(hok:OkS ps)(hoc:OkC ps):
  Calls Try.prog 37 #[.iface tt (tv),.int .i64 root] w (Ret (.int .i64 (du ps root)) w):=by
 go_enter Try.func37,Try.ntmps37
 have aq:=St.start w
 refine wp_seq (sqr (sqp [.k 4 (vi 0)] ?_))
 refine aa (wp_seq ?_)
 rcases hnd:ao ps root with _|nd
 refine aj [0,0,3,7,15,15,0,95,255] [[],[],[],[],[],[],[],[0]] [[],[],[],[],[],[],[0],[1]] [[],[],[],[],[],[],[],[0]] [.k 11 (.iface tt (tv)),.k 12 (vi root),.a 13,.a 10,.a 14,.c 15 (.bool false),.a 5,.n,.k 6 (.bool false)] (fun ix d b X=>match ix with|0|1=>True|2=>d 13= .tuple #[.agg #[vi (iv (tg (tg (b 13) 0) 0)),vi 0,vi 0,.string ((⟨#[]⟩:ByteArray)),.bool false,.slice none 0 0,vi 0],.bool false]|3=>d 10= .tuple #[.agg #[vi (iv (tg (tg (b 13) 0) 0)),vi 0,vi 0,.string ((⟨#[]⟩:ByteArray)),.bool false,.slice none 0 0,vi 0],.bool false]|4=>d 14= .agg #[vi (iv (tg (tg (b 13) 0) 0)),vi 0,vi 0,.string ((⟨#[]⟩:ByteArray)),.bool false,.slice none 0 0,vi 0]|5=>True|6=>d 5=vp (pb (b 5))/\X 0=eB (pb (b 5)) 116 #[vi 0,vi 0,vi 0,.string ByteArray.empty,.bool false,.slice none 0 0,vi 0]|7=>X 1=eB (pb (b 5)) 116 #[vi (iv (tg (tg (b 13) 0) 0)),vi 0,vi 0,.string ((⟨#[]⟩:ByteArray)),.bool false,.slice none 0 0,vi 0]|_=>True) [1] [2,3,4,5,6,7] [(5,6,3,7),(3,3,1,4),(0,0,3,3),(0,4,2,2)] aq ?_ ?_ ?_
 exact fun ix _ _ _ _ _ _ hs hb hx h=>match ix,h with
 |2,h=>by dsimp only;rw[<-hs 13 rfl,<-hb 13 rfl];exact h
 |3,h=>by dsimp only;rw[<-hs 10 rfl,<-hb 13 rfl];exact h
 |4,h=>by dsimp only;rw[<-hs 14 rfl,<-hb 13 rfl];exact h
 |6,h=>by dsimp only;rw[<-hs 5 rfl,<-hb 5 rfl,<-hx 0 rfl];exact h
 |7,h=>by dsimp only;rw[<-hb 5 rfl,<-hb 13 rfl,<-hx 1 rfl];exact h
 |0,_|1,_|5,_|_+8,_=>trivial
 refine⟨?_,?_,?_,?_,?_,?_,trivial⟩
 refine svA fun f b W X cx=>?_
 refine ax.call (av (args:=#[.iface tt (tv),vi root]) rfl cx.sees rfl (by kernel_rfl) (aK (cx.an 0) (cx.an 1))) ?_
 refine(rh hnd (gF _ _ ps root _ (hS.ext cx.upd.to_ext) hok hoc)).mono ?_
 rintro e W1 ⟨p4,rfl,hx⟩
 refine⟨_,rfl,cR [] rfl rfl hx (by simp) List.Pairwise.nil (fun d g X' hs hb hv hN=>?_)⟩
 have aZ:=(hv 13 rfl).1;have aJ:=(hv 13 rfl).2
 exact aZ.trans (by rw[aJ];rfl)
 exact sv rfl rfl rfl rfl rfl _ (fun _ _ _ h=>h) (fun b g h=>by rw[h 13 (by decide)]) fun f b W X cx=>b7 rfl (dTn (cx.an 2))
 exact sv rfl rfl rfl rfl rfl _ (fun _ _ _ h=>h) (fun b g h=>by rw[h 13 (by decide)]) fun f b W X cx=>aG rfl (dTn (cx.an 3)) rfl
 exact xs4 rfl id fun cx=>aG rfl (dTn (cx.an 3)) rfl
 refine svA fun f b W X cx=>?_
 exact bx (cs:=#[vi 0,vi 0,vi 0,.string ByteArray.empty,.bool false,.slice none 0 0,vi 0]) rfl (by kernel_rfl) rfl rfl (fun _ _ _ _ _=> .intro)
 refine svA fun f b W X cx=>?_
 exact ar (n:=7) rfl (dTn (cx.an 6)).1 (dTn (cx.an 4)) (by kernel_rfl) (by kernel_rfl) (by kernel_rfl) cx (dTn (cx.an 6)).2 rfl (nle rfl) (by kernel_rfl) rfl rfl rfl (fun d g X' hs hb hx=>by rw[hb 5,hb 13];exact hx)
 intro d b X W2 hD aV fr af
 simp only[exq 1 ((dTn (hD 7 lq)))] at aV
 simp only[ed 13 ((dTn (hD 2 lq))),ed 10 ((dTn (hD 3 lq))),ed 14 ((dTn (hD 4 lq))),ed 5 ((dTn (hD 6 lq)).1)] at af
 generalize iv (tg (tg (b 13) 0) 0)=pg13_2,pb (b 5)=ir at aV af
 clear hD;subst af;clear d b X
 refine aa (wp_seq (wp_seq (sqr (sqp [.k 16 (.bool false),.k 17 (.bool true)] ?_))))
 refine aa (wct rfl (wp_seq (sqr (sqp [.k 4 (vi 22)] ?_))))
 refine aa (wp_ret (ai ?_))
 refine bpr (vi 22) (ak Try.results37 rpt) ?_
 exact Ret.of (by rw[<-Fo hnd]) aV.ext
 have hN0:=e8 hok hnd
 have hN4:=hN0.lv
 refine sqr (sqp [.m 11 0,.m 12 1] ?_)
 refine gQ (fun EA13_8 ec13_8=> .tuple #[.agg #[vi root,vi nd.lv,vi nd.right,.string nd.high,.bool nd.dead,.slice EA13_8 nd.es.length ec13_8,vi ((nd.free:Int))],.bool true]) (fun EA13_8 ec13_8=>eO 104 3 (.slice EA13_8 nd.es.length ec13_8) nd.es.length (nd.es.flatMap enC)) aq (fun cx=>⟨_,(nF hnd (gF _ _ ps root _ (hS.ext cx.upd.to_ext) hok hoc)).mono (by rintro e W1 ⟨EA4,ec4,rfl,aR⟩;exact⟨_,_,rfl,aR⟩),(aK (cx.ou 11) (cx.ou 12))⟩) fun EA13_8 ec13_8 W8 bt=>?_
 refine sqp [.m 10 13,.k 14 (.agg #[vi root,vi nd.lv,vi nd.right,.string nd.high,.bool nd.dead,.slice EA13_8 nd.es.length ec13_8,vi ((nd.free:Int))]),.k 15 (.bool true)] ?_
 refine bW #[vi 0,vi 0,vi 0,.string ByteArray.empty,.bool false,.slice none 0 0,vi 0] bt fun ez nD cb=>?_
 refine aF (n:=7) 1 #[vi root,vi nd.lv,vi nd.right,.string nd.high,.bool nd.dead,.slice EA13_8 nd.es.length ec13_8,vi ((nd.free:Int))] cb fun kO bE=>?_
 refine sqp [.k 6 (.bool true)] ?_
 refine aa (wp_seq (wp_seq (sqr (sqp [.k 16 (.bool true),.k 17 (.bool false)] ?_))))
 refine aa (wcf rfl (wp_skip (aa (wp_seq (sqr (sqp [.k 7 (.slice none 0 0)] ?_))))))
 refine aa (wp_seq (wp_seq (sqr (sqp [.k 18 (.pointer (some ⟨ez,1,none⟩))] ?_))))
 refine al 1 bE ?_
 refine sqp [sI 20 (nd.lv+1) (by omega),.k 21 (vi 0)] ?_
 refine aa (wp_block ?_)
 have hcl_:=bE.cl0
 simp only[List.cons_append,List.nil_append] at hcl_
 refine aX (fun t_ mz az W=>∃k:Nat,∃BA:Option Addr,∃bc:Nat,∃fb:List Nat,(k:Int)<=nd.lv+1/\(List.range k).all (fun k=>!ckX ps root nd.lv k)=true/\mz=(nd.lv+1).toNat-k/\az=⟨(ovr (jv az) [(4,4,1,[]),(2,7,0,[.slice BA ((dR ps root k).length) bc]),(0,8,2,[]),(11,21,0,[vi ((k:Int))]),(0,22,33,[])] t_).toArray,[]⟩/\St w [] [eB ez 116 #[vi root,vi nd.lv,vi nd.right,.string nd.high,.bool nd.dead,.slice EA13_8 nd.es.length ec13_8,vi ((nd.free:Int))],eCL BA (dR ps root k) fb] W) ((nd.lv+1).toNat-0) ?_ ?_
 exact⟨0,none,0,[],by omega,rfl,rfl,(by kernel_rfl),hcl_.pk [1,2]⟩
 rintro RN a22 E5 ⟨k,BA,bc,fb,hk,hall,rfl,hj_,gc⟩
 refine ovz hj_ fun QE=>?_
 have hbl_:=tC ps root k
 have hrl_:=o6 ps root (k:Int)
 refine wp_seq (sqr (sqp [.k 22 (.bool (decide ((k:Int)<nd.lv+1)))] ?_))
 refine aa (wp_seq (wds (fun fK rN=>?_) fun fK rN=>?_))
 ·refine wp_skip (aa (wp_seq (wp_block (wp_seq (sqr (sqp [.m 23 21,.m 8 23] ?_))))))
  refine aa (wp_seq (aj [0,0,0,7,15,31] [[],[],[],[],[2,3,4]] [[],[],[],[2,3,4],[5]] [] [.k 24 (.iface tt (tv)),.k 25 (vi root),.k 26 (vi ((k:Int))),.a 27,.a 28,.a 9] (fun ix d b X=>match ix with|0|1|2=>True|3=>d 27= .func (.func 99) #[] #[vp (pcp 0 (b 27)),vp (pcp 1 (b 27)),vp (pcp 2 (b 27))]/\X 2=eB (pcp 0 (b 27)) 113 #[.iface tt (tv)]/\X 3=eB (pcp 1 (b 27)) 3 #[vi root]/\X 4=eB (pcp 2 (b 27)) 3 #[vi ((k:Int))]|4=>d 28= .slice (sA (b 28)) (((bH ps root (k:Int))).length) (sC (b 28))/\X 5=eCL (sA (b 28)) (bH ps root (k:Int)) ((X 5).fp)|5=>d 9= .slice (sA (b 28)) (((bH ps root (k:Int))).length) (sC (b 28))|_=>True) [0,1,2,3,4,5] [3,4,5] [(9,5,1,10),(14,0,5,19)] gc ?_ ?_ ?_))
  exact fun ix _ _ _ _ _ _ hs hb hx h=>match ix,h with
  |3,h=>by dsimp only;rw[<-hs 27 rfl,<-hb 27 rfl,<-hx 2 rfl,<-hx 3 rfl,<-hx 4 rfl];exact h
  |4,h=>by dsimp only;rw[<-hs 28 rfl,<-hb 28 rfl,<-hx 5 rfl];exact h
  |5,h=>by dsimp only;rw[<-hs 9 rfl,<-hb 28 rfl];exact h
  |0,_|1,_|2,_|_+6,_=>trivial
  refine⟨?_,?_,?_,trivial⟩
  refine svA fun f b W X cx=>?_
  refine ax.call (av (args:=#[.iface tt (tv),vi root,vi ((k:Int))]) rfl cx.sees rfl (by kernel_rfl) (eC (cx.an 0) (cx.an 1) (cx.an 2))) ?_
  refine(jG tt tv root (k:Int) _).mono ?_
  rintro e W1 ⟨B4,B5,B6,rfl,aR⟩
  refine⟨_,rfl,dy [eB B4 113 #[.iface tt (tv)],eB B5 3 #[vi root],eB B6 3 #[vi ((k:Int))]] rfl rfl aR (fun d g X' hs hb hv hN=>?_)⟩
  have aZ:=(hv 27 rfl).1;have aJ:=(hv 27 rfl).2
  exact⟨aZ.trans (by rw[aJ];rfl),(by rw[aJ];exact(List.cons.inj hN).1),(by rw[aJ];exact(List.cons.inj (List.cons.inj hN).2).1),(by rw[aJ];exact(List.cons.inj (List.cons.inj (List.cons.inj hN).2).2).1)⟩
  refine svA fun f b W X cx=>?_
  refine ax.call (av (args:=#[.func (.func 99) #[] #[vp (pcp 0 (b 27)),vp (pcp 1 (b 27)),vp (pcp 2 (b 27))]]) rfl cx.sees rfl (by kernel_rfl) (br (dTn (cx.an 3)).1)) ?_
  refine(AC _ _ _ (bH ps root (k:Int)) _ _ _ (jL _ _ _ _ _ _ _ hok hoc) (fun A hA=>⟨Blk.ext (cx.blk (dTn (cx.an 3)).2.1 rfl) hA,Blk.ext (cx.blk (dTn (cx.an 3)).2.2.1 rfl) hA,Blk.ext (cx.blk (dTn (cx.an 3)).2.2.2 rfl) hA,(hS.ext cx.upd.to_ext).ext hA⟩)).mono ?_
  rintro e W1 ⟨A4,c4,fp4,rfl,aR⟩
  refine⟨_,rfl,dy [eCL A4 ((bH ps root (k:Int))) fp4] rfl rfl aR (fun d g X' hs hb hv hN=>?_)⟩
  have aZ:=(hv 28 rfl).1;have aJ:=(hv 28 rfl).2
  exact⟨aZ.trans (by rw[aJ];rfl),(by rw[aJ];exact ws ((List.cons.inj hN).1))⟩
  exact sv rfl rfl rfl rfl rfl _ (fun _ _ _ h=>h) (fun b g h=>by rw[h 28 (by decide)]) fun f b W X cx=>aN rfl (dTn (cx.an 4)).1
  intro d b X B0 hD cY fr af
  obtain⟨B27a_27,ni⟩:∃z,pcp 0 (b 27)=z:=⟨_,rfl⟩
  obtain⟨B27b_27,nj⟩:∃z,pcp 1 (b 27)=z:=⟨_,rfl⟩
  obtain⟨B27c_27,nk⟩:∃z,pcp 2 (b 27)=z:=⟨_,rfl⟩
  obtain⟨JQ,oG⟩:∃z,sA (b 28)=z:=⟨_,rfl⟩
  obtain⟨JR,oH⟩:∃z,sC (b 28)=z:=⟨_,rfl⟩
  have JS:X 5= _:=(dTn (hD 4 lq)).2
  obtain⟨LK,xl⟩:∃z,(X 5).fp=z:=⟨_,rfl⟩
  rw[xl] at JS
  clear xl
  simp only[exq 2 ((dTn (hD 3 lq)).2.1),exq 3 ((dTn (hD 3 lq)).2.2.1),exq 4 ((dTn (hD 3 lq)).2.2.2),JS,ni,nj,nk,oG,oH] at cY
  simp only[ed 27 ((dTn (hD 3 lq)).1),ed 28 ((dTn (hD 4 lq)).1),ed 9 ((dTn (hD 5 lq))),ni,nj,nk,oG,oH] at af
  clear hD JS ni nj nk oG oH;subst af;clear d b X
  refine aa (wp_seq (wp_seq (sqr (sqp [.m 29 8,.k 30 (.pointer (some ⟨ez,1,none⟩))] ?_))))
  refine al 0 cY ?_
  refine sqp [.k 32 (.bool ((k:Int)==nd.lv)),.m 33 32] ?_
  refine sqw 33 [34,35,36] rfl (fun _=>sqp [.m 34 9,.k 35 (vi ((((bH ps root (k:Int))).length:Int))),.k 36 (.bool ((((bH ps root (k:Int))).length:Int) != 1))] sqe) ?_
  refine sqp [sPa 37 ((k:Int)==nd.lv) ((((bH ps root (k:Int))).length:Int) != 1),.m 38 37] ?_
  refine fo 38 [39,40,41,42,43,44,45] ?_ rfl (fun hq=>?_) ?_
  rotate_left
  refine sqp [.m 39 8,.k 40 (.bool (decide (0<(k:Int)))),.m 41 40] ?_
  refine sqw 41 [42,43,44] rfl (fun _=>sqp [.m 42 7,.k 43 (vi (((dR ps root k).length:Int))),.k 44 (.bool (((dR ps root k).length:Int)==0))] sqe) ?_
  refine sqp [sPa 45 (decide (0<(k:Int))) (((dR ps root k).length:Int)==0)] ?_
  exact sqe
  refine dn ?_
  refine sqp [sPo 46 (((k:Int)==nd.lv)&&((((bH ps root (k:Int))).length:Int) != 1)) ((decide (0<(k:Int)))&&(((dR ps root k).length:Int)==0)),.m 47 46] ?_
  refine nM 47 [48,49,50,51] ?_ cY rfl (fun hq=>?_) fun Mh pv=>?_
  rotate_left
  refine sqp [.m 48 9,.m 49 7] ?_
  refine sqk (.bool (rgF (bH ps root (k:Int)) (dR ps root k))) cY (fun cx=>⟨_,BJ (CtxV.holdF cx (cx.init 5 _ rfl) rfl) (CtxV.holdF cx (cx.init 1 _ rfl) rfl) (fun y hy=>e8 hok (Ap y hy).1) (o6 _ _ _) (tC _ _ _),(aK (cx.ou 48) (cx.ou 49))⟩) fun Mg lH=>?_
  refine sqp [.k 51 (.bool (!(rgF (bH ps root (k:Int)) (dR ps root k))))] ?_
  exact sqE lH
  refine dn ?_
  refine sqp [sPo 52 ((((k:Int)==nd.lv)&&((((bH ps root (k:Int))).length:Int) != 1))||((decide (0<(k:Int)))&&(((dR ps root k).length:Int)==0))) (!(rgF (bH ps root (k:Int)) (dR ps root k)))] ?_
  refine aa (wbs (fun fY=>?_) fun fY=>?_)
  have uO:=fY
  simp only[zB] at uO
  refine wp_seq (sqr (sqp [.k 4 (vi 11)] ?_))
  refine aa (wp_ret (ai (aB (ai (ai (aB (ai ?_)))))))
  refine bpr (vi 11) (ak Try.results37 rpt) ?_
  exact Ret.of (by rw[<-HX hnd (k:=k) (by omega) fY]) pv.ext
  have uO:=fY
  simp only[zB] at uO
  obtain⟨⟨OX,OY⟩,OZ⟩:=uO
  refine wp_skip (aa (sqr (sqp [.m 53 9,.m 7 53] ?_)))
  refine aw (aa (sqr (sqp [sI 54 ((k:Int)+1) (by omega),.m 21 54] ?_)))
  refine aa ?_
  refine⟨(nd.lv+1).toNat-((k+1)),by omega,?_⟩
  exact⟨(k+1),JQ,JR,LK,by omega,kG hall (by rw[show ckX ps root nd.lv k=false from fY];rfl),rfl,(by kernel_rfl),pv.pk [0,5]⟩
 refine wp_exit (am (am (bj (aa (wp_seq (sqr (sqp [.k 4 (vi 0)] ?_)))))))
 refine aa (wp_ret ?_)
 refine bpr (vi 0) (ak Try.results37 rpt) ?_
 exact Ret.of (by rw[<-K0 hnd (k:=k) (by omega) hall]) gc.ext
end
section
open Go.RowKit
structure WkT where
 pos:Int
 st:Int
 fm:ByteArray
 fin:Bool
inductive WkR where
 |off
 |on
 |at (n:NoD)
def wkN(ps:List PgS)(w:WkT):WkT×WkR:=
 if w.fin=true\/1000<=w.st+1 then (⟨w.pos,w.st+1,w.fm,true⟩,.off) else match ao ps w.pos with
 |none=>(⟨w.pos,w.st+1,w.fm,true⟩,.off)
 |some n=>if cL n.dead n.high w.fm=true then (⟨n.right,w.st+1,w.fm,decide (n.right<0)⟩,if n.right<0 then .off else .on)
  else if 0<n.lv then (⟨cl w.fm n.es (-1),w.st+1,w.fm,false⟩,.on) else (⟨w.pos,w.st+1,w.fm,false⟩,.at n)
def wkC(w:WkT):Array Value:=#[.int .i64 w.pos,.int .i64 w.st,.string w.fm,.bool w.fin]
def mj(b:Nat)(pos:Int)(r:WkT×WkR)(w:World)(e:Ending)(w':World):Prop:=match r.2 with
 | .off=>e= .returned (.tuple #[kn0 0,.bool false,.bool false])/\St w [b] [eB b 145 (wkC r.1)] w'
 | .on=>e= .returned (.tuple #[kn0 0,.bool false,.bool true])/\St w [b] [eB b 145 (wkC r.1)] w'
 | .at n=>∃EA ec,e= .returned (.tuple #[knV pos n EA ec,.bool true,.bool true])/\St w [b] [eB b 145 (wkC r.1),eO 104 3 (.slice EA n.es.length ec) n.es.length (n.es.flatMap enC)] w'
section
variable{ps:List PgS}{pos st:Int}{fm:ByteArray}{fin:Bool}{nd:NoD}
theorem kM(h:fin=true\/1000<=st+1):wkN ps ⟨pos,st,fm,fin⟩=(⟨pos,st+1,fm,true⟩,.off):=if_pos h
theorem mh(h:ao ps pos=none):wkN ps ⟨pos,st,fm,fin⟩=(⟨pos,st+1,fm,true⟩,.off):=by
 by_cases h0:fin=true\/1000<=st+1
 exact kM h0
 rw[wkN,if_neg h0];dsimp only;rw[h]
theorem gC(h0:¬(fin=true\/1000<=st+1))(h:ao ps pos=some nd):wkN ps ⟨pos,st,fm,fin⟩=if cL nd.dead nd.high fm=true then (⟨nd.right,st+1,fm,decide (nd.right<0)⟩,if nd.right<0 then .off else .on) else if 0<nd.lv then (⟨cl fm nd.es (-1),st+1,fm,false⟩,.on) else (⟨pos,st+1,fm,false⟩,.at nd):=by
 rw[wkN,if_neg h0];dsimp only;rw[h]
end
theorem iM(b:Nat)(tt:TypeId)(tv:Value)(pos st:Int)(fm:ByteArray)(fin:Bool)(ps:List PgS)(w:World)(hb:Blk w b 145 #[.int .i64 pos,.int .i64 st,.string fm,.bool fin])(hS:∀W,Upd [b] w W->PgsOk W tt tv ps)(hok:OkS ps)(hoc:OkC ps)(aL:0<=st/\st<=100000)(hfm:fm.size<=900000):
  Calls Try.prog 70 #[.pointer (some ⟨b,0,none⟩),.iface tt (tv)] w (mj b pos (wkN ps ⟨pos,st,fm,fin⟩) w):=by
 have st0:=St.lend (E:=eB b 145 #[.int .i64 pos,.int .i64 st,.string fm,.bool fin]) hb (dH _ _ _) (fun k hk=>by simp[eB] at hk;subst hk;exact hb.lt)
 go_enter Try.func70,Try.ntmps70
 have aq:=st0
 refine wp_seq (sqr (bW #[vi 0,vi 0,vi 0,.string ByteArray.empty,.bool false,.slice none 0 0,vi 0] aq fun aW W1 aC=>?_))
 refine sqp [.k 5 (.bool false),.k 6 (.bool false)] ?_
 refine aa (wp_seq (wp_seq (sqr (sqp [.m 8 0] ?_))))
 refine sqv (.bool false) aC (by
   exact sv0 rfl rfl rfl rfl rfl (fun _ _ _ h=>h) fun g d W X cx=>by
    have jR:g (.tmp 8)=vp b:=(cx.ou 8)
    simp[go_sem,cx.sees.const,jR]) fun W5 bO=>?_
 refine aa (wcf rfl (wp_skip (aa (wp_seq (sqr (sqp [.m 11 0,.k 12 (vp b),.k 13 (.pointer (some ⟨b,1,none⟩))] ?_))))))
 refine al 0 bO ?_
 refine sqp [sI 15 (st+1) (by omega),.k 16 (vp b),.k 17 (.pointer (some ⟨b,1,none⟩))] ?_
 refine aF (n:=1) 0 #[vi pos,vi (st+1),.string fm,.bool fin] bO fun kO bE=>?_
 refine aa (wp_seq ?_)
 rcases hnd:ao ps pos with _|nd
 refine aj [0,0,2,6,14,31,63,127,127,255,1023] [[],[],[],[],[0],[],[],[],[],[1]] [[],[],[],[],[],[],[],[],[],[2]] [[],[],[],[],[],[],[],[],[],[1]] [.k 19 (.iface tt (tv)),.k 20 (vp b),.k 21 (vp b),.k 22 (vp b),.c 23 (vi pos),.a 24,.a 18,.a 25,.c 26 (.bool false),.n,.k 7 (.bool false)] (fun ix f d X=>match ix with|0|1|2|3|4=>True|5=>f 24= .tuple #[.agg #[vi (iv (tg (tg (d 24) 0) 0)),vi 0,vi 0,.string ((⟨#[]⟩:ByteArray)),.bool false,.slice none 0 0,vi 0],.bool false]|6=>f 18= .tuple #[.agg #[vi (iv (tg (tg (d 24) 0) 0)),vi 0,vi 0,.string ((⟨#[]⟩:ByteArray)),.bool false,.slice none 0 0,vi 0],.bool false]|7=>f 25= .agg #[vi (iv (tg (tg (d 24) 0) 0)),vi 0,vi 0,.string ((⟨#[]⟩:ByteArray)),.bool false,.slice none 0 0,vi 0]|8=>True|9=>X 2=eB aW 116 #[vi (iv (tg (tg (d 24) 0) 0)),vi 0,vi 0,.string ((⟨#[]⟩:ByteArray)),.bool false,.slice none 0 0,vi 0]|_=>True) [0,2] [4,5,6,7,8,9] [(7,10,1,8),(10,6,1,11),(0,0,6,6),(0,7,2,2)] bE ?_ ?_ ?_
 exact fun ix _ _ _ _ _ _ hs hb hx h=>match ix,h with
 |5,h=>by dsimp only;rw[<-hs 24 rfl,<-hb 24 rfl];exact h
 |6,h=>by dsimp only;rw[<-hs 18 rfl,<-hb 24 rfl];exact h
 |7,h=>by dsimp only;rw[<-hs 25 rfl,<-hb 24 rfl];exact h
 |9,h=>by dsimp only;rw[<-hb 24 rfl,<-hx 2 rfl];exact h
 |0,_|1,_|2,_|3,_|4,_|8,_|_+10,_=>trivial
 refine⟨?_,?_,?_,?_,?_,?_,trivial⟩
 exact xs4 rfl id fun cx=>ae rfl (by kernel_rfl) (cx.an 3) ((cx.bi 0 rfl).cell 0)
 refine svA fun g d W X cx=>?_
 refine ax.call (av (args:=#[.iface tt (tv),vi pos]) rfl cx.sees rfl (by kernel_rfl) (aK (cx.an 0) (cx.an 4))) ?_
 refine(rh hnd (gF _ _ ps pos _ (hS _ cx.upd) hok hoc)).mono ?_
 rintro e W1 ⟨p4,rfl,hx⟩
 refine⟨_,rfl,cR [] rfl rfl hx (by simp) List.Pairwise.nil (fun f i X' hs hb hv hN=>?_)⟩
 have aZ:=(hv 24 rfl).1;have aJ:=(hv 24 rfl).2
 exact aZ.trans (by rw[aJ];rfl)
 exact sv rfl rfl rfl rfl rfl _ (fun _ _ _ h=>h) (fun d i h=>by rw[h 24 (by decide)]) fun g d W X cx=>b7 rfl (dTn (cx.an 5))
 exact sv rfl rfl rfl rfl rfl _ (fun _ _ _ h=>h) (fun d i h=>by rw[h 24 (by decide)]) fun g d W X cx=>aG rfl (dTn (cx.an 6)) rfl
 exact xs4 rfl id fun cx=>aG rfl (dTn (cx.an 6)) rfl
 refine svA fun g d W X cx=>?_
 exact ar (n:=7) rfl (cx.ou 4) (dTn (cx.an 7)) (by kernel_rfl) (by kernel_rfl) (by kernel_rfl) cx (cx.init 1 _ rfl) rfl (nle rfl) (by kernel_rfl) rfl rfl rfl (fun f i X' hs hb hx=>by rw[hb 24];exact hx)
 intro f d X iY hD bn fr af
 simp only[exq 2 ((dTn (hD 9 lq)))] at bn
 simp only[ed 24 ((dTn (hD 5 lq))),ed 18 ((dTn (hD 6 lq))),ed 25 ((dTn (hD 7 lq)))] at af
 generalize iv (tg (tg (d 24) 0) 0)=pg24_14 at bn af
 clear hD;subst af;clear f d X
 refine aa (wp_seq (wp_seq (sqr (sqp [.m 27 0,.k 28 (vp b),.k 29 (.pointer (some ⟨b,3,none⟩))] ?_))))
 refine al 0 bn ?_
 refine sqp [.m 31 30] ?_
 refine sqw 31 [32,33] rfl (fun _=>sqp [.k 32 (.bool false),.k 33 (.bool true)] sqe) ?_
 have hd23:(fin||true)=true:=(Bool.or_true _)
 refine sqp [Dg 34 fin true true hd23,.k 35 (.bool true)] ?_
 refine sY 35 [36,37,38,39,40] rfl rfl ?_
 refine sqp [.k 41 (.bool true)] ?_
 refine aa (wct rfl (wp_seq (sqr (sqp [.m 42 0,.k 43 (vp b),.k 44 (.pointer (some ⟨b,3,none⟩))] ?_))))
 refine aF (n:=1) 0 #[vi pos,vi (st+1),.string fm,.bool true] bn fun EO ew=>?_
 refine aa (wp_seq (sqr (sqp [.k 45 (.agg #[vi 0,vi 0,vi 0,.string ByteArray.empty,.bool false,.slice none 0 0,vi 0])] ?_)))
 refine aF (n:=7) 1 #[vi 0,vi 0,vi 0,.string ByteArray.empty,.bool false,.slice none 0 0,vi 0] ew fun JB kh=>?_
 refine sqp [.k 5 (.bool false),.k 6 (.bool false)] ?_
 refine aa (wp_ret (ai ?_))
 refine bpr (.tuple #[.agg #[vi 0,vi 0,vi 0,.string ByteArray.empty,.bool false,.slice none 0 0,vi 0],.bool false,.bool false]) (bq Try.results70 (rpa (kh.blk 1 rfl) 0 7) rpt rpt) ?_
 rw[mh hnd]
 exact⟨rfl,kh.pick [0] (by decide) rfl⟩
 ·have hN0:=e8 hok hnd
  have hN:NdQ nd:=⟨hN0.lv,fun e he=>Nat.le_trans (hN0.es e he) (by decide)⟩
  have hN1:=hN0.len
  have hN2:=hN0.rt
  have hN3:=hN0.hi
  have hN4:=hN0.lv
  have hN5:=hN0.fr
  have hN7:=hN0.es
  refine sqr (sqp [.m 19 1,.m 20 0,.k 21 (vp b),.k 22 (vp b)] ?_)
  refine al 0 bE ?_
  refine gQ (fun EA24_39 ec24_39=> .tuple #[.agg #[vi pos,vi nd.lv,vi nd.right,.string nd.high,.bool nd.dead,.slice EA24_39 nd.es.length ec24_39,vi ((nd.free:Int))],.bool true]) (fun EA24_39 ec24_39=>eO 104 3 (.slice EA24_39 nd.es.length ec24_39) nd.es.length (nd.es.flatMap enC)) bE (fun cx=>⟨_,(nF hnd (gF _ _ ps pos _ (hS _ cx.upd) hok hoc)).mono (by rintro e W1 ⟨EA4,ec4,rfl,aR⟩;exact⟨_,_,rfl,aR⟩),(aK (cx.ou 19) (cx.ou 23))⟩) fun EA24_39 ec24_39 wR ey=>?_
  refine sqp [.m 18 24,.k 25 (.agg #[vi pos,vi nd.lv,vi nd.right,.string nd.high,.bool nd.dead,.slice EA24_39 nd.es.length ec24_39,vi ((nd.free:Int))]),.k 26 (.bool true)] ?_
  refine aF (n:=7) 1 #[vi pos,vi nd.lv,vi nd.right,.string nd.high,.bool nd.dead,.slice EA24_39 nd.es.length ec24_39,vi ((nd.free:Int))] ey fun Jq fi=>?_
  refine sqp [.k 7 (.bool true)] ?_
  refine aa (wp_seq (wp_seq (sqr (sqp [.m 27 0,.k 28 (vp b),.k 29 (.pointer (some ⟨b,3,none⟩))] ?_))))
  refine al 0 fi ?_
  refine sqp [.m 31 30] ?_
  refine sqw 31 [32,33] rfl (fun _=>sqp [.k 32 (.bool true),.k 33 (.bool false)] sqe) ?_
  refine sqp [sPo 34 fin false,.m 35 34] ?_
  refine fo 35 [36,37,38,39,40] ?_ rfl (fun hq=>?_) ?_
  rotate_left
  refine sqp [.m 36 0,.k 37 (vp b),.k 38 (.pointer (some ⟨b,1,none⟩))] ?_
  refine al 0 fi ?_
  refine sqp [.k 40 (.bool (decide (1000<=st+1)))] ?_
  exact sqe
  refine dn ?_
  refine sqp [sPo 41 (fin||false) (decide (1000<=st+1))] ?_
  refine aa (wbs (fun jq=>?_) fun jq=>?_)
  have uQ:=jq
  simp only[zB] at uQ
  refine wp_seq (sqr (sqp [.m 42 0,.k 43 (vp b),.k 44 (.pointer (some ⟨b,3,none⟩))] ?_))
  refine aF (n:=1) 0 #[vi pos,vi (st+1),.string fm,.bool true] fi fun EV bJ=>?_
  refine aa (wp_seq (sqr (sqp [.k 45 (.agg #[vi 0,vi 0,vi 0,.string ByteArray.empty,.bool false,.slice none 0 0,vi 0])] ?_)))
  refine aF (n:=7) 1 #[vi 0,vi 0,vi 0,.string ByteArray.empty,.bool false,.slice none 0 0,vi 0] bJ fun Md ly=>?_
  refine sqp [.k 5 (.bool false),.k 6 (.bool false)] ?_
  refine aa (wp_ret (ai ?_))
  refine bpr (.tuple #[.agg #[vi 0,vi 0,vi 0,.string ByteArray.empty,.bool false,.slice none 0 0,vi 0],.bool false,.bool false]) (bq Try.results70 (rpa (ly.blk 1 rfl) 0 7) rpt rpt) ?_
  rw[kM (by have h_:=jq;simpa using h_)]
  exact⟨rfl,ly.pick [0] (by decide) rfl⟩
  have uQ:=jq
  simp only[zB] at uQ
  obtain⟨⟨xm,O0⟩,O1⟩:=uQ
  refine wp_skip (aa (wp_seq (wp_block (wp_seq (bC [0,0,2,6,14,31,63] [[1],[],[],[],[0]] [.c 47 (.agg #[vi pos,vi nd.lv,vi nd.right,.string nd.high,.bool nd.dead,.slice EA24_39 nd.es.length ec24_39,vi ((nd.free:Int))]),.k 48 (vp b),.k 49 (vp b),.k 50 (.pointer (some ⟨b,2,none⟩)),.c 51 (.string fm),.c 52 (.bool (cL nd.dead nd.high fm)),.k 46 (.bool (cL nd.dead nd.high fm))] [0,1,2] [0,4,5] [(46,6,1,47),(0,0,6,6)] fi ?_ fun OS ng=>?_)))))
  refine⟨?_,?_,?_,trivial⟩
  exact xs4 rfl id fun cx=>aO (n:=7) rfl (by kernel_rfl) (by kernel_rfl) (cx.ou 4) (cx.bi 1 rfl) (nle rfl) rfl
  exact xs4 rfl id fun cx=>ae rfl (by kernel_rfl) (cx.an 3) ((cx.bi 0 rfl).cell 2)
  exact xsc rfl id rfl rfl fun cx=>⟨_,mL pos nd.lv nd.right (nd.free:Int) nd.high nd.dead _ _ _ fm _ (by omega) (by omega),(aK (cx.an 0) (cx.an 4))⟩
  refine aa (wbs (fun iQ=>?_) fun iQ=>?_)
  refine wp_seq (aj [0,0,0,4,0,16,48,13,141,397,1023,2047,4095] [[],[],[],[1],[],[1],[],[],[],[0],[],[],[3]] [[],[],[],[],[],[],[],[],[],[3],[],[],[4]] [[],[],[],[],[],[],[],[],[],[0],[],[],[3]] [.k 53 (vp b),.k 54 (vp b),.k 55 (.pointer (some ⟨aW,2,none⟩)),.c 56 (vi nd.right),.k 57 (.pointer (some ⟨aW,2,none⟩)),.c 58 (vi nd.right),.k 59 (.bool (decide (nd.right<0))),.k 60 (vp b),.k 61 (vp b),.n,.k 62 (vp b),.k 63 (.pointer (some ⟨b,3,none⟩)),.n] (fun ix f d X=>match ix with|0|1|2|3|4|5|6|7|8=>True|9=>X 3=eB b 145 #[vi nd.right,vi (st+1),.string fm,.bool fin]|10|11=>True|12=>X 4=eB b 145 #[vi nd.right,vi (st+1),.string fm,.bool (decide (nd.right<0))]|_=>True) [1,2,4] [3,5,9,12] [(53,0,12,64)] ng ?_ ?_ ?_)
  exact fun ix _ _ _ _ _ _ hs hb hx h=>match ix,h with
  |9,h=>by dsimp only;rw[<-hx 3 rfl];exact h
  |12,h=>by dsimp only;rw[<-hx 4 rfl];exact h
  |0,_|1,_|2,_|3,_|4,_|5,_|6,_|7,_|8,_|10,_|11,_|_+13,_=>trivial
  refine⟨?_,?_,?_,?_,trivial⟩
  exact xs4 rfl id fun cx=>ae rfl (by kernel_rfl) (cx.an 2) ((cx.bi 1 rfl).cell 2)
  exact xs4 rfl id fun cx=>ae rfl (by kernel_rfl) (cx.an 4) ((cx.bi 1 rfl).cell 2)
  refine svA fun g d W X cx=>?_
  exact ar (n:=1) rfl (cx.an 8) (cx.an 3) (by kernel_rfl) (by kernel_rfl) (by kernel_rfl) cx (cx.init 0 _ rfl) rfl (nle rfl) (by kernel_rfl) rfl rfl rfl (fun _ _ _ _ _=>id)
  refine svA fun g d W X cx=>?_
  exact ar (n:=1) rfl (cx.an 11) (cx.an 6) (by kernel_rfl) (by kernel_rfl) (by kernel_rfl) cx (dTn (cx.an 9)) rfl (nle rfl) (by kernel_rfl) rfl rfl rfl (fun _ _ _ _ _=>id)
  intro f d X Oc hD uE fr af
  simp only[exq 4 ((dTn (hD 12 lq)))] at uE
  clear hD;subst af;clear f d X
  refine aa (wp_seq (aj [0,0,2,6,14,30,1,65,255] [[],[],[],[],[2],[],[0]] [[],[],[],[],[],[],[3]] [[],[],[],[],[],[],[0]] [.k 64 (.agg #[vi 0,vi 0,vi 0,.string ByteArray.empty,.bool false,.slice none 0 0,vi 0]),.k 65 (vp b),.k 66 (vp b),.k 67 (.pointer (some ⟨b,3,none⟩)),.c 68 (.bool (decide (nd.right<0))),.k 69 (.bool (!(decide (nd.right<0)))),.n,.k 5 (.bool false),.k 6 (.bool (!(decide (nd.right<0))))] (fun ix f d X=>match ix with|0|1|2|3|4|5=>True|6=>X 3=eB aW 116 #[vi 0,vi 0,vi 0,.string ByteArray.empty,.bool false,.slice none 0 0,vi 0]|_=>True) [1,2,3] [4,6] [(5,7,2,7),(57,0,6,63)] uE ?_ ?_ ?_))
  exact fun ix _ _ _ _ _ _ hs hb hx h=>match ix,h with
  |6,h=>by dsimp only;rw[<-hx 3 rfl];exact h
  |0,_|1,_|2,_|3,_|4,_|5,_|_+7,_=>trivial
  refine⟨?_,?_,trivial⟩
  exact xs4 rfl id fun cx=>ae rfl (by kernel_rfl) (cx.an 3) ((cx.bi 2 rfl).cell 3)
  refine svA fun g d W X cx=>?_
  exact ar (n:=7) rfl (cx.ou 4) (cx.an 0) (by kernel_rfl) (by kernel_rfl) (by kernel_rfl) cx (cx.init 0 _ rfl) rfl (nle rfl) (by kernel_rfl) rfl rfl rfl (fun _ _ _ _ _=>id)
  intro f d X O2 hD py fr af
  simp only[exq 3 ((dTn (hD 6 lq)))] at py
  clear hD;subst af;clear f d X
  refine aa (wp_ret (aB (ai ?_)))
  refine bpr (.tuple #[.agg #[vi 0,vi 0,vi 0,.string ByteArray.empty,.bool false,.slice none 0 0,vi 0],.bool false,.bool (!(decide (nd.right<0)))]) (bq Try.results70 (rpa (py.blk 2 rfl) 0 7) rpt rpt) ?_
  subst xm
  rw[gC (by have h_:=jq;simpa using h_) hnd,if_pos iQ]
  by_cases hrl:nd.right<0
  rw[if_pos hrl];exact⟨by rw[decide_eq_true hrl];rfl,py.pick [1] (by decide) rfl⟩
  rw[if_neg hrl];exact⟨by rw[decide_eq_false hrl];rfl,py.pick [1] (by decide) rfl⟩
  refine wp_seq (sqr (sqp [.k 71 (.pointer (some ⟨aW,1,none⟩))] ?_))
  refine al 1 ng ?_
  refine sqp [.k 73 (.bool (decide (0<nd.lv))),.m 70 73] ?_
  refine aa (wds (fun Eg LL=>?_) fun Eg LL=>?_)
  refine wp_seq (aj [0,0,0,4,12,28,62,127,255,511] [[],[1],[],[],[],[0],[2],[],[],[0]] [[],[],[],[],[],[],[],[],[],[3]] [[],[],[],[],[],[],[],[],[],[0]] [.k 74 (vp b),.c 75 (.agg #[vi pos,vi nd.lv,vi nd.right,.string nd.high,.bool nd.dead,.slice EA24_39 nd.es.length ec24_39,vi ((nd.free:Int))]),.k 76 (vp b),.k 77 (vp b),.k 78 (.pointer (some ⟨b,2,none⟩)),.c 79 (.string fm),.c 80 (vi (cl fm nd.es (-1))),.k 81 (vp b),.k 82 (vp b),.n] (fun ix f d X=>match ix with|0|1|2|3|4|5|6|7|8=>True|9=>X 3=eB b 145 #[vi (cl fm nd.es (-1)),vi (st+1),.string fm,.bool fin]|_=>True) [1,2,3] [1,5,6,9] [(74,0,9,83)] ng ?_ ?_ ?_)
  exact fun ix _ _ _ _ _ _ hs hb hx h=>match ix,h with
  |9,h=>by dsimp only;rw[<-hx 3 rfl];exact h
  |0,_|1,_|2,_|3,_|4,_|5,_|6,_|7,_|8,_|_+10,_=>trivial
  refine⟨?_,?_,?_,?_,trivial⟩
  exact xs4 rfl id fun cx=>aO (n:=7) rfl (by kernel_rfl) (by kernel_rfl) (cx.ou 4) (cx.bi 1 rfl) (nle rfl) rfl
  exact xs4 rfl id fun cx=>ae rfl (by kernel_rfl) (cx.an 4) ((cx.bi 0 rfl).cell 2)
  exact xsc rfl id rfl rfl fun cx=>⟨_,od _ _ _ _ _ _ _ _ _ _ nd.es _ (At.of_ownN (cx.ri 2 rfl)) rfl hN.es6 (by omega) (by omega),(aK (cx.an 1) (cx.an 5))⟩
  refine svA fun g d W X cx=>?_
  exact ar (n:=1) rfl (cx.an 8) (cx.an 6) (by kernel_rfl) (by kernel_rfl) (by kernel_rfl) cx (cx.init 0 _ rfl) rfl (nle rfl) (by kernel_rfl) rfl rfl rfl (fun _ _ _ _ _=>id)
  intro f d X Od hD uF fr af
  simp only[exq 3 ((dTn (hD 9 lq)))] at uF
  clear hD;subst af;clear f d X
  refine aa (wp_seq (sqr (sqp [.k 83 (.agg #[vi 0,vi 0,vi 0,.string ByteArray.empty,.bool false,.slice none 0 0,vi 0])] ?_)))
  refine aF (n:=7) 0 #[vi 0,vi 0,vi 0,.string ByteArray.empty,.bool false,.slice none 0 0,vi 0] uF fun BP dY=>?_
  refine sqp [.k 5 (.bool false),.k 6 (.bool true)] ?_
  refine aa (wp_ret (aB (ai ?_)))
  refine bpr (.tuple #[.agg #[vi 0,vi 0,vi 0,.string ByteArray.empty,.bool false,.slice none 0 0,vi 0],.bool false,.bool true]) (bq Try.results70 (rpa (dY.blk 0 rfl) 0 7) rpt rpt) ?_
  subst xm
  rw[gC (by have h_:=jq;simpa using h_) hnd,if_neg (by rw[iQ];decide),if_pos (of_decide_eq_true Eg)]
  exact⟨rfl,dY.pick [2] (by decide) rfl⟩
  refine wp_skip (aw (aa (wp_seq (sqr ?_))))
  refine d9 1 7 ng ?_
  refine aF (n:=7) 1 #[vi pos,vi nd.lv,vi nd.right,.string nd.high,.bool nd.dead,.slice EA24_39 nd.es.length ec24_39,vi ((nd.free:Int))] ng fun RO Fa=>?_
  refine sqp [.k 5 (.bool true),.k 6 (.bool true)] ?_
  refine aa (wp_ret ?_)
  refine bpr (.tuple #[.agg #[vi pos,vi nd.lv,vi nd.right,.string nd.high,.bool nd.dead,.slice EA24_39 nd.es.length ec24_39,vi ((nd.free:Int))],.bool true,.bool true]) (bq Try.results70 (rpa (Fa.blk 1 rfl) 0 7) rpt rpt) ?_
  subst xm
  rw[gC (by have h_:=jq;simpa using h_) hnd,if_neg (by rw[iQ];decide),if_neg (of_decide_eq_false Eg)]
  exact⟨_,_,rfl,Fa.pick [0,2] (by decide) rfl⟩
end
section
open Go.RowKit
def tqS(e:EnD):Value:= .string (qkF e.1)
def tqR(e:EnD):List Value:=[.int .i64 (opF e.1),.int .i64 (osF e.1)]
theorem iw(e:EnD):(tqR e).length=2:=rfl
theorem n9{l:List EnD}{i:Nat}(h:i<l.length):l.take (i+1)=l.take i++[l.getD i en0]:=by
 rw[List.take_add_one,List.getD_eq_getElem?_getD,List.getElem?_eq_getElem h];rfl
theorem Try.infoTid:(Try.prog.info? 31).map (fun i=>(i.zero,i.size,i.bytes))=some (some (.agg #[.int .i64 0,.int .i64 0]),2,16):=by kernel_rfl
end
section
open Go.RowKit
def wkL(w:WkT)(n:NoD):WkT:=⟨n.right,w.st,if n.high.size=0 then w.fm else n.high,decide (n.right<0)⟩
def aM(fm:ByteArray)(es:List EnD):List EnD:=es.filter fun e=>!ag e.1 fm
theorem re{fm:ByteArray}{l:List EnD}{i:Nat}(h:i<l.length):aM fm (l.take (i+1))=aM fm (l.take i)++(if ag (l.getD i en0).1 fm then [] else [l.getD i en0]):=by
 rw[aM,n9 h,List.filter_append]
 congr 1
 generalize l.getD i en0=x
 cases hq:ag x.1 fm<;>simp[hq]
theorem AN{fm:ByteArray}{l:List EnD}{i:Nat}(h:i<l.length)(hq:ag (l.getD i en0).1 fm=false):aM fm (l.take (i+1))=aM fm (l.take i)++[l.getD i en0]:=by rw[re h,hq];rfl
theorem CI{fm:ByteArray}{l:List EnD}{i:Nat}(h:i<l.length)(hq:ag (l.getD i en0).1 fm=true):aM fm (l.take (i+1))=aM fm (l.take i):=by rw[re h,hq,if_pos rfl,List.append_nil]
theorem Ew{b:Nat}{pos:Int}{R R':WkT×WkR}{f:FuncId}{args:Array Value}{w:World}(hR:R=R')(hc:Calls Try.prog f args w (mj b pos R w)):Calls Try.prog f args w (mj b pos R' w):=hR ▸ hc
theorem Ev{ps:List PgS}{pos st:Int}{fm:ByteArray}{fin:Bool}{nd:NoD}{w1:WkT}(h:wkN ps ⟨pos,st,fm,fin⟩=(w1,.at nd)):ao ps pos=some nd/\w1=⟨pos,st+1,fm,false⟩:=by
 by_cases h0:fin=true\/1000<=st+1
 rw[kM h0] at h;cases h
 rcases hn:ao ps pos with _|n
 rw[mh hn] at h;cases h
 rw[gC h0 hn] at h
 split at h
 split at h<;>cases h
 split at h<;>cases h
 exact⟨rfl,rfl⟩
def qJ(b:Nat)(pos:Int)(r:WkT×WkR)(w:World)(e:Ending)(w':World):Prop:=match r.2 with
 | .off=>e= .returned (.tuple #[.int .i64 (-1),.slice none 0 0,.slice none 0 0,.bool false])/\St w [b] [eB b 145 (wkC r.1)] w'
 | .on=>e= .returned (.tuple #[.int .i64 (-1),.slice none 0 0,.slice none 0 0,.bool true])/\St w [b] [eB b 145 (wkC r.1)] w'
 | .at n=>∃KA kc RA rc,e= .returned (.tuple #[.int .i64 pos,.slice KA (aM r.1.fm n.es).length kc,.slice RA (aM r.1.fm n.es).length rc,.bool true])/\
   St w [b] [eB b 145 (wkC (wkL r.1 n)),eO 9 1 (.slice KA (aM r.1.fm n.es).length kc) (aM r.1.fm n.es).length ((aM r.1.fm n.es).map tqS),eO 31 2 (.slice RA (aM r.1.fm n.es).length rc) (aM r.1.fm n.es).length ((aM r.1.fm n.es).flatMap tqR)] w'
def Iw(b:Nat)(w1:WkT)(mo:Bool)(w:World)(e:Ending)(w':World):Prop:=e= .returned (.tuple #[kn0 0,.bool false,.bool mo])/\St w [b] [eB b 145 (wkC w1)] w'
theorem K5{b:Nat}{pos:Int}{w1:WkT}{mo:Bool}{f:FuncId}{args:Array Value}{w:World}(hc:Calls Try.prog f args w (mj b pos (w1,bif mo then .on else .off) w)):Calls Try.prog f args w (Iw b w1 mo w):=by cases mo<;>exact hc
theorem Ad(r:WkR):(∃mo,r=bif mo then .on else .off)\/∃n,r= .at n:=by
 rcases r with _|_|n
 exact .inl ⟨false,rfl⟩
 exact .inl ⟨true,rfl⟩
 exact .inr ⟨n,rfl⟩
theorem v6(T:List EnD)(x:EnD):T.map tqS++[.string (qkF x.1)]=(T++[x]).map tqS:=by rw[List.map_append];rfl
theorem vW(T:List EnD)(x:EnD):T.flatMap tqR++[.int .i64 (opF x.1),.int .i64 (osF x.1)]=(T++[x]).flatMap tqR:=by rw[List.flatMap_append];rfl
theorem qF(b:Nat)(tt:TypeId)(tv:Value)(pos st:Int)(fm:ByteArray)(fin:Bool)(ps:List PgS)(w:World)(hb:Blk w b 145 #[.int .i64 pos,.int .i64 st,.string fm,.bool fin])(hS:∀W,Upd [b] w W->PgsOk W tt tv ps)(hok:OkS ps)(hoc:OkC ps)(aL:0<=st/\st<=100000)(hfm:fm.size<=900000):
  Calls Try.prog 35 #[.pointer (some ⟨b,0,none⟩),.iface tt (tv)] w (qJ b pos (wkN ps ⟨pos,st,fm,fin⟩) w):=by
 have st0:=St.lend (E:=eB b 145 #[.int .i64 pos,.int .i64 st,.string fm,.bool fin]) hb (dH _ _ _) (fun k hk=>by simp[eB] at hk;subst hk;exact hb.lt)
 go_enter Try.func35,Try.ntmps35
 have aq:=st0
 refine wp_seq (sqr (sqp [.k 4 (vi 0),.k 5 (.slice none 0 0),.k 6 (.slice none 0 0),.k 7 (.bool false)] ?_))
 refine aa (wp_seq ?_)
 rcases hR:wkN ps ⟨pos,st,fm,fin⟩ with ⟨w1,r1⟩
 rcases Ad r1 with ⟨mo,rfl⟩|⟨nd,rfl⟩
 refine sqr (sqp [.m 16 0,.m 17 1] ?_)
 refine lU (.tuple #[.agg #[vi 0,vi 0,vi 0,.string ((⟨#[]⟩:ByteArray)),.bool false,.slice none 0 0,vi 0],.bool false,.bool mo]) (eB b 145 #[vi w1.pos,vi w1.st,.string w1.fm,.bool w1.fin]) 0 aq (by
   refine svA fun j d W X cx=>?_
   refine ax.call (av (args:=#[vp b,.iface tt (tv)]) rfl cx.sees rfl (by kernel_rfl) (aK (cx.ou 16) (cx.ou 17))) ?_
   refine(K5 (Ew hR (iM _ _ _ pos st fm fin ps _ (cx.bi 0 rfl) (fun W hW=>hS W (cx.upd.join hW (fun i hi=> .inl hi))) hok hoc aL hfm))).mono ?_
   rintro e W1 ⟨rfl,aR⟩
   refine⟨_,rfl,bw (E:=eB b 145 #[vi pos,vi st,.string fm,.bool fin]) [eB b 145 #[vi w1.pos,vi w1.st,.string w1.fm,.bool w1.fin]] (cx.init 0 _ rfl) rfl rfl aR (fun g l X' hs hb hv hN=>?_)⟩
   have aZ:=(hv 18 rfl).1;have aJ:=(hv 18 rfl).2
   exact⟨aZ.trans rfl,(List.cons.inj hN).1⟩) fun W7 bF=>?_
 refine sqp [.m 15 18,.k 19 (.agg #[vi 0,vi 0,vi 0,.string ((⟨#[]⟩:ByteArray)),.bool false,.slice none 0 0,vi 0]),.k 20 (.bool false),.k 21 (.bool mo)] ?_
 refine bW #[vi 0,vi 0,vi 0,.string ByteArray.empty,.bool false,.slice none 0 0,vi 0] bF fun PC nD cb=>?_
 refine aF (n:=7) 1 #[vi 0,vi 0,vi 0,.string ((⟨#[]⟩:ByteArray)),.bool false,.slice none 0 0,vi 0] cb fun kO bE=>?_
 refine sqp [.k 9 (.bool false),.m 7 21] ?_
 refine aa (wp_seq (wp_seq (sqr (sqp [.k 22 (.bool false),.k 23 (.bool true)] ?_))))
 refine aa (wct rfl (wp_seq (sqr (sqp [.m 24 7,.k 4 (vi (-1)),.k 5 (.slice none 0 0),.k 6 (.slice none 0 0),.m 7 24] ?_))))
 refine aa (wp_ret (ai ?_))
 refine bpr (.tuple #[vi (-1),.slice none 0 0,.slice none 0 0,.bool mo]) (nW Try.results35 rpt rpt rpt rpt) ?_
 cases mo<;>exact⟨rfl,bE.pick [0] (by decide) rfl⟩
 obtain⟨hnd,rfl⟩:=Ev hR
 have hN0:=e8 hok hnd
 have hez:∀e∈nd.es,e.1.size<=1000000:=fun e he=>Nat.le_trans (hN0.es e he) (by decide)
 have hN1:=hN0.len
 have hN2:=hN0.rt
 have hN3:=hN0.hi
 refine aj [0,0,3,7,15,15,15,0,159,447,1023] [[],[],[0],[],[],[],[],[],[3]] [[],[],[1,2],[],[],[],[],[3],[4]] [[],[],[0],[],[],[],[],[],[3]] [.k 16 (vp b),.k 17 (.iface tt (tv)),.a 18,.a 15,.a 19,.c 20 (.bool true),.c 21 (.bool true),.a 8,.n,.k 9 (.bool true),.k 7 (.bool true)] (fun ix g d X=>match ix with|0|1=>True|2=>g 18= .tuple #[.agg #[vi pos,vi nd.lv,vi nd.right,.string nd.high,.bool nd.dead,.slice (sA (tg (tg (d 18) 0) 5)) nd.es.length (sC (tg (tg (d 18) 0) 5)),vi ((nd.free:Int))],.bool true,.bool true]/\X 1=eB b 145 #[vi pos,vi (st+1),.string fm,.bool false]/\X 2=eO 104 3 (.slice (sA (tg (tg (d 18) 0) 5)) nd.es.length (sC (tg (tg (d 18) 0) 5))) nd.es.length (nd.es.flatMap enC)|3=>g 15= .tuple #[.agg #[vi pos,vi nd.lv,vi nd.right,.string nd.high,.bool nd.dead,.slice (sA (tg (tg (d 18) 0) 5)) nd.es.length (sC (tg (tg (d 18) 0) 5)),vi ((nd.free:Int))],.bool true,.bool true]|4=>g 19= .agg #[vi pos,vi nd.lv,vi nd.right,.string nd.high,.bool nd.dead,.slice (sA (tg (tg (d 18) 0) 5)) nd.es.length (sC (tg (tg (d 18) 0) 5)),vi ((nd.free:Int))]|5|6=>True|7=>g 8=vp (pb (d 8))/\X 3=eB (pb (d 8)) 116 #[vi 0,vi 0,vi 0,.string ByteArray.empty,.bool false,.slice none 0 0,vi 0]|8=>X 4=eB (pb (d 8)) 116 #[vi pos,vi nd.lv,vi nd.right,.string nd.high,.bool nd.dead,.slice (sA (tg (tg (d 18) 0) 5)) nd.es.length (sC (tg (tg (d 18) 0) 5)),vi ((nd.free:Int))]|_=>True) [1,2,4] [2,3,4,5,6,7,8] [(7,10,1,8),(0,7,3,2),(5,3,1,6),(0,0,3,3),(0,4,3,3)] aq ?_ ?_ ?_
 exact fun ix _ _ _ _ _ _ hs hb hx h=>match ix,h with
 |2,h=>by dsimp only;rw[<-hs 18 rfl,<-hb 18 rfl,<-hx 1 rfl,<-hx 2 rfl];exact h
 |3,h=>by dsimp only;rw[<-hs 15 rfl,<-hb 18 rfl];exact h
 |4,h=>by dsimp only;rw[<-hs 19 rfl,<-hb 18 rfl];exact h
 |7,h=>by dsimp only;rw[<-hs 8 rfl,<-hb 8 rfl,<-hx 3 rfl];exact h
 |8,h=>by dsimp only;rw[<-hb 8 rfl,<-hb 18 rfl,<-hx 4 rfl];exact h
 |0,_|1,_|5,_|6,_|_+9,_=>trivial
 refine⟨?_,?_,?_,?_,?_,?_,?_,trivial⟩
 refine svA fun j d W X cx=>?_
 refine ax.call (av (args:=#[vp b,.iface tt (tv)]) rfl cx.sees rfl (by kernel_rfl) (aK (cx.an 0) (cx.an 1))) ?_
 refine(Ew hR (iM _ _ _ pos st fm fin ps _ (cx.bi 0 rfl) (fun W hW=>hS W (cx.upd.join hW (fun i hi=> .inl hi))) hok hoc aL hfm)).mono ?_
 rintro e W1 ⟨EA4,ec4,rfl,aR⟩
 refine⟨_,rfl,bw (E:=eB b 145 #[vi pos,vi st,.string fm,.bool fin]) [eB b 145 #[vi pos,vi (st+1),.string fm,.bool false],eO 104 3 (.slice EA4 nd.es.length ec4) nd.es.length (nd.es.flatMap enC)] (cx.init 0 _ rfl) rfl rfl aR (fun g l X' hs hb hv hN=>?_)⟩
 have aZ:=(hv 18 rfl).1;have aJ:=(hv 18 rfl).2
 exact⟨aZ.trans (by rw[aJ];rfl),(List.cons.inj hN).1,(by rw[aJ];exact(List.cons.inj (List.cons.inj hN).2).1)⟩
 exact sv rfl rfl rfl rfl rfl _ (fun _ _ _ h=>h) (fun d l h=>by rw[h 18 (by decide)]) fun j d W X cx=>b7 rfl (dTn (cx.an 2)).1
 exact sv rfl rfl rfl rfl rfl _ (fun _ _ _ h=>h) (fun d l h=>by rw[h 18 (by decide)]) fun j d W X cx=>aG rfl (dTn (cx.an 3)) rfl
 exact xs4 rfl id fun cx=>aG rfl (dTn (cx.an 3)) rfl
 exact xs4 rfl id fun cx=>aG rfl (dTn (cx.an 3)) rfl
 refine svA fun j d W X cx=>?_
 exact bx (cs:=#[vi 0,vi 0,vi 0,.string ByteArray.empty,.bool false,.slice none 0 0,vi 0]) rfl (by kernel_rfl) rfl rfl (fun _ _ _ _ _=> .intro)
 refine svA fun j d W X cx=>?_
 exact ar (n:=7) rfl (dTn (cx.an 7)).1 (dTn (cx.an 4)) (by kernel_rfl) (by kernel_rfl) (by kernel_rfl) cx (dTn (cx.an 7)).2 rfl (nle rfl) (by kernel_rfl) rfl rfl rfl (fun g l X' hs hb hx=>by rw[hb 8,hb 18];exact hx)
 intro g d X uk hD cK fr af
 simp only[exq 1 ((dTn (hD 2 lq)).2.1),exq 2 ((dTn (hD 2 lq)).2.2),exq 4 ((dTn (hD 8 lq)))] at cK
 simp only[ed 18 ((dTn (hD 2 lq)).1),ed 15 ((dTn (hD 3 lq))),ed 19 ((dTn (hD 4 lq))),ed 8 ((dTn (hD 7 lq)).1)] at af
 generalize sA (tg (tg (d 18) 0) 5)=EA18_23,sC (tg (tg (d 18) 0) 5)=ec18_23,pb (d 8)=jD at cK af
 clear hD;subst af;clear g d X
 refine aa (wp_seq (wp_seq (sqr (sqp [.k 22 (.bool true),.k 23 (.bool false)] ?_))))
 refine aa (wcf rfl (wp_skip (aa (wp_seq (wp_seq (sqr (sqp [.k 25 (.pointer (some ⟨jD,5,none⟩))] ?_)))))))
 refine al 2 cK ?_
 refine sqp [.k 27 (vi ((nd.es.length:Int))),.k 28 (vi 0)] ?_
 refine aa (wp_block ?_)
 have hn30:=St.nilrow cK 9
 simp only[List.cons_append,List.nil_append] at hn30
 have hn31:=bM hn30 31 2
 simp only[List.cons_append,List.nil_append] at hn31
 refine aX (fun t_ mz az W=>∃i:Nat,∃m:Nat,∃T:List EnD,∃KA:Option Addr,∃kc:Nat,∃RA:Option Addr,∃rc:Nat,i<=nd.es.length/\T=aM fm (nd.es.take i)/\T.length=m/\m<=i/\mz=nd.es.length-i/\az=⟨(ovr (jv az) [(5,5,0,[.slice KA m kc,.slice RA m rc]),(4,11,4,[]),(13,28,0,[vi ((i:Int))]),(0,29,27,[])] t_).toArray,[]⟩/\St w [b] [eB b 145 #[vi pos,vi (st+1),.string fm,.bool false],eB jD 116 #[vi pos,vi nd.lv,vi nd.right,.string nd.high,.bool nd.dead,.slice EA18_23 nd.es.length ec18_23,vi ((nd.free:Int))],eO 104 3 (.slice EA18_23 nd.es.length ec18_23) nd.es.length (nd.es.flatMap enC),eO 9 1 (.slice KA m kc) m (T.map tqS),eO 31 2 (.slice RA m rc) m (T.flatMap tqR)] W) (nd.es.length-0) ?_ ?_
 exact⟨0,0,[],none,0,none,0,Nat.zero_le _,rfl,rfl,Nat.le_refl _,rfl,(by kernel_rfl),hn31.pk [0,2,1,3,4]⟩
 rintro RP a32 Mf ⟨i,m,T,KA,kc,RA,rc,hi,hT,hTl,hmi,rfl,hj_,fL⟩
 refine ovz hj_ fun QF=>?_
 refine wp_seq (sqr (sqp [.k 29 (.bool (decide ((i:Int)<(nd.es.length:Int))))] ?_))
 refine aa (wp_seq (wds (fun tq pu=>?_) fun tq pu=>?_))
 refine wp_skip (aa (wp_seq (wp_block (wp_seq (sqr ?_)))))
 refine sql (.pointer (some ((ad EA18_23).add (i*3)))) fL (fun cx=>aD (e:=104) (m:=i) (sz:=3) rfl (by kernel_rfl) (by kernel_rfl) (cx.ou 26) (cx.ou 28) (by omega) (by omega) (At.of_ownN (cx.ri 2 rfl)) (be (sz:=3) aH (by decide) (by omega))) ?_
 refine sql (.agg #[.string ((nd.es.getD i en0).1),vi (((nd.es.getD i en0).2.1:Int)),vi ((nd.es.getD i en0).2.2)]) fL (fun cx=>aY (f:=enC) (m:=i) (sz:=3) (off:=0) (n:=3) rfl (by kernel_rfl) (by kernel_rfl) (cx.ou 30) rfl aH (At.of_ownN (cx.ri 2 rfl)) (ck (by omega)) (fun k hk=>match k,hk with|0,_=>rfl|1,_=>rfl|2,_=>rfl|k+3,hk=>absurd hk (by omega))) ?_
 refine bW #[.string ByteArray.empty,vi 0,vi 0] fL fun Ch I8 ia=>?_
 refine aF (n:=3) 5 #[.string ((nd.es.getD i en0).1),vi (((nd.es.getD i en0).2.1:Int)),vi ((nd.es.getD i en0).2.2)] ia fun Jn ie=>?_
 refine aa (wp_seq (bC [0,1,0,4,12,28,63,127] [[],[5],[],[],[],[0]] [.k 32 (vp Ch),.c 33 (.string ((nd.es.getD i en0).1)),.k 34 (vp b),.k 35 (vp b),.k 36 (.pointer (some ⟨b,2,none⟩)),.c 37 (.string fm),.c 38 (.bool (ag ((nd.es.getD i en0).1) fm)),.k 39 (.bool (!(ag ((nd.es.getD i en0).1) fm)))] [0,1,2,3,4,5] [1,5,6] [(32,0,8,40)] ie ?_ fun wR ey=>?_))
 refine⟨?_,?_,?_,trivial⟩
 exact xs4 rfl id fun cx=>ae rfl (by kernel_rfl) (cx.an 0) ((cx.bi 5 rfl).cell 0)
 exact xs4 rfl id fun cx=>ae rfl (by kernel_rfl) (cx.an 4) ((cx.bi 0 rfl).cell 2)
 exact xsc rfl id rfl rfl fun cx=>⟨_,gl ((nd.es.getD i en0).1) fm _ (cH hez _) (by omega),(aK (cx.an 1) (cx.an 5))⟩
 refine aa ?_
 rcases Bool.eq_false_or_eq_true (ag ((nd.es.getD i en0).1) fm) with iq|iq
 refine wp_cond_false (show Act.eval _ _= .bool false from(congrArg Value.bool (by rw[iq];rfl))) (wp_skip (aw (aa (sqr (sqp [sI 55 ((i:Int)+1) (by omega),.m 28 55] ?_)))))
 refine aa ?_
 refine⟨nd.es.length-((i+1)),by omega,?_⟩
 exact⟨(i+1),m,T,KA,kc,RA,rc,by omega,by rw[CI (by omega) (by have h_:=iq;simpa using h_)];exact hT,hTl,by omega,rfl,(by kernel_rfl),ey.pk [0,1,2,3,4]⟩
 refine wp_cond_true (show Act.eval _ _= .bool true from(congrArg Value.bool (by rw[iq];rfl))) (wp_seq (sqr (sqp [.k 41 (vp Ch)] ?_)))
 refine al 5 ey ?_
 refine sqk (.tuple #[.string (qkF ((nd.es.getD i en0).1)),.agg #[vi (opF ((nd.es.getD i en0).1)),vi (osF ((nd.es.getD i en0).1))],.bool (decide (4<=((nd.es.getD i en0).1).size))]) ey (fun cx=>⟨_,nT ((nd.es.getD i en0).1) _ (cH hez _),(br (cx.ou 42))⟩) fun Me lB=>?_
 refine sqp [.m 40 43,.k 44 (.string (qkF ((nd.es.getD i en0).1))),.k 45 (.agg #[vi (opF ((nd.es.getD i en0).1)),vi (osF ((nd.es.getD i en0).1))]),.k 46 (.bool (decide (4<=((nd.es.getD i en0).1).size)))] ?_
 refine bW #[vi 0,vi 0] lB fun O3 Jo dB=>?_
 refine sqp [.m 12 44] ?_
 refine aF (n:=2) 6 #[vi (opF ((nd.es.getD i en0).1)),vi (osF ((nd.es.getD i en0).1))] dB fun BX ib=>?_
 refine sqp [.m 14 46] ?_
 refine aa (aj [0,0,2,7,0,0,32,127,255,511] [[],[],[],[7,3],[],[6],[],[9,4]] [[],[],[7],[8],[],[],[9],[10]] [[],[],[],[3],[],[],[],[4]] [.k 47 (.slice KA m kc),.k 48 (.string (qkF ((nd.es.getD i en0).1))),.a 49,.a 50,.k 51 (.slice RA m rc),.c 52 (.agg #[vi (opF ((nd.es.getD i en0).1)),vi (osF ((nd.es.getD i en0).1))]),.a 53,.a 54,.a 5,.a 6] (fun ix g d X=>match ix with|0|1=>True|2=>g 49= .slice (sA (d 49)) 1 1/\X 7=eO 9 1 (.slice (sA (d 49)) 1 1) 1 ([.string (qkF ((nd.es.getD i en0).1))])|3=>g 50= .slice (sA (d 50)) (m+1) (sC (d 50))/\X 8=eO 9 1 (.slice (sA (d 50)) (m+1) (sC (d 50))) (m+1) ((T++[(nd.es.getD i en0)]).map tqS)|4|5=>True|6=>g 53= .slice ((some ⟨(pb' (d 53)),0,none⟩)) 1 1/\X 9=eO 31 2 (.slice ((some ⟨(pb' (d 53)),0,none⟩)) 1 1) 1 ([vi (opF ((nd.es.getD i en0).1)),vi (osF ((nd.es.getD i en0).1))])|7=>g 54= .slice (sA (d 54)) (m+1) (sC (d 54))/\X 10=eO 31 2 (.slice (sA (d 54)) (m+1) (sC (d 54))) (m+1) ((T++[(nd.es.getD i en0)]).flatMap tqR)|8=>g 5= .slice (sA (d 50)) (m+1) (sC (d 50))|9=>g 6= .slice (sA (d 54)) (m+1) (sC (d 54))|_=>True) [0,1,2,5,6,7,8,9,10] [2,3,5,6,7,8,9] [(5,8,2,7),(40,0,8,48)] ib ?_ ?_ ?_)
 exact fun ix _ _ _ _ _ _ hs hb hx h=>match ix,h with
 |2,h=>by dsimp only;rw[<-hs 49 rfl,<-hb 49 rfl,<-hx 7 rfl];exact h
 |3,h=>by dsimp only;rw[<-hs 50 rfl,<-hb 50 rfl,<-hx 8 rfl];exact h
 |6,h=>by dsimp only;rw[<-hs 53 rfl,<-hb 53 rfl,<-hx 9 rfl];exact h
 |7,h=>by dsimp only;rw[<-hs 54 rfl,<-hb 54 rfl,<-hx 10 rfl];exact h
 |8,h=>by dsimp only;rw[<-hs 5 rfl,<-hb 50 rfl];exact h
 |9,h=>by dsimp only;rw[<-hs 6 rfl,<-hb 54 rfl];exact h
 |0,_|1,_|4,_|5,_|_+10,_=>trivial
 refine⟨?_,?_,?_,?_,?_,?_,?_,trivial⟩
 refine svA fun j d W X cx=>?_
 have Np:j (.tmp 48)= .string (qkF ((nd.es.getD i en0).1)):=(cx.an 1)
 exact bY (e:=9) (xs:=[.string (qkF ((nd.es.getD i en0).1))]) rfl (by simp[go_sem,Np]) rfl (by decide) rfl rfl (fun _ _ _ _ _=> .intro)
 refine svA fun j d W X cx=>?_
 obtain⟨i0,hi0,hz0,hz1,hz2⟩:=info_parts Try.infoStr
 refine cP (n:=m) (m:=1) (nm:=m+1) (xs:=T.map tqS) (news:=[.string (qkF ((nd.es.getD i en0).1))]) (xs':=(T++[(nd.es.getD i en0)]).map tqS) rfl (ty:=49) rfl (by kernel_rfl) hi0 hz0 hz1 hz2 rfl (cx.an 0) cx (cx.init 3 _ rfl) rfl (dTn (cx.an 2)).1 (by rfl) (At.of_own (cx.row (dTn (cx.an 2)).2 rfl)) (by simp[Value.oneCell']) (by simp only[maxLen];omega) (by omega) rfl rfl rfl (by omega) (v6 _ _) (fun g l X' hs hb hv hx=>?_)
 exact⟨hv,hx⟩
 exact xs4 rfl id fun cx=>aO (n:=2) rfl (by kernel_rfl) (by kernel_rfl) (cx.ou 13) (cx.bi 6 rfl) (nle rfl) rfl
 refine svA fun j d W X cx=>?_
 have Nq:j (.tmp 52)= .agg #[vi (opF ((nd.es.getD i en0).1)),vi (osF ((nd.es.getD i en0).1))]:=(cx.an 5)
 exact bS (e:=31) (sz:=2) (xs:=[vi (opF ((nd.es.getD i en0).1)),vi (osF ((nd.es.getD i en0).1))]) rfl (by simp[go_sem,Nq]) rfl (by decide) rfl rfl (fun _ _ _ _ _=> .intro)
 refine svA fun j d W X cx=>?_
 obtain⟨i0,hi0,hz0,hz1,hz2⟩:=info_parts Try.infoTid
 refine bL (n:=m) (m:=1) (nm:=m+1) (sz:=2) (xs:=T.flatMap tqR) (news:=[vi (opF ((nd.es.getD i en0).1)),vi (osF ((nd.es.getD i en0).1))]) (xs':=(T++[(nd.es.getD i en0)]).flatMap tqR) rfl (ty:=58) rfl (by kernel_rfl) hi0 hz0 hz1 hz2 rfl (by decide) (cx.an 4) cx (cx.init 4 _ rfl) rfl (dTn (cx.an 6)).1 (by rfl) (At.of_ownN (cx.row (dTn (cx.an 6)).2 rfl)) (by simp[Value.oneCell']) (by simp only[maxLen];omega) (by omega) rfl rfl rfl (by omega) (vW _ _) (fun g l X' hs hb hv hx=>?_)
 exact⟨hv,hx⟩
 exact sv rfl rfl rfl rfl rfl _ (fun _ _ _ h=>h) (fun d l h=>by rw[h 50 (by decide)]) fun j d W X cx=>aN rfl (dTn (cx.an 3)).1
 exact sv rfl rfl rfl rfl rfl _ (fun _ _ _ h=>h) (fun d l h=>by rw[h 54 (by decide)]) fun j d W X cx=>aN rfl (dTn (cx.an 7)).1
 intro g d X Mi hD lI fr af
 simp only[exq 7 ((dTn (hD 2 lq)).2),exq 8 ((dTn (hD 3 lq)).2),exq 9 ((dTn (hD 6 lq)).2),exq 10 ((dTn (hD 7 lq)).2)] at lI
 simp only[ed 49 ((dTn (hD 2 lq)).1),ed 50 ((dTn (hD 3 lq)).1),ed 53 ((dTn (hD 6 lq)).1),ed 54 ((dTn (hD 7 lq)).1),ed 5 ((dTn (hD 8 lq))),ed 6 ((dTn (hD 9 lq)))] at af
 generalize sA (d 49)=O4,sA (d 50)=JT,sC (d 50)=JU,pb' (d 53)=O5,sA (d 54)=JV,sC (d 54)=JW at lI af
 clear hD;subst af;clear g d X
 refine aw (aa (sqr (sqp [sI 55 ((i:Int)+1) (by omega),.m 28 55] ?_)))
 refine aa ?_
 refine⟨nd.es.length-((i+1)),by omega,?_⟩
 exact⟨(i+1),(m+1),(T++[(nd.es.getD i en0)]),JT,JU,JV,JW,by omega,by rw[AN (by omega) (by have h_:=iq;simpa using h_),hT],by rw[List.length_append,hTl];rfl,by omega,rfl,(by kernel_rfl),lI.pk [0,1,2,6,8]⟩
 refine wp_exit (am (am (bj (aa (wp_seq (wp_seq ?_))))))
 have hfin:T=aM fm nd.es:=by rw[hT,List.take_of_length_le (by omega)]
 subst hTl
 refine sqr (sqp [.k 56 (.pointer (some ⟨jD,3,none⟩))] ?_)
 refine al 1 fL ?_
 refine sqp [.k 58 (.bool (!(nd.high.toList==((⟨#[]⟩:ByteArray)).toList)))] ?_
 refine aa ?_
 rcases Bool.eq_false_or_eq_true (nd.high.toList==((⟨#[]⟩:ByteArray)).toList) with jq|jq
 refine wp_cond_false (show Act.eval _ _= .bool false from(congrArg Value.bool (by rw[jq];rfl))) (wp_skip (aa (wp_seq (aj [0,0,0,4,0,16,48,13,141,397,1023,2047,4095] [[],[],[],[1],[],[1],[],[],[],[0],[],[],[5]] [[],[],[],[],[],[],[],[],[],[5],[],[],[6]] [[],[],[],[],[],[],[],[],[],[0],[],[],[5]] [.k 64 (vp b),.k 65 (vp b),.k 66 (.pointer (some ⟨jD,2,none⟩)),.c 67 (vi nd.right),.k 68 (.pointer (some ⟨jD,2,none⟩)),.c 69 (vi nd.right),.k 70 (.bool (decide (nd.right<0))),.k 71 (vp b),.k 72 (vp b),.n,.k 73 (vp b),.k 74 (.pointer (some ⟨b,3,none⟩)),.n] (fun ix g d X=>match ix with|0|1|2|3|4|5|6|7|8=>True|9=>X 5=eB b 145 #[vi nd.right,vi (st+1),.string fm,.bool false]|10|11=>True|12=>X 6=eB b 145 #[vi nd.right,vi (st+1),.string fm,.bool (decide (nd.right<0))]|_=>True) [1,2,3,4,6] [3,5,9,12] [(64,0,12,75)] fL ?_ ?_ ?_))))
 exact fun ix _ _ _ _ _ _ hs hb hx h=>match ix,h with
 |9,h=>by dsimp only;rw[<-hx 5 rfl];exact h
 |12,h=>by dsimp only;rw[<-hx 6 rfl];exact h
 |0,_|1,_|2,_|3,_|4,_|5,_|6,_|7,_|8,_|10,_|11,_|_+13,_=>trivial
 refine⟨?_,?_,?_,?_,trivial⟩
 exact xs4 rfl id fun cx=>ae rfl (by kernel_rfl) (cx.an 2) ((cx.bi 1 rfl).cell 2)
 exact xs4 rfl id fun cx=>ae rfl (by kernel_rfl) (cx.an 4) ((cx.bi 1 rfl).cell 2)
 refine svA fun j d W X cx=>?_
 exact ar (n:=1) rfl (cx.an 8) (cx.an 3) (by kernel_rfl) (by kernel_rfl) (by kernel_rfl) cx (cx.init 0 _ rfl) rfl (nle rfl) (by kernel_rfl) rfl rfl rfl (fun _ _ _ _ _=>id)
 refine svA fun j d W X cx=>?_
 exact ar (n:=1) rfl (cx.an 11) (cx.an 6) (by kernel_rfl) (by kernel_rfl) (by kernel_rfl) cx (dTn (cx.an 9)) rfl (nle rfl) (by kernel_rfl) rfl rfl rfl (fun _ _ _ _ _=>id)
 intro g d X Oi hD rQ fr af
 simp only[exq 6 ((dTn (hD 12 lq)))] at rQ
 clear hD;subst af;clear g d X
 refine aa (wp_seq (sqr (sqp [.k 75 (vp jD)] ?_)))
 refine al 0 rQ ?_
 refine sqp [.m 77 5,.m 78 6,.m 4 76,.m 5 77,.m 6 78,.k 7 (.bool true)] ?_
 refine aa (wp_ret ?_)
 refine bpr (.tuple #[vi pos,.slice KA T.length kc,.slice RA T.length rc,.bool true]) (nW Try.results35 rpt rpt rpt rpt) ?_
 have hpk_:=rQ.pick [4,2,3] (by decide) rfl
 have hsz_:nd.high.size=0:=by have h_:=jq;rw[go] at h_;simpa using h_
 subst hfin
 exact⟨_,_,_,_,rfl,by rw[wkL];dsimp only;rw[if_pos hsz_];exact hpk_⟩
 refine wp_cond_true (show Act.eval _ _= .bool true from(congrArg Value.bool (by rw[jq];rfl))) (sqr (sqp [.m 59 0,.k 60 (.pointer (some ⟨jD,3,none⟩))] ?_))
 refine al 1 fL ?_
 refine sqp [.k 62 (vp b),.k 63 (.pointer (some ⟨b,2,none⟩))] ?_
 refine aF (n:=1) 0 #[vi pos,vi (st+1),.string nd.high,.bool false] fL fun RQ LM=>?_
 refine aa (wp_seq (aj [0,0,0,4,0,16,48,13,141,397,1023,2047,4095] [[],[],[],[1],[],[1],[],[],[],[0],[],[],[5]] [[],[],[],[],[],[],[],[],[],[5],[],[],[6]] [[],[],[],[],[],[],[],[],[],[0],[],[],[5]] [.k 64 (vp b),.k 65 (vp b),.k 66 (.pointer (some ⟨jD,2,none⟩)),.c 67 (vi nd.right),.k 68 (.pointer (some ⟨jD,2,none⟩)),.c 69 (vi nd.right),.k 70 (.bool (decide (nd.right<0))),.k 71 (vp b),.k 72 (vp b),.n,.k 73 (vp b),.k 74 (.pointer (some ⟨b,3,none⟩)),.n] (fun ix g d X=>match ix with|0|1|2|3|4|5|6|7|8=>True|9=>X 5=eB b 145 #[vi nd.right,vi (st+1),.string nd.high,.bool false]|10|11=>True|12=>X 6=eB b 145 #[vi nd.right,vi (st+1),.string nd.high,.bool (decide (nd.right<0))]|_=>True) [1,2,3,4,6] [3,5,9,12] [(64,0,12,75)] LM ?_ ?_ ?_))
 exact fun ix _ _ _ _ _ _ hs hb hx h=>match ix,h with
 |9,h=>by dsimp only;rw[<-hx 5 rfl];exact h
 |12,h=>by dsimp only;rw[<-hx 6 rfl];exact h
 |0,_|1,_|2,_|3,_|4,_|5,_|6,_|7,_|8,_|10,_|11,_|_+13,_=>trivial
 refine⟨?_,?_,?_,?_,trivial⟩
 exact xs4 rfl id fun cx=>ae rfl (by kernel_rfl) (cx.an 2) ((cx.bi 1 rfl).cell 2)
 exact xs4 rfl id fun cx=>ae rfl (by kernel_rfl) (cx.an 4) ((cx.bi 1 rfl).cell 2)
 refine svA fun j d W X cx=>?_
 exact ar (n:=1) rfl (cx.an 8) (cx.an 3) (by kernel_rfl) (by kernel_rfl) (by kernel_rfl) cx (cx.init 0 _ rfl) rfl (nle rfl) (by kernel_rfl) rfl rfl rfl (fun _ _ _ _ _=>id)
 refine svA fun j d W X cx=>?_
 exact ar (n:=1) rfl (cx.an 11) (cx.an 6) (by kernel_rfl) (by kernel_rfl) (by kernel_rfl) cx (dTn (cx.an 9)) rfl (nle rfl) (by kernel_rfl) rfl rfl rfl (fun _ _ _ _ _=>id)
 intro g d X Mc hD jz fr af
 simp only[exq 6 ((dTn (hD 12 lq)))] at jz
 clear hD;subst af;clear g d X
 refine aa (wp_seq (sqr (sqp [.k 75 (vp jD)] ?_)))
 refine al 0 jz ?_
 refine sqp [.m 77 5,.m 78 6,.m 4 76,.m 5 77,.m 6 78,.k 7 (.bool true)] ?_
 refine aa (wp_ret ?_)
 refine bpr (.tuple #[vi pos,.slice KA T.length kc,.slice RA T.length rc,.bool true]) (nW Try.results35 rpt rpt rpt rpt) ?_
 have hpk_:=jz.pick [4,2,3] (by decide) rfl
 have hsz_:¬nd.high.size=0:=by have h_:=jq;rw[go] at h_;simpa using h_
 subst hfin
 exact⟨_,_,_,_,rfl,by rw[wkL];dsimp only;rw[if_neg hsz_];exact hpk_⟩
end
section
open Go.RowKit
def esY(xs:List YnD):List EnD:=xs.flatMap fun y=>y.1.es
theorem GQ{xs:List YnD}{ps:List PgS}{root:Int}(h:xs.map pgN=bH ps root 0):esY xs=cN ps root:=by
 rw[cN,<-h,List.flatMap_map];rfl
theorem CY(xs:List YnD)(y:YnD):esY (xs++[y])=esY xs++y.1.es:=by simp[esY]
def rn(es:List EnD)(w:World)(e:Ending)(w':World):Prop:=∃KA kc RA rc,e= .returned (.tuple #[.slice KA es.length kc,.slice RA es.length rc])/\
 St w [] [eO 9 1 (.slice KA es.length kc) es.length (es.map tqS),eO 31 2 (.slice RA es.length rc) es.length (es.flatMap tqR)] w'
def lfI(y:YnD):Value:= .int .i64 y.2.1
def z2(L:List (Int×NoD))(w:World)(e:Ending)(w':World):Prop:=∃A c,e= .returned (.slice A L.length c)/\St w [] [eO 3 1 (.slice A L.length c) L.length (L.map fun y=> .int .i64 y.1)] w'
theorem Gl(xs:List YnD)(y:YnD):xs.map lfI++[.int .i64 y.2.1]=(xs++[y]).map lfI:=by rw[List.map_append];rfl
theorem FJ{w W:World}{A:Option Addr}{c n:Nat}{L:List (Int×NoD)}{xs:List YnD}(h:xs.map pgN=L)(hn:n=xs.length)(hs:St w [] [eO 3 1 (.slice A n c) n (xs.map lfI)] W):z2 L w (.returned (.slice A n c)) W:=by
 subst hn h
 exact⟨A,c,by rw[List.length_map],by rw[List.length_map,List.map_map];exact hs⟩
theorem Gv{w W:World}{KA RA:Option Addr}{kc rc m:Nat}{ps:List PgS}{root:Int}{xs:List YnD}(h:xs.map pgN=bH ps root 0)(hm:m=(esY xs).length)(hs:St w [] [eO 9 1 (.slice KA m kc) m ((esY xs).map tqS),eO 31 2 (.slice RA m rc) m ((esY xs).flatMap tqR)] W):rn (cN ps root) w (.returned (.tuple #[.slice KA m kc,.slice RA m rc])) W:=by
 rw[GQ h] at hm hs
 subst hm
 exact⟨KA,kc,RA,rc,rfl,hs⟩
theorem kleaves_g(tt:TypeId)(tv:Value)(root:Int)(ps:List PgS)(w:World)(hS:PgsOk w tt tv ps)(hok:OkS ps)(hoc:OkC ps):
  Calls Try.prog 43 #[.iface tt (tv),.int .i64 root] w (z2 (bH ps root 0) w):=by
 refine(callsIn_wide (n:=3)).1 (callsIn_of_wp_marks Try.func43 rfl trivial (wpIn_wide.2 ?_) rfl)
 simp only[Try.ntmps43,List.size_toArray,List.length_cons,List.length_nil,Nat.reduceAdd,Nat.reduceSub,Array.replicate_succ,Array.replicate_zero,List.push_toArray,List.append_toArray,List.nil_append,List.cons_append]
 have aq:=St.start w
 refine wp_seq (lK [0] [.k 4 (.slice none 0 0)] [(4,0,1,5)] aq fun W1 aC=>?_)
 refine aa (wp_seq (aj [0] [] [[0]] [] [.a 5] (fun ix d b X=>match ix with|0=>d 5=vp (pb (b 5))/\X 0=eB (pb (b 5)) 22 #[.slice none 0 0]|_=>True) [0] [0] [(5,0,1,6)] aC ?_ ?_ ?_))
 exact fun ix _ _ _ _ _ _ hs hb hx h=>match ix,h with
 |0,h=>by dsimp only;rw[<-hs 5 rfl,<-hb 5 rfl,<-hx 0 rfl];exact h
 |_+1,_=>trivial
 refine⟨?_,trivial⟩
 refine svA fun f b W X cx=>?_
 exact bx (cs:=#[.slice none 0 0]) rfl (by kernel_rfl) rfl rfl (fun _ _ _ _ _=> .intro)
 intro d b X W2 hD aV fr af
 simp only[exq 0 ((dTn (hD 0 lq)).2)] at aV
 simp only[ed 5 ((dTn (hD 0 lq)).1)] at af
 generalize pb (b 5)=ir at aV af
 clear hD;subst af;clear d b X
 refine aa (wp_seq (wp_seq (aj [0,0,3] [] [[],[],[1,2,3]] [] [.k 7 (.iface tt (tv)),.k 8 (vi root),.a 9] (fun ix d b X=>match ix with|0|1=>True|2=>d 9= .func (.func 99) #[] #[vp (pcp 0 (b 9)),vp (pcp 1 (b 9)),vp (pcp 2 (b 9))]/\X 1=eB (pcp 0 (b 9)) 113 #[.iface tt (tv)]/\X 2=eB (pcp 1 (b 9)) 3 #[vi root]/\X 3=eB (pcp 2 (b 9)) 3 #[vi 0]|_=>True) [0,1,2,3] [2] [(7,0,3,10)] aV ?_ ?_ ?_)))
 exact fun ix _ _ _ _ _ _ hs hb hx h=>match ix,h with
 |2,h=>by dsimp only;rw[<-hs 9 rfl,<-hb 9 rfl,<-hx 1 rfl,<-hx 2 rfl,<-hx 3 rfl];exact h
 |0,_|1,_|_+3,_=>trivial
 refine⟨?_,trivial⟩
 refine svA fun f b W X cx=>?_
 refine ax.call (av (args:=#[.iface tt (tv),vi root,vi 0]) rfl cx.sees rfl (by kernel_rfl) (eC (cx.an 0) (cx.an 1) (cx.co _))) ?_
 refine(jG tt tv root 0 _).mono ?_
 rintro e W1 ⟨B4,B5,B6,rfl,aR⟩
 refine⟨_,rfl,dy [eB B4 113 #[.iface tt (tv)],eB B5 3 #[vi root],eB B6 3 #[vi 0]] rfl rfl aR (fun d g X' hs hb hv hN=>?_)⟩
 have aZ:=(hv 9 rfl).1;have aJ:=(hv 9 rfl).2
 exact⟨aZ.trans (by rw[aJ];rfl),(by rw[aJ];exact(List.cons.inj hN).1),(by rw[aJ];exact(List.cons.inj (List.cons.inj hN).2).1),(by rw[aJ];exact(List.cons.inj (List.cons.inj (List.cons.inj hN).2).2).1)⟩
 intro d b X W3 hD bG fr af
 simp only[exq 1 ((dTn (hD 2 lq)).2.1),exq 2 ((dTn (hD 2 lq)).2.2.1),exq 3 ((dTn (hD 2 lq)).2.2.2)] at bG
 simp only[ed 9 ((dTn (hD 2 lq)).1)] at af
 generalize pcp 0 (b 9)=B9a_3,pcp 1 (b 9)=B9b_3,pcp 2 (b 9)=B9c_3 at bG af
 clear hD;subst af;clear d b X
 refine aa (wp_block ?_)
 have hn4:=St.nilrow bG 3
 simp only[List.cons_append,List.nil_append] at hn4
 have Ci:=hn4.pick [0,4] (by decide) rfl
 refine j3 (α:=YnD) Ci rfl (enters_of Try.func99 (by kernel_rfl) rfl) (encs:=ynE) (Ex:=ynR) (N:=1000) (Z:=YnZ (bH ps root 0)) (jL _ _ _ _ _ _ _ hok hoc) (fun A hA=>RdR.keep (hn4.pick [1,2,3,0,4] (by decide) rfl) hS hA) (fun _=>rfl) (fun bb pre L=>cond bb (∃SA:Option Addr,∃n:Nat,∃sc:Nat,n=pre.length/\L=[eB ir 22 #[.slice SA n sc],eO 3 1 (.slice SA n sc) n (pre.map lfI)]) (False)) ⟨none,0,0,rfl,rfl⟩ (fun xx a_ E_=>∃BV:Nat,a_=⟨([.iface tt (tv),vi root,undef,undef,.slice none 0 0,vp ir,vp BV,.iface tt (tv),vi root,.func (.func 99) #[] #[vp B9a_3,vp B9b_3,vp B9c_3],.agg #[vi xx.2.1,vi xx.1.lv,vi xx.1.right,.string xx.1.high,.bool xx.1.dead,.slice xx.2.2.1 xx.1.es.length xx.2.2.2,vi ((xx.1.free:Int))],undef,undef,undef,undef,undef,undef]).toArray,[]⟩/\E_=eB BV 116 #[vi xx.2.1,vi xx.1.lv,vi xx.1.right,.string xx.1.high,.bool xx.1.dead,.slice xx.2.2.1 xx.1.es.length xx.2.2.2,vi ((xx.1.free:Int))]) (fun xx=>[.iface tt (tv),vi root,undef,undef,.slice none 0 0,vp ir,undef,.iface tt (tv),vi root,.func (.func 99) #[] #[vp B9a_3,vp B9b_3,vp B9c_3],.agg #[vi xx.2.1,vi xx.1.lv,vi xx.1.right,.string xx.1.high,.bool xx.1.dead,.slice xx.2.2.1 xx.1.es.length xx.2.2.2,vi ((xx.1.free:Int))],undef,undef,undef,undef,undef,undef]) (fun xx=>by kernel_rfl) ?_ ?_ ?_ ?_
 intro rl xx W5 K hK
 have bO:=St.start W5
 refine bm [0,1] [[],[0]] [[0],[1]] [[],[0]] [.a 6,.n] (fun ix d b X=>match ix with|0=>d 6=vp (pb (b 6))/\X 0=eB (pb (b 6)) 116 #[vi 0,vi 0,vi 0,.string ByteArray.empty,.bool false,.slice none 0 0,vi 0]|1=>X 1=eB (pb (b 6)) 116 #[vi xx.2.1,vi xx.1.lv,vi xx.1.right,.string xx.1.high,.bool xx.1.dead,.slice xx.2.2.1 xx.1.es.length xx.2.2.2,vi ((xx.1.free:Int))]|_=>True) [1] [0,1] [(6,0,1,7)] bO ?_ ?_ ?_
 exact fun ix _ _ _ _ _ _ hs hb hx h=>match ix,h with
 |0,h=>by dsimp only;rw[<-hs 6 rfl,<-hb 6 rfl,<-hx 0 rfl];exact h
 |1,h=>by dsimp only;rw[<-hb 6 rfl,<-hx 1 rfl];exact h
 |_+2,_=>trivial
 refine⟨?_,?_,trivial⟩
 refine svA fun f b W X cx=>?_
 exact bx (cs:=#[vi 0,vi 0,vi 0,.string ByteArray.empty,.bool false,.slice none 0 0,vi 0]) rfl (by kernel_rfl) rfl rfl (fun _ _ _ _ _=> .intro)
 refine svA fun f b W X cx=>?_
 exact ar (n:=7) rfl (dTn (cx.an 0)).1 (cx.ou 10) (by kernel_rfl) (by kernel_rfl) (by kernel_rfl) cx (dTn (cx.an 0)).2 rfl (nle rfl) (by kernel_rfl) rfl rfl rfl (fun d g X' hs hb hx=>by rw[hb 6];exact hx)
 intro d b X W7 hD bF fr af
 simp only[exq 1 ((dTn (hD 1 lq)))] at bF
 simp only[ed 6 ((dTn (hD 0 lq)).1)] at af
 generalize pb (b 6)=Nr at bF af
 clear hD;subst af;clear d b X
 exact hK _ _ _ ⟨_,rfl,rfl⟩ (bF.pick [0] (by decide) rfl)
 rintro rl pre xx W8 L8 a8 E8 ⟨SA,n,sc,hn,rfl⟩ hlen8 hPx8 ⟨BV,rfl,rfl⟩ lJ
 have bt:St W8 (fps ([eB ir 22 #[.slice SA n sc],eO 3 1 (.slice SA n sc) n (pre.map lfI)]++[eO 104 3 (.slice xx.2.2.1 xx.1.es.length xx.2.2.2) xx.1.es.length (xx.1.es.flatMap enC),eB BV 116 #[vi xx.2.1,vi xx.1.lv,vi xx.1.right,.string xx.1.high,.bool xx.1.dead,.slice xx.2.2.1 xx.1.es.length xx.2.2.2,vi ((xx.1.free:Int))]])) [eB ir 22 #[.slice SA n sc],eO 3 1 (.slice SA n sc) n (pre.map lfI),eO 104 3 (.slice xx.2.2.1 xx.1.es.length xx.2.2.2) xx.1.es.length (xx.1.es.flatMap enC),eB BV 116 #[vi xx.2.1,vi xx.1.lv,vi xx.1.right,.string xx.1.high,.bool xx.1.dead,.slice xx.2.2.1 xx.1.es.length xx.2.2.2,vi ((xx.1.free:Int))]] W8:=lJ
 clear lJ
 refine wpIn_block (bm [0,0,2,6,15,31] [[0],[],[3],[],[4,1],[0]] [[],[],[],[4],[5],[6]] [[],[],[],[],[1],[0]] [.c 11 (.slice SA n sc),.k 12 (vp BV),.c 13 (vi xx.2.1),.a 14,.a 15,.n] (fun ix d b X=>match ix with|0|1|2=>True|3=>d 14= .slice (sA (b 14)) 1 1/\X 4=eO 3 1 (.slice (sA (b 14)) 1 1) 1 ([vi xx.2.1])|4=>d 15= .slice (sA (b 15)) (n+1) (sC (b 15))/\X 5=eO 3 1 (.slice (sA (b 15)) (n+1) (sC (b 15))) (n+1) ((pre++[xx]).map lfI)|5=>X 6=eB ir 22 #[.slice (sA (b 15)) (n+1) (sC (b 15))]|_=>True) [2,3,4,5,6] [0,2,3,4,5] [(11,0,5,16)] bt ?_ ?_ ?_)
 exact fun ix _ _ _ _ _ _ hs hb hx h=>match ix,h with
 |3,h=>by dsimp only;rw[<-hs 14 rfl,<-hb 14 rfl,<-hx 4 rfl];exact h
 |4,h=>by dsimp only;rw[<-hs 15 rfl,<-hb 15 rfl,<-hx 5 rfl];exact h
 |5,h=>by dsimp only;rw[<-hb 15 rfl,<-hx 6 rfl];exact h
 |0,_|1,_|2,_|_+6,_=>trivial
 refine⟨?_,?_,?_,?_,?_,trivial⟩
 exact xs4 rfl id fun cx=>ae rfl (by kernel_rfl) (cx.ou 5) ((cx.bi 0 rfl).cell 0)
 exact xs4 rfl id fun cx=>ae rfl (by kernel_rfl) (cx.an 1) ((cx.bi 3 rfl).cell 0)
 refine svA fun f b W X cx=>?_
 have qs:f (.tmp 13)=vi xx.2.1:=(cx.an 2)
 exact bY (e:=3) (xs:=[vi xx.2.1]) rfl (by simp[go_sem,qs]) rfl (by decide) rfl rfl (fun _ _ _ _ _=> .intro)
 refine svA fun f b W X cx=>?_
 obtain⟨i0,hi0,hz0,hz1,hz2⟩:=info_parts Try.infoInt
 refine cP (n:=n) (m:=1) (nm:=n+1) (xs:=pre.map lfI) (news:=[vi xx.2.1]) (xs':=(pre++[xx]).map lfI) rfl (ty:=22) rfl (by kernel_rfl) hi0 hz0 hz1 hz2 rfl (cx.an 0) cx (cx.init 1 _ rfl) rfl (dTn (cx.an 3)).1 (by rfl) (At.of_own (cx.row (dTn (cx.an 3)).2 rfl)) (by simp[Value.oneCell']) (by simp only[maxLen];omega) (by omega) rfl rfl rfl (by omega) (Gl _ _) (fun d g X' hs hb hv hx=>?_)
 exact⟨hv,hx⟩
 refine svA fun f b W X cx=>?_
 exact ar (n:=1) rfl (cx.ou 5) (dTn (cx.an 4)).1 (by kernel_rfl) (by kernel_rfl) (by kernel_rfl) cx (cx.init 0 _ rfl) rfl (nle rfl) (by kernel_rfl) rfl rfl rfl (fun d g X' hs hb hx=>by rw[hb 15];exact hx)
 intro d b X W9 hD bh fr af
 simp only[exq 4 ((dTn (hD 3 lq)).2),exq 5 ((dTn (hD 4 lq)).2),exq 6 ((dTn (hD 5 lq)))] at bh
 simp only[ed 14 ((dTn (hD 3 lq)).1),ed 15 ((dTn (hD 4 lq)).1)] at af
 generalize sA (b 14)=PD,sA (b 15)=nq,sC (b 15)=nr at bh af
 clear hD;subst af;clear d b X
 refine aw ?_
 exact⟨true,.inl ⟨rfl,rfl⟩,_,⟨nq,(n+1),nr,by rw[hn,List.length_append];rfl,rfl⟩,bh.pick [4,3,0] (by decide) rfl⟩
 rintro D5 xn L5 XS_ E_ ⟨SA,n,sc,hn,rfl⟩ hZ_ iW
 have nt:St w [] [eB ir 22 #[.slice SA n sc],eO 3 1 (.slice SA n sc) n (XS_.map lfI),E_,fu D5] xn:=iW
 clear iW
 refine aw (aa (wp_seq (bC [0,1] [[0]] [.c 16 (.slice SA n sc),.k 4 (.slice SA n sc)] [0,1,2,3] [0] [(4,1,1,5),(11,0,1,12)] nt ?_ fun ul cX=>?_)))
 refine⟨?_,trivial⟩
 exact xs4 rfl id fun cx=>ae rfl (by kernel_rfl) (cx.ou 5) ((cx.bi 0 rfl).cell 0)
 refine aa (wp_ret ?_)
 refine kH (L:=[eB ir 22 #[.slice SA n sc],eO 3 1 (.slice SA n sc) n (XS_.map lfI),E_]) (cX.pick [0,1,2,3] (by decide) rfl) fun Wt11 ht11=>?_
 refine⟨.slice SA n sc,(ak Try.results43 rpt),?_⟩
 exact FJ (hZ_.2.1 rfl) hn (ht11.pick [1] (by decide) rfl)
 exact fun D W L xs E h=>h.elim
theorem Bc(tt:TypeId)(tv:Value)(root:Int)(ps:List PgS)(w:World)(hS:PgsOk w tt tv ps)(hok:OkS ps)(hoc:OkC ps):
  Calls Try.prog 42 #[.iface tt (tv),.int .i64 root] w (rn (cN ps root) w):=by
 refine(callsIn_wide (n:=3)).1 (callsIn_of_wp_marks Try.func42 rfl trivial (wpIn_wide.2 ?_) rfl)
 simp only[Try.ntmps42,List.size_toArray,List.length_cons,List.length_nil,Nat.reduceAdd,Nat.reduceSub,Array.replicate_succ,Array.replicate_zero,List.push_toArray,List.append_toArray,List.nil_append,List.cons_append]
 have aq:=St.start w
 refine wp_seq (aj [0,0] [] [[0],[1]] [] [.a 4,.a 5] (fun ix d b X=>match ix with|0=>d 4=vp (pb (b 4))/\X 0=eB (pb (b 4)) 49 #[.slice none 0 0]|1=>d 5=vp (pb (b 5))/\X 1=eB (pb (b 5)) 58 #[.slice none 0 0]|_=>True) [0,1] [0,1] [(4,0,2,6)] aq ?_ ?_ ?_)
 exact fun ix _ _ _ _ _ _ hs hb hx h=>match ix,h with
 |0,h=>by dsimp only;rw[<-hs 4 rfl,<-hb 4 rfl,<-hx 0 rfl];exact h
 |1,h=>by dsimp only;rw[<-hs 5 rfl,<-hb 5 rfl,<-hx 1 rfl];exact h
 |_+2,_=>trivial
 refine⟨?_,?_,trivial⟩
 refine svA fun g b W X cx=>?_
 exact bx (cs:=#[.slice none 0 0]) rfl (by kernel_rfl) rfl rfl (fun _ _ _ _ _=> .intro)
 refine svA fun g b W X cx=>?_
 exact bx (cs:=#[.slice none 0 0]) rfl (by kernel_rfl) rfl rfl (fun _ _ _ _ _=> .intro)
 intro d b X W1 hD aC fr af
 simp only[exq 0 ((dTn (hD 0 lq)).2),exq 1 ((dTn (hD 1 lq)).2)] at aC
 simp only[ed 4 ((dTn (hD 0 lq)).1),ed 5 ((dTn (hD 1 lq)).1)] at af
 generalize pb (b 4)=aW,pb (b 5)=bv at aC af
 clear hD;subst af;clear d b X
 refine aa (wp_seq (wp_seq (aj [0,0,3] [] [[],[],[2,3,4]] [] [.k 12 (.iface tt (tv)),.k 13 (vi root),.a 14] (fun ix d b X=>match ix with|0|1=>True|2=>d 14= .func (.func 99) #[] #[vp (pcp 0 (b 14)),vp (pcp 1 (b 14)),vp (pcp 2 (b 14))]/\X 2=eB (pcp 0 (b 14)) 113 #[.iface tt (tv)]/\X 3=eB (pcp 1 (b 14)) 3 #[vi root]/\X 4=eB (pcp 2 (b 14)) 3 #[vi 0]|_=>True) [0,1,2,3,4] [2] [(12,0,3,15)] aC ?_ ?_ ?_)))
 exact fun ix _ _ _ _ _ _ hs hb hx h=>match ix,h with
 |2,h=>by dsimp only;rw[<-hs 14 rfl,<-hb 14 rfl,<-hx 2 rfl,<-hx 3 rfl,<-hx 4 rfl];exact h
 |0,_|1,_|_+3,_=>trivial
 refine⟨?_,trivial⟩
 refine svA fun g b W X cx=>?_
 refine ax.call (av (args:=#[.iface tt (tv),vi root,vi 0]) rfl cx.sees rfl (by kernel_rfl) (eC (cx.an 0) (cx.an 1) (cx.co _))) ?_
 refine(jG tt tv root 0 _).mono ?_
 rintro e W1 ⟨B4,B5,B6,rfl,aR⟩
 refine⟨_,rfl,dy [eB B4 113 #[.iface tt (tv)],eB B5 3 #[vi root],eB B6 3 #[vi 0]] rfl rfl aR (fun d i X' hs hb hv hN=>?_)⟩
 have aZ:=(hv 14 rfl).1;have aJ:=(hv 14 rfl).2
 exact⟨aZ.trans (by rw[aJ];rfl),(by rw[aJ];exact(List.cons.inj hN).1),(by rw[aJ];exact(List.cons.inj (List.cons.inj hN).2).1),(by rw[aJ];exact(List.cons.inj (List.cons.inj (List.cons.inj hN).2).2).1)⟩
 intro d b X W2 hD aV fr af
 simp only[exq 2 ((dTn (hD 2 lq)).2.1),exq 3 ((dTn (hD 2 lq)).2.2.1),exq 4 ((dTn (hD 2 lq)).2.2.2)] at aV
 simp only[ed 14 ((dTn (hD 2 lq)).1)] at af
 generalize pcp 0 (b 14)=B14a_2,pcp 1 (b 14)=B14b_2,pcp 2 (b 14)=B14c_2 at aV af
 clear hD;subst af;clear d b X
 refine aa (wp_block ?_)
 have hn3:=St.nilrow aV 9
 simp only[List.cons_append,List.nil_append] at hn3
 have hn4:=bM hn3 31 2
 simp only[List.cons_append,List.nil_append] at hn4
 have Ci:=hn4.pick [0,1,5,6] (by decide) rfl
 refine j3 (α:=YnD) Ci rfl (enters_of Try.func99 (by kernel_rfl) rfl) (encs:=ynE) (Ex:=ynR) (N:=1000) (Z:=YnZ (bH ps root 0)) (jL _ _ _ _ _ _ _ hok hoc) (fun A hA=>RdR.keep (hn4.pick [2,3,4,0,1,5,6] (by decide) rfl) hS hA) (fun _=>rfl) (fun bb pre L=>cond bb (∃m:Nat,∃KA:Option Addr,∃kc:Nat,∃RA:Option Addr,∃rc:Nat,m=(esY pre).length/\m<=100*pre.length/\L=[eB aW 49 #[.slice KA m kc],eB bv 58 #[.slice RA m rc],eO 9 1 (.slice KA m kc) m ((esY pre).map tqS),eO 31 2 (.slice RA m rc) m ((esY pre).flatMap tqR)]) (False)) ⟨0,none,0,none,0,rfl,Nat.zero_le _,rfl⟩ (fun xx a_ E_=>∃BV:Nat,a_=⟨([.iface tt (tv),vi root,undef,undef,vp aW,vp bv,vp BV,undef,undef,undef,undef,undef,.iface tt (tv),vi root,.func (.func 99) #[] #[vp B14a_2,vp B14b_2,vp B14c_2],.agg #[vi xx.2.1,vi xx.1.lv,vi xx.1.right,.string xx.1.high,.bool xx.1.dead,.slice xx.2.2.1 xx.1.es.length xx.2.2.2,vi ((xx.1.free:Int))],undef,undef,undef,undef,undef,undef,undef,undef,undef,undef,undef,undef,undef,undef,undef,undef,undef,undef,undef,undef,undef,undef,undef,undef,undef]).toArray,[]⟩/\E_=eB BV 116 #[vi xx.2.1,vi xx.1.lv,vi xx.1.right,.string xx.1.high,.bool xx.1.dead,.slice xx.2.2.1 xx.1.es.length xx.2.2.2,vi ((xx.1.free:Int))]) (fun xx=>[.iface tt (tv),vi root,undef,undef,vp aW,vp bv,undef,undef,undef,undef,undef,undef,.iface tt (tv),vi root,.func (.func 99) #[] #[vp B14a_2,vp B14b_2,vp B14c_2],.agg #[vi xx.2.1,vi xx.1.lv,vi xx.1.right,.string xx.1.high,.bool xx.1.dead,.slice xx.2.2.1 xx.1.es.length xx.2.2.2,vi ((xx.1.free:Int))],undef,undef,undef,undef,undef,undef,undef,undef,undef,undef,undef,undef,undef,undef,undef,undef,undef,undef,undef,undef,undef,undef,undef,undef,undef]) (fun xx=>by kernel_rfl) ?_ ?_ ?_ ?_
 intro rl xx W5 K hK
 have bO:=St.start W5
 refine bm [0,1] [[],[0]] [[0],[1]] [[],[0]] [.a 6,.n] (fun ix d b X=>match ix with|0=>d 6=vp (pb (b 6))/\X 0=eB (pb (b 6)) 116 #[vi 0,vi 0,vi 0,.string ByteArray.empty,.bool false,.slice none 0 0,vi 0]|1=>X 1=eB (pb (b 6)) 116 #[vi xx.2.1,vi xx.1.lv,vi xx.1.right,.string xx.1.high,.bool xx.1.dead,.slice xx.2.2.1 xx.1.es.length xx.2.2.2,vi ((xx.1.free:Int))]|_=>True) [1] [0,1] [(6,0,1,7)] bO ?_ ?_ ?_
 exact fun ix _ _ _ _ _ _ hs hb hx h=>match ix,h with
 |0,h=>by dsimp only;rw[<-hs 6 rfl,<-hb 6 rfl,<-hx 0 rfl];exact h
 |1,h=>by dsimp only;rw[<-hb 6 rfl,<-hx 1 rfl];exact h
 |_+2,_=>trivial
 refine⟨?_,?_,trivial⟩
 refine svA fun g b W X cx=>?_
 exact bx (cs:=#[vi 0,vi 0,vi 0,.string ByteArray.empty,.bool false,.slice none 0 0,vi 0]) rfl (by kernel_rfl) rfl rfl (fun _ _ _ _ _=> .intro)
 refine svA fun g b W X cx=>?_
 exact ar (n:=7) rfl (dTn (cx.an 0)).1 (cx.ou 15) (by kernel_rfl) (by kernel_rfl) (by kernel_rfl) cx (dTn (cx.an 0)).2 rfl (nle rfl) (by kernel_rfl) rfl rfl rfl (fun d i X' hs hb hx=>by rw[hb 6];exact hx)
 intro d b X W7 hD bF fr af
 simp only[exq 1 ((dTn (hD 1 lq)))] at bF
 simp only[ed 6 ((dTn (hD 0 lq)).1)] at af
 generalize pb (b 6)=Nr at bF af
 clear hD;subst af;clear d b X
 exact hK _ _ _ ⟨_,rfl,rfl⟩ (bF.pick [0] (by decide) rfl)
 rintro rl pre xx W8 L8 a8 E8 ⟨m,KA,kc,RA,rc,hm,hmb,rfl⟩ hlen8 hPx8 ⟨BV,rfl,rfl⟩ lJ
 have bt:St W8 (fps ([eB aW 49 #[.slice KA m kc],eB bv 58 #[.slice RA m rc],eO 9 1 (.slice KA m kc) m ((esY pre).map tqS),eO 31 2 (.slice RA m rc) m ((esY pre).flatMap tqR)]++[eO 104 3 (.slice xx.2.2.1 xx.1.es.length xx.2.2.2) xx.1.es.length (xx.1.es.flatMap enC),eB BV 116 #[vi xx.2.1,vi xx.1.lv,vi xx.1.right,.string xx.1.high,.bool xx.1.dead,.slice xx.2.2.1 xx.1.es.length xx.2.2.2,vi ((xx.1.free:Int))]])) [eB aW 49 #[.slice KA m kc],eB bv 58 #[.slice RA m rc],eO 9 1 (.slice KA m kc) m ((esY pre).map tqS),eO 31 2 (.slice RA m rc) m ((esY pre).flatMap tqR),eO 104 3 (.slice xx.2.2.1 xx.1.es.length xx.2.2.2) xx.1.es.length (xx.1.es.flatMap enC),eB BV 116 #[vi xx.2.1,vi xx.1.lv,vi xx.1.right,.string xx.1.high,.bool xx.1.dead,.slice xx.2.2.1 xx.1.es.length xx.2.2.2,vi ((xx.1.free:Int))]] W8:=lJ
 clear lJ
 have hN0:=e8 hok hPx8
 have hez:∀e∈xx.1.es,e.1.size<=1000000:=fun e he=>Nat.le_trans (hN0.es e he) (by decide)
 have hN1:=hN0.len
 refine wpIn_block (wpIn_seq (hG [0,1,3,0] [[],[5]] [.k 16 (.pointer (some ⟨BV,5,none⟩)),.c 17 (.slice xx.2.2.1 xx.1.es.length xx.2.2.2),.k 18 (vi ((xx.1.es.length:Int))),.k 19 (vi 0)] [0,1,2,3,4,5] [1] [(16,0,4,20)] bt ?_ fun W9 bh=>?_))
 refine⟨?_,trivial⟩
 exact xs4 rfl id fun cx=>ae rfl (by kernel_rfl) (cx.an 0) ((cx.bi 5 rfl).cell 5)
 refine aa (wpIn_block ?_)
 refine zq (fun mz az W=>∃j:Nat,∃q:Nat,∃T:List EnD,∃LA:Option Addr,∃lc:Nat,∃QA:Option Addr,∃qc:Nat,j<=xx.1.es.length/\T=esY pre++xx.1.es.take j/\T.length=q/\q<=m+j/\mz=xx.1.es.length-j/\az=⟨#[.iface tt (tv),vi root,undef,undef,vp aW,vp bv,vp BV,undef,jv az 8,jv az 9,jv az 10,jv az 11,.iface tt (tv),vi root,.func (.func 99) #[] #[vp B14a_2,vp B14b_2,vp B14c_2],.agg #[vi xx.2.1,vi xx.1.lv,vi xx.1.right,.string xx.1.high,.bool xx.1.dead,.slice xx.2.2.1 xx.1.es.length xx.2.2.2,vi ((xx.1.free:Int))],.pointer (some ⟨BV,5,none⟩),.slice xx.2.2.1 xx.1.es.length xx.2.2.2,vi ((xx.1.es.length:Int)),vi ((j:Int)),jv az 20,jv az 21,jv az 22,jv az 23,jv az 24,jv az 25,jv az 26,jv az 27,jv az 28,jv az 29,jv az 30,jv az 31,jv az 32,jv az 33,jv az 34,jv az 35,jv az 36,jv az 37,jv az 38,undef,undef],[]⟩/\St W8 (fps ([eB aW 49 #[.slice KA m kc],eB bv 58 #[.slice RA m rc],eO 9 1 (.slice KA m kc) m ((esY pre).map tqS),eO 31 2 (.slice RA m rc) m ((esY pre).flatMap tqR)]++[eO 104 3 (.slice xx.2.2.1 xx.1.es.length xx.2.2.2) xx.1.es.length (xx.1.es.flatMap enC),eB BV 116 #[vi xx.2.1,vi xx.1.lv,vi xx.1.right,.string xx.1.high,.bool xx.1.dead,.slice xx.2.2.1 xx.1.es.length xx.2.2.2,vi ((xx.1.free:Int))]])) [eB aW 49 #[.slice LA q lc],eB bv 58 #[.slice QA q qc],eO 9 1 (.slice LA q lc) q (T.map tqS),eO 31 2 (.slice QA q qc) q (T.flatMap tqR),eO 104 3 (.slice xx.2.2.1 xx.1.es.length xx.2.2.2) xx.1.es.length (xx.1.es.flatMap enC),eB BV 116 #[vi xx.2.1,vi xx.1.lv,vi xx.1.right,.string xx.1.high,.bool xx.1.dead,.slice xx.2.2.1 xx.1.es.length xx.2.2.2,vi ((xx.1.free:Int))]] W) (xx.1.es.length-0) ?_ ?_
 exact⟨0,m,(esY pre),KA,kc,RA,rc,Nat.zero_le _,by rw[List.take_zero,List.append_nil],hm.symm,Nat.le_refl _,rfl,(by kernel_rfl),bh.pk [0,1,2,3,4,5]⟩
 rintro RR a10 ul ⟨j,q,T,LA,lc,QA,qc,hj,hT,hTl,hqm,rfl,hj_,cX⟩
 obtain⟨QG,hu_⟩:∃z,jv a10=z:=⟨_,rfl⟩
 rw[hu_] at hj_;clear hu_;subst hj_
 refine wpIn_seq (ny [0] [.k 20 (.bool (decide ((j:Int)<(xx.1.es.length:Int))))] [(20,0,1,21)] cX fun pH cA=>?_)
 refine aa (wpIn_seq ?_)
 rcases Bool.eq_false_or_eq_true (decide ((j:Int)<(xx.1.es.length:Int))) with lY|lY
 have pm:(j:Int)<(xx.1.es.length:Int):=by simpa using lY
 refine wpIn_cond_true (show Act.eval _ _= .bool true from(congrArg Value.bool lY)) (wpIn_skip (aa (wpIn_seq (wpIn_block (wpIn_seq (bm [0,1,0,7] [[4],[4],[],[6]] [[],[],[6],[7]] [[],[],[],[6]] [.c 21 (.pointer (some ((ad xx.2.2.1).add (j*3)))),.c 22 (.agg #[.string ((xx.1.es.getD j en0).1),vi (((xx.1.es.getD j en0).2.1:Int)),vi ((xx.1.es.getD j en0).2.2)]),.a 8,.n] (fun ix d b X=>match ix with|0|1=>True|2=>d 8=vp (pb (b 8))/\X 6=eB (pb (b 8)) 104 #[.string ByteArray.empty,vi 0,vi 0]|3=>X 7=eB (pb (b 8)) 104 #[.string ((xx.1.es.getD j en0).1),vi (((xx.1.es.getD j en0).2.1:Int)),vi ((xx.1.es.getD j en0).2.2)]|_=>True) [0,1,2,3,4,5,7] [0,1,2,3] [(8,2,1,9),(12,0,2,14)] cA ?_ ?_ ?_))))))
 exact fun ix _ _ _ _ _ _ hs hb hx h=>match ix,h with
 |2,h=>by dsimp only;rw[<-hs 8 rfl,<-hb 8 rfl,<-hx 6 rfl];exact h
 |3,h=>by dsimp only;rw[<-hb 8 rfl,<-hx 7 rfl];exact h
 |0,_|1,_|_+4,_=>trivial
 refine⟨?_,?_,?_,?_,trivial⟩
 exact xs4 rfl id fun cx=>aD (e:=104) (m:=j) (sz:=3) rfl (by kernel_rfl) (by kernel_rfl) (cx.ou 17) (cx.ou 19) (by omega) (by omega) (At.of_ownN (cx.ri 4 rfl)) (by have h_:=eH (f:=enC) (sz:=3) aH xx.1.es;show 0<(List.flatMap enC xx.1.es).length;omega)
 exact xs4 rfl id fun cx=>aY (f:=enC) (m:=j) (sz:=3) (off:=0) (n:=3) rfl (by kernel_rfl) (by kernel_rfl) (cx.an 0) rfl aH (At.of_ownN (cx.ri 4 rfl)) (ck (by omega)) (fun k hk=>match k,hk with|0,_=>rfl|1,_=>rfl|2,_=>rfl|k+3,hk=>absurd hk (by omega))
 refine svA fun g b W X cx=>?_
 exact bx (cs:=#[.string ByteArray.empty,vi 0,vi 0]) rfl (by kernel_rfl) rfl rfl (fun _ _ _ _ _=> .intro)
 refine svA fun g b W X cx=>?_
 exact ar (n:=3) rfl (dTn (cx.an 2)).1 (cx.an 1) (by kernel_rfl) (by kernel_rfl) (by kernel_rfl) cx (dTn (cx.an 2)).2 rfl (nle rfl) (by kernel_rfl) rfl rfl rfl (fun d i X' hs hb hx=>by rw[hb 8];exact hx)
 intro d b X kO hD bE fr af
 simp only[exq 7 ((dTn (hD 3 lq)))] at bE
 simp only[ed 8 ((dTn (hD 2 lq)).1)] at af
 generalize pb (b 8)=nu at bE af
 clear hD;subst af;clear d b X
 refine aa (wpIn_seq (bm [0,1,3,7,15,15,15,0,159,447,1023] [[],[6],[],[],[],[],[],[],[],[7]] [[],[],[],[],[],[],[],[7],[],[8]] [[],[],[],[],[],[],[],[],[],[7]] [.k 24 (vp nu),.c 25 (.string ((xx.1.es.getD j en0).1)),.c 26 (.tuple #[.string (qkF ((xx.1.es.getD j en0).1)),.agg #[vi (opF ((xx.1.es.getD j en0).1)),vi (osF ((xx.1.es.getD j en0).1))],.bool (decide (4<=((xx.1.es.getD j en0).1).size))]),.k 23 (.tuple #[.string (qkF ((xx.1.es.getD j en0).1)),.agg #[vi (opF ((xx.1.es.getD j en0).1)),vi (osF ((xx.1.es.getD j en0).1))],.bool (decide (4<=((xx.1.es.getD j en0).1).size))]),.k 27 (.string (qkF ((xx.1.es.getD j en0).1))),.k 28 (.agg #[vi (opF ((xx.1.es.getD j en0).1)),vi (osF ((xx.1.es.getD j en0).1))]),.k 29 (.bool (decide (4<=((xx.1.es.getD j en0).1).size))),.a 10,.k 9 (.string (qkF ((xx.1.es.getD j en0).1))),.n,.k 11 (.bool (decide (4<=((xx.1.es.getD j en0).1).size)))] (fun ix d b X=>match ix with|0|1|2|3|4|5|6=>True|7=>d 10=vp (pb (b 10))/\X 7=eB (pb (b 10)) 31 #[vi 0,vi 0]|8=>True|9=>X 8=eB (pb (b 10)) 31 #[vi (opF ((xx.1.es.getD j en0).1)),vi (osF ((xx.1.es.getD j en0).1))]|_=>True) [0,1,2,3,4,5,6,8] [1,2,7,9] [(9,8,1,10),(0,7,1,1),(0,10,1,1),(11,3,1,12),(0,0,3,3),(0,4,3,3)] bE ?_ ?_ ?_))
 exact fun ix _ _ _ _ _ _ hs hb hx h=>match ix,h with
 |7,h=>by dsimp only;rw[<-hs 10 rfl,<-hb 10 rfl,<-hx 7 rfl];exact h
 |9,h=>by dsimp only;rw[<-hb 10 rfl,<-hx 8 rfl];exact h
 |0,_|1,_|2,_|3,_|4,_|5,_|6,_|8,_|_+10,_=>trivial
 refine⟨?_,?_,?_,?_,trivial⟩
 exact xs4 rfl id fun cx=>ae rfl (by kernel_rfl) (cx.an 0) ((cx.bi 6 rfl).cell 0)
 exact xsc rfl id rfl rfl fun cx=>⟨_,nT ((xx.1.es.getD j en0).1) _ (cH hez _),(br (cx.an 1))⟩
 refine svA fun g b W X cx=>?_
 exact bx (cs:=#[vi 0,vi 0]) rfl (by kernel_rfl) rfl rfl (fun _ _ _ _ _=> .intro)
 refine svA fun g b W X cx=>?_
 exact ar (n:=2) rfl (dTn (cx.an 7)).1 (cx.an 5) (by kernel_rfl) (by kernel_rfl) (by kernel_rfl) cx (dTn (cx.an 7)).2 rfl (nle rfl) (by kernel_rfl) rfl rfl rfl (fun d i X' hs hb hx=>by rw[hb 10];exact hx)
 intro d b X iY hD bn fr af
 simp only[exq 8 ((dTn (hD 9 lq)))] at bn
 simp only[ed 10 ((dTn (hD 7 lq)).1)] at af
 generalize pb (b 10)=O6 at bn af
 clear hD;subst af;clear d b X
 refine aa (bm [0,0,2,7,0,0,32,127,255,511] [[0],[],[],[8,2],[1],[7],[],[10,3],[0],[1]] [[],[],[8],[9],[],[],[10],[11],[12],[13]] [[],[],[],[2],[],[],[],[3],[0],[1]] [.c 30 (.slice LA q lc),.k 31 (.string (qkF ((xx.1.es.getD j en0).1))),.a 32,.a 33,.c 34 (.slice QA q qc),.c 35 (.agg #[vi (opF ((xx.1.es.getD j en0).1)),vi (osF ((xx.1.es.getD j en0).1))]),.a 36,.a 37,.n,.n] (fun ix d b X=>match ix with|0|1=>True|2=>d 32= .slice (sA (b 32)) 1 1/\X 8=eO 9 1 (.slice (sA (b 32)) 1 1) 1 ([.string (qkF ((xx.1.es.getD j en0).1))])|3=>d 33= .slice (sA (b 33)) (q+1) (sC (b 33))/\X 9=eO 9 1 (.slice (sA (b 33)) (q+1) (sC (b 33))) (q+1) ((T++[(xx.1.es.getD j en0)]).map tqS)|4|5=>True|6=>d 36= .slice ((some ⟨(pb' (b 36)),0,none⟩)) 1 1/\X 10=eO 31 2 (.slice ((some ⟨(pb' (b 36)),0,none⟩)) 1 1) 1 ([vi (opF ((xx.1.es.getD j en0).1)),vi (osF ((xx.1.es.getD j en0).1))])|7=>d 37= .slice (sA (b 37)) (q+1) (sC (b 37))/\X 11=eO 31 2 (.slice (sA (b 37)) (q+1) (sC (b 37))) (q+1) ((T++[(xx.1.es.getD j en0)]).flatMap tqR)|8=>X 12=eB aW 49 #[.slice (sA (b 33)) (q+1) (sC (b 33))]|9=>X 13=eB bv 58 #[.slice (sA (b 37)) (q+1) (sC (b 37))]|_=>True) [4,5,6,7,8,9,10,11,12,13] [0,2,3,4,5,6,7,8,9] [(30,0,8,38)] bn ?_ ?_ ?_)
 exact fun ix _ _ _ _ _ _ hs hb hx h=>match ix,h with
 |2,h=>by dsimp only;rw[<-hs 32 rfl,<-hb 32 rfl,<-hx 8 rfl];exact h
 |3,h=>by dsimp only;rw[<-hs 33 rfl,<-hb 33 rfl,<-hx 9 rfl];exact h
 |6,h=>by dsimp only;rw[<-hs 36 rfl,<-hb 36 rfl,<-hx 10 rfl];exact h
 |7,h=>by dsimp only;rw[<-hs 37 rfl,<-hb 37 rfl,<-hx 11 rfl];exact h
 |8,h=>by dsimp only;rw[<-hb 33 rfl,<-hx 12 rfl];exact h
 |9,h=>by dsimp only;rw[<-hb 37 rfl,<-hx 13 rfl];exact h
 |0,_|1,_|4,_|5,_|_+10,_=>trivial
 refine⟨?_,?_,?_,?_,?_,?_,?_,?_,?_,trivial⟩
 exact xs4 rfl id fun cx=>ae rfl (by kernel_rfl) (cx.ou 4) ((cx.bi 0 rfl).cell 0)
 refine svA fun g b W X cx=>?_
 have Ef:g (.tmp 31)= .string (qkF ((xx.1.es.getD j en0).1)):=(cx.an 1)
 exact bY (e:=9) (xs:=[.string (qkF ((xx.1.es.getD j en0).1))]) rfl (by simp[go_sem,Ef]) rfl (by decide) rfl rfl (fun _ _ _ _ _=> .intro)
 refine svA fun g b W X cx=>?_
 obtain⟨i0,hi0,hz0,hz1,hz2⟩:=info_parts Try.infoStr
 refine cP (n:=q) (m:=1) (nm:=q+1) (xs:=T.map tqS) (news:=[.string (qkF ((xx.1.es.getD j en0).1))]) (xs':=(T++[(xx.1.es.getD j en0)]).map tqS) rfl (ty:=49) rfl (by kernel_rfl) hi0 hz0 hz1 hz2 rfl (cx.an 0) cx (cx.init 2 _ rfl) rfl (dTn (cx.an 2)).1 (by rfl) (At.of_own (cx.row (dTn (cx.an 2)).2 rfl)) (by simp[Value.oneCell']) (by simp only[maxLen];omega) (by omega) rfl rfl rfl (by omega) (v6 _ _) (fun d i X' hs hb hv hx=>?_)
 exact⟨hv,hx⟩
 exact xs4 rfl id fun cx=>ae rfl (by kernel_rfl) (cx.ou 5) ((cx.bi 1 rfl).cell 0)
 exact xs4 rfl id fun cx=>aO (n:=2) rfl (by kernel_rfl) (by kernel_rfl) (cx.ou 10) (cx.bi 7 rfl) (nle rfl) rfl
 refine svA fun g b W X cx=>?_
 have Ns:g (.tmp 35)= .agg #[vi (opF ((xx.1.es.getD j en0).1)),vi (osF ((xx.1.es.getD j en0).1))]:=(cx.an 5)
 exact bS (e:=31) (sz:=2) (xs:=[vi (opF ((xx.1.es.getD j en0).1)),vi (osF ((xx.1.es.getD j en0).1))]) rfl (by simp[go_sem,Ns]) rfl (by decide) rfl rfl (fun _ _ _ _ _=> .intro)
 refine svA fun g b W X cx=>?_
 obtain⟨i0,hi0,hz0,hz1,hz2⟩:=info_parts Try.infoTid
 refine bL (n:=q) (m:=1) (nm:=q+1) (sz:=2) (xs:=T.flatMap tqR) (news:=[vi (opF ((xx.1.es.getD j en0).1)),vi (osF ((xx.1.es.getD j en0).1))]) (xs':=(T++[(xx.1.es.getD j en0)]).flatMap tqR) rfl (ty:=58) rfl (by kernel_rfl) hi0 hz0 hz1 hz2 rfl (by decide) (cx.an 4) cx (cx.init 3 _ rfl) rfl (dTn (cx.an 6)).1 (by rfl) (At.of_ownN (cx.row (dTn (cx.an 6)).2 rfl)) (by simp[Value.oneCell']) (by simp only[maxLen];omega) (by omega) rfl rfl rfl (by omega) (vW _ _) (fun d i X' hs hb hv hx=>?_)
 exact⟨hv,hx⟩
 refine svA fun g b W X cx=>?_
 exact ar (n:=1) rfl (cx.ou 4) (dTn (cx.an 3)).1 (by kernel_rfl) (by kernel_rfl) (by kernel_rfl) cx (cx.init 0 _ rfl) rfl (nle rfl) (by kernel_rfl) rfl rfl rfl (fun d i X' hs hb hx=>by rw[hb 33];exact hx)
 refine svA fun g b W X cx=>?_
 exact ar (n:=1) rfl (cx.ou 5) (dTn (cx.an 7)).1 (by kernel_rfl) (by kernel_rfl) (by kernel_rfl) cx (cx.init 1 _ rfl) rfl (nle rfl) (by kernel_rfl) rfl rfl rfl (fun d i X' hs hb hx=>by rw[hb 37];exact hx)
 intro d b X ow hD cj fr af
 simp only[exq 8 ((dTn (hD 2 lq)).2),exq 9 ((dTn (hD 3 lq)).2),exq 10 ((dTn (hD 6 lq)).2),exq 11 ((dTn (hD 7 lq)).2),exq 12 ((dTn (hD 8 lq))),exq 13 ((dTn (hD 9 lq)))] at cj
 simp only[ed 32 ((dTn (hD 2 lq)).1),ed 33 ((dTn (hD 3 lq)).1),ed 36 ((dTn (hD 6 lq)).1),ed 37 ((dTn (hD 7 lq)).1)] at af
 generalize sA (b 32)=O7,sA (b 33)=JX,sC (b 33)=JY,pb' (b 36)=O8,sA (b 37)=JZ,sC (b 37)=J0 at cj af
 clear hD;subst af;clear d b X
 refine aw (aa (ny [0,1] [tI 38 ((j:Int)+1) (by omega),.k 19 (vi ((j:Int)+1))] [(19,1,1,20),(18,0,1,19)] cj fun ov bP=>?_))
 refine aa ?_
 refine⟨xx.1.es.length-((j+1)),by omega,?_⟩
 exact⟨(j+1),(q+1),(T++[(xx.1.es.getD j en0)]),JX,JY,JZ,J0,by omega,by rw[hT,n9 (by omega),List.append_assoc],by rw[List.length_append,hTl];rfl,by omega,rfl,(by kernel_rfl),bP.pk [8,9,5,7,0,1]⟩
 have pm:¬((j:Int)<(xx.1.es.length:Int)):=by simpa using lY
 refine wpIn_cond_false (show Act.eval _ _= .bool false from(congrArg Value.bool lY)) (wpIn_exit (am (am (bj (aw ?_)))))
 have hfin_:T=esY (pre++[xx]):=by rw[hT,CY,List.take_of_length_le (by omega)]
 rw[hfin_] at cA hTl
 exact⟨true,.inl ⟨rfl,rfl⟩,_,⟨q,LA,lc,QA,qc,hTl.symm,by rw[List.length_append];show q<=100*(pre.length+1);omega,rfl⟩,cA.pick [0,1,2,3,4] (by decide) rfl⟩
 rintro D5 xn L5 XS_ E_ ⟨m,KA,kc,RA,rc,hm,hmb,rfl⟩ hZ_ iW
 have nt:St w [] [eB aW 49 #[.slice KA m kc],eB bv 58 #[.slice RA m rc],eO 9 1 (.slice KA m kc) m ((esY XS_).map tqS),eO 31 2 (.slice RA m rc) m ((esY XS_).flatMap tqR),E_,fu D5] xn:=iW
 clear iW
 refine aw (aa (wp_seq (aj [0,0,1,7] [[0],[1],[0],[1]] [[],[],[6],[7]] [[],[],[0],[1]] [.c 39 (.slice KA m kc),.c 40 (.slice RA m rc),.n,.n] (fun ix d b X=>match ix with|0|1=>True|2=>X 6=eB aW 49 #[.slice KA m kc]|3=>X 7=eB bv 58 #[.slice RA m rc]|_=>True) [2,3,4,5,6,7] [0,1,2,3] [(39,0,2,41)] nt ?_ ?_ ?_)))
 exact fun ix _ _ _ _ _ _ hs hb hx h=>match ix,h with
 |2,h=>by dsimp only;rw[<-hx 6 rfl];exact h
 |3,h=>by dsimp only;rw[<-hx 7 rfl];exact h
 |0,_|1,_|_+4,_=>trivial
 refine⟨?_,?_,?_,?_,trivial⟩
 exact xs4 rfl id fun cx=>ae rfl (by kernel_rfl) (cx.ou 4) ((cx.bi 0 rfl).cell 0)
 exact xs4 rfl id fun cx=>ae rfl (by kernel_rfl) (cx.ou 5) ((cx.bi 1 rfl).cell 0)
 refine svA fun g b W X cx=>?_
 exact ar (n:=1) rfl (cx.ou 4) (cx.an 0) (by kernel_rfl) (by kernel_rfl) (by kernel_rfl) cx (cx.init 0 _ rfl) rfl (nle rfl) (by kernel_rfl) rfl rfl rfl (fun _ _ _ _ _=>id)
 refine svA fun g b W X cx=>?_
 exact ar (n:=1) rfl (cx.ou 5) (cx.an 1) (by kernel_rfl) (by kernel_rfl) (by kernel_rfl) cx (cx.init 1 _ rfl) rfl (nle rfl) (by kernel_rfl) rfl rfl rfl (fun _ _ _ _ _=>id)
 intro d b X um hD ca fr af
 simp only[exq 6 ((dTn (hD 2 lq))),exq 7 ((dTn (hD 3 lq)))] at ca
 clear hD;subst af;clear d b X
 refine aa (wp_ret ?_)
 refine kH (L:=[eO 9 1 (.slice KA m kc) m ((esY XS_).map tqS),eO 31 2 (.slice RA m rc) m ((esY XS_).flatMap tqR),E_,eB aW 49 #[.slice KA m kc],eB bv 58 #[.slice RA m rc]]) (ca.pick [0,1,2,4,5,3] (by decide) rfl) fun Wt18 ht18=>?_
 refine⟨.tuple #[.slice KA m kc,.slice RA m rc],(cq Try.results42 (rpc (ht18.blk 3 rfl) 0) (rpc (ht18.blk 4 rfl) 0)),?_⟩
 exact Gv (hZ_.2.1 rfl) hm (ht18.pick [0,1] (by decide) rfl)
 exact fun D W L xs E h=>h.elim
end
section
open Go.RowKit
theorem lh:∀{a b c:List UInt8},Op.bytesLess a b=true->Op.bytesLess b c=true->Op.bytesLess a c=true
 | [],[],_,h,_=>by simp[Op.bytesLess] at h
 | [],_:: _,[],_,h=>by simp[Op.bytesLess] at h
 | [],_:: _,_:: _,_,_=>by simp[Op.bytesLess]
 |_:: _,[],_,h,_=>by simp[Op.bytesLess] at h
 |_:: _,_:: _,[],_,h=>by simp[Op.bytesLess] at h
 |x::a,y::b,z::c,h1,h2=>by
  simp only[Op.bytesLess,Bool.or_eq_true,Bool.and_eq_true,decide_eq_true_eq,beq_iff_eq] at h1 h2 |-
  rcases h1 with h1|⟨rfl,h1⟩
  rcases h2 with h2|⟨rfl,h2⟩
  exact .inl (UInt8.lt_trans h1 h2)
  exact .inl h1
  rcases h2 with h2|⟨rfl,h2⟩
  exact .inl h2
  exact .inr ⟨rfl,lh h1 h2⟩
theorem Au{a b c:ByteArray}(h1:ltB a b=true)(h2:ltB b c=true):ltB a c=true:=lh h1 h2
theorem Bd(a b:ByteArray):ag a b=true<->ltB (okF a) (okF b)=true\/(okF a=okF b/\(opF a<opF b\/(opF a=opF b/\osF a<osF b))):=by
 rw[li]
 by_cases hk:okF a=okF b
 rw[if_neg (by simp[hk])]
 by_cases hp:opF a=opF b
 rw[if_neg (by simp[hp]),hk,mp]
 simp[hp]
 rw[if_pos hp,hk,mp]
 simp[hp]
 rw[if_pos hk]
 simp[hk]
theorem dA{a b c:ByteArray}(h1:ag a b=true)(h2:ag b c=true):ag a c=true:=by
 rw[Bd] at h1 h2 |-
 rcases h1 with h1|⟨k1,h1⟩
 rcases h2 with h2|⟨k2,h2⟩
 exact .inl (Au h1 h2)
 exact .inl (k2 ▸ h1)
 rcases h2 with h2|⟨k2,h2⟩
 exact .inl (k1 ▸ h2)
 refine .inr ⟨k1.trans k2,?_⟩
 omega
theorem xN{a b c:ByteArray}(ha:4<=a.size)(hb:4<=b.size)(h1:ag b a=false)(h2:ag b c=true):ag a c=true:=by
 cases h3:ag a b with
 |true=>exact dA h3 h2
 |false=>rw[jw ha hb h3 h1];exact h2
theorem gY{a b c:ByteArray}(hb:4<=b.size)(hc:4<=c.size)(h1:ag a b=true)(h2:ag c b=false):ag a c=true:=by
 cases h3:ag b c with
 |true=>exact dA h1 h3
 |false=>rw[<-jw hb hc h3 h2];exact h1
theorem jy{a b c:ByteArray}(ha:4<=a.size)(hb:4<=b.size)(h1:ag b a=false)(h2:ag c b=false):ag c a=false:=by
 cases h3:ag c a with
 |false=>rfl
 |true=>
  cases h4:ag a b with
  |true=>rw[dA h3 h4] at h2;exact h2
  |false=>rw[jw ha hb h4 h1] at h3;rw[h3] at h2;exact h2
theorem qM{x:ByteArray}{d:Int}(hd:0<=d):∀{l:List EnD},(∀e∈l,ag x e.1=true)->cl x l d=d
 | [],_=>rfl
 |e::l,h=>by
  rw[cl,if_neg (by rw[h e (by simp)];simp;omega)]
  exact qM hd (fun y hy=>h y (by simp[hy]))
theorem ua{x:ByteArray}{e:EnD}{l2:List EnD}(hk:0<=e.2.2)(he:ag x e.1=false)(h2:∀y∈l2,ag x y.1=true):∀{l1:List EnD}{d:Int},cl x (l1++e::l2) d=e.2.2
 | [],d=>by
   rw[List.nil_append,cl,if_pos (.inr he)]
   exact qM hk h2
 |y::l1,d=>by
  rw[List.cons_append,cl]
  exact ua hk he h2
theorem lg(y:ByteArray)(l:List ByteArray)(k:Nat)(x:ByteArray):bz (y::l) (k+1) x=y::bz l k x:=by
 rw[bz,bz,List.length_cons,Nat.add_sub_add_right,List.cons_append,List.set_cons_succ]
theorem tR(y:ByteArray)(l:List ByteArray)(x:ByteArray):bz (y::l) 0 x=x::l:=by
 rw[bz,List.length_cons,show 0+1-(l.length+1)=0 by omega,List.replicate_zero,List.append_nil];rfl
theorem C5(k:Nat)(x:ByteArray):bz [] (k+1) x=ByteArray.empty::bz [] k x:=by
 rw[bz,bz];rfl
theorem jM{i:Nat}{x:ByteArray}{l:List ByteArray}(h:x.size=0):bp i (x::l)=bp (i+1) l:=by rw[bp,if_pos h]
theorem kp{i:Nat}{x:ByteArray}{l:List ByteArray}(h:x.size≠0):bp i (x::l)=(i,x)::bp (i+1) l:=by rw[bp,if_neg h]
theorem jf{x:ByteArray}(hx:x.size≠0):∀(l:List ByteArray) (k i:Nat),(l.getD k ByteArray.empty).size=0->(bp i (bz l k x)).Perm ((i+k,x)::bp i l)
 | [],0,i,_=>by
   rw[show bz [] 0 x=[x] from rfl,kp hx];exact List.Perm.refl _
 | [],k+1,i,_=>by
   rw[C5,jM rfl,show i+(k+1)=(i+1)+k by omega]
   exact jf hx [] k (i+1) rfl
 |y::l,0,i,h=>by
  rw[tR,kp hx,jM (x:=y) h];exact List.Perm.refl _
 |y::l,k+1,i,h=>by
  rw[List.getD_cons_succ] at h
  rw[lg,show i+(k+1)=(i+1)+k by omega]
  by_cases hy:y.size=0
  rw[jM hy,jM hy];exact jf hx l k (i+1) h
  ·rw[kp hy,kp hy]
   exact((jf hx l k (i+1) h).cons _).trans (List.Perm.swap _ _ _)
theorem AW{l:List ByteArray}{k:Nat}{y x:ByteArray}(h:l[k]? =some y):bz (bz l k x) k y=l:=by
 obtain⟨hk,rfl⟩:=List.getElem?_eq_some_iff.1 h
 have e:∀z,bz l k z=l.set k z:=fun z=>by rw[bz,show k+1-l.length=0 by omega,List.replicate_zero,List.append_nil]
 rw[e,bz,List.length_set,show k+1-l.length=0 by omega,List.replicate_zero,List.append_nil,List.set_set]
 exact List.set_getElem_self hk
theorem pY(l:List ByteArray)(k:Nat)(x:ByteArray):(bz l k x).getD k ByteArray.empty=x:=by
 rw[bz,List.getD_eq_getElem?_getD,List.getElem?_set_self (sR l k)];rfl
theorem C7{l:List ByteArray}{k i:Nat}{y:ByteArray}(h:l[k]? =some y)(hy:y.size≠0):(bp i l).Perm ((i+k,y)::bp i (bz l k ByteArray.empty)):=by
 have h1:=jf hy (bz l k ByteArray.empty) k i (by rw[pY];rfl)
 rwa [AW h] at h1
theorem t6(x:EnD):∀l,(gP x l).Perm (x::l)
 | []=>List.Perm.refl _
 |y::l=>by
  rw[gP]
  split
  ·exact((t6 x l).cons y).trans (List.Perm.swap _ _ _)
  exact List.Perm.refl _
theorem q8:∀l,(cW l).Perm l
 | []=>List.Perm.refl _
 |x::l=>(t6 x (cW l)).trans ((q8 l).cons x)
theorem fC(lv:Int)(l:List (Nat×ByteArray)):(srt lv l).Perm (l.map (cc lv)):=by
 rw[srt]
 exact(List.reverse_perm _).trans ((q8 _).trans (List.reverse_perm _))
theorem pC{x:EnD}:∀{l:List EnD},(∀e∈l,4<=e.1.size)->l.Pairwise (fun a b=>ag a.1 b.1=false)->(gP x l).Pairwise (fun a b=>ag a.1 b.1=false)
 | [],_,_=>List.pairwise_singleton _ _
 |y::l,h4,hp=>by
  obtain⟨h1,h2⟩:=List.pairwise_cons.1 hp
  rw[gP]
  split
  rename_i hx
  refine List.pairwise_cons.2 ⟨fun z hz=>?_,pC (fun e he=>h4 e (by simp[he])) h2⟩
  rcases p6 hz with rfl|hz
  exact iP hx
  exact h1 z hz
  rename_i hx
  have hx:ag x.1 y.1=false:=by simpa using hx
  refine List.pairwise_cons.2 ⟨fun z hz=>?_,hp⟩
  rcases List.mem_cons.1 hz with rfl|hz
  exact hx
  exact jy (h4 z (by simp[hz])) (h4 y (by simp)) (h1 z hz) hx
theorem nO:∀{l:List EnD},(∀e∈l,4<=e.1.size)->(cW l).Pairwise (fun a b=>ag a.1 b.1=false)
 | [],_=>List.Pairwise.nil
 |x::l,h4=>pC (fun e he=>h4 e (by simp[jN he])) (nO fun e he=>h4 e (by simp[he]))
theorem zl{lv:Int}{l:List (Nat×ByteArray)}(h4:∀e∈l.map (cc lv),4<=e.1.size):(srt lv l).Pairwise (fun a b=>ag b.1 a.1=false):=by
 rw[srt,List.pairwise_reverse]
 exact nO fun e he=>h4 e (List.mem_reverse.1 he)
theorem lO{k:Int}{its:List ByteArray}{n:NoD}(h:cf k its=some n):n.es.Pairwise (fun a b=>ag b.1 a.1=false)/\∀e∈n.es,4<=e.1.size:=by
 have h0:=h
 unfold cf at h
 split at h
 cases h
 split at h
 cases h
 rename_i x l
 split at h
 cases h
 split at h
 cases h
 rename_i hb
 injection h with h
 subst h
 have h4:∀e∈(bp 1 l).map (cc (aI x 0 1)),4<=e.1.size:=fun e he=>by
  obtain⟨p,hp,rfl⟩:=List.mem_map.1 he
  have hbp:cv (aI x 0 1) p=false:=by
   cases hq:cv (aI x 0 1) p with
   |false=>rfl
   |true=>exact absurd (List.any_eq_true.2 ⟨p,hp,hq⟩) hb
  unfold cv at hbp
  unfold cc
  split at hbp
  rw[if_pos (by assumption)]
  have:=of_decide_eq_false hbp
  show 4<=(p.2.extract 0 (p.2.size-2)).size
  rw[ByteArray.size_extract];omega
  rw[if_neg (by assumption)]
  have:=of_decide_eq_false hbp
  show 4<=p.2.size
  omega
 refine⟨zl h4,fun e he=>h4 e ?_⟩
 exact(fC _ _).mem_iff.1 he
theorem rB(lv kid:Int)(x:ByteArray):(itB lv kid x).size=x.size+(if 0<lv then 2 else 0):=by
 unfold itB;split
 rw[ByteArray.size_append,bf]
 rfl
theorem pV{lv kid:Int}{x:ByteArray}{k:Nat}(hk:0<lv->0<=kid/\kid<65536):cc lv (k,itB lv kid x)=(x,k,if 0<lv then kid else -1):=by
 unfold cc itB
 by_cases h:0<lv
 simp only[if_pos h]
 have e1:(x++aQ kid).extract 0 ((x++aQ kid).size-2)=x:=by
  apply eP
  rw[dc,ByteArray.size_append,bf,List.drop_zero,Nat.sub_zero,Nat.add_sub_cancel,cQ,<-cF,List.take_left']
  rfl
 have e0:(aI (x++aQ kid) x.size 2:Int)=kid % 65536:=by
  rw[<-mV]
  congr 1
  exact kj (a:=bl x) (b:=bl (aQ kid)) (c:=[]) (by rw[cQ,List.append_nil]) (cF _) (jx _)
 have e2:(aI (x++aQ kid) ((x++aQ kid).size-2) 2:Int)=kid:=by
  rw[ByteArray.size_append,bf,Nat.add_sub_cancel,e0];have:=hk h;omega
 rw[e1,e2]
 simp only[if_neg h]
theorem qe{lv kid:Int}{x:ByteArray}{k:Nat}(h4:4<=x.size):cv lv (k,itB lv kid x)=false:=by
 have:=rB lv kid x
 unfold cv
 by_cases h:0<lv
 rw[if_pos h] at this |-;exact decide_eq_false (by dsimp only;omega)
 rw[if_neg h] at this |-;exact decide_eq_false (by dsimp only;omega)
theorem vb{kd:Int}{its:List ByteArray}{n:NoD}{s:Nat}{kid:Int}{x:ByteArray}(h:cf kd its=some n)(hs:(its.getD (s+1) ByteArray.empty).size=0)(hk:0<n.lv->0<=kid/\kid<65536)(h4:4<=x.size):
  ∃n',cf kd (bz its (s+1) (itB n.lv kid x))=some n'/\n'.lv=n.lv/\n'.right=n.right/\n'.high=n.high/\n'.dead=n.dead/\n'.es.Perm ((x,s+1,if 0<n.lv then kid else -1)::n.es):=by
 obtain⟨y,l,rfl,rfl,hok,rfl⟩:=ee h
 have hz:(itB (aI y 0 1) kid x).size≠0:=by have:=rB (aI y 0 1) kid x;omega
 rw[List.getD_cons_succ] at hs
 have hp:=jf hz l s 1 hs
 have hbad:(bp 1 l).any (cv (aI y 0 1))=false:=by
  cases hb:(bp 1 l).any (cv (aI y 0 1)) with
  |false=>rfl
  |true=>simp[cf,hok,hb] at h
 have hbad2:(bp 1 (bz l s (itB (aI y 0 1) kid x))).any (cv (aI y 0 1))=false:=by
  rw[List.any_eq_false] at hbad |-
  intro p hpm
  rcases List.mem_cons.1 (hp.mem_iff.1 hpm) with rfl|hm
  rw[qe h4];decide
  exact hbad p hm
 dsimp only
 rw[lg,gn hok hbad2]
 refine⟨_,rfl,rfl,rfl,rfl,rfl,?_⟩
 show (srt _ _).Perm (_::srt _ _)
 refine(fC _ _).trans (((hp.map (cc (aI y 0 1))).trans ?_).trans ((fC _ _).symm.cons _))
 rw[List.map_cons,pV hk,Nat.add_comm 1 s]
theorem vo{kd:Int}{its:List ByteArray}{n:NoD}{e:EnD}(h:cf kd its=some n)(he:e∈n.es):
  ∃n',cf kd (bz its e.2.1 ByteArray.empty)=some n'/\n'.lv=n.lv/\n'.right=n.right/\n'.high=n.high/\n'.dead=n.dead/\n.es.Perm (e::n'.es):=by
 obtain⟨y,l,rfl,rfl,hok,rfl⟩:=ee h
 have hm:∃p∈bp 1 l,e=cc (aI y 0 1) p:=by
  obtain⟨p,hp,rfl⟩:=List.mem_map.1 ((fC _ _).mem_iff.1 he)
  exact⟨p,hp,rfl⟩
 obtain⟨⟨s,z⟩,hpz,rfl⟩:=hm
 obtain⟨iX,hg,hz⟩:=sH hpz
 have hsl:(cc (aI y 0 1) (s,z)).2.1=s:=by unfold cc;split<;>rfl
 obtain⟨t,rfl⟩:∃t,s=t+1:=⟨s-1,by omega⟩
 rw[Nat.add_sub_cancel] at hg
 have hp:=C7 (i:=1) hg hz
 have hbad:(bp 1 l).any (cv (aI y 0 1))=false:=by
  cases hb:(bp 1 l).any (cv (aI y 0 1)) with
  |false=>rfl
  |true=>simp[cf,hok,hb] at h
 have hbad2:(bp 1 (bz l t ByteArray.empty)).any (cv (aI y 0 1))=false:=by
  rw[List.any_eq_false] at hbad |-
  intro p hpm
  exact hbad p (hp.mem_iff.2 (List.mem_cons_of_mem _ hpm))
 rw[hsl,lg,gn hok hbad2]
 refine⟨_,rfl,rfl,rfl,rfl,rfl,?_⟩
 show (srt _ _).Perm (_::srt _ _)
 refine(fC _ _).trans ((hp.map (cc (aI y 0 1))).trans ?_)
 rw[List.map_cons,Nat.add_comm 1 t]
 exact(fC _ _).symm.cons _
theorem Bx(a b:Int):bl (strOfNums [a,b])=bl (strOfNums [a])++bl (strOfNums [b]):=rfl
theorem vh{lv rt:Int}{d:Bool}{hi:ByteArray}(h:0<=lv/\lv<=255):(aI (hdB lv rt d hi) 0 1:Int)=lv:=by
 rw[kj (s:=hdB lv rt d hi) (p:=0) (k:=1) (a:=[]) (b:=bl (strOfNums [lv])) (c:=bl (strOfNums [if d then 1 else 0])++bl (aQ (rt+1))++bl hi) (by rw[hdB,cQ,cQ,Bx];simp) rfl (by rw[cF,strOfNums_size];rfl)]
 obtain⟨m,rfl⟩:=Int.eq_ofNat_of_zero_le h.1
 simp[strOfNums,bl,de]
 omega
theorem uA{lv rt:Int}{d:Bool}{hi:ByteArray}:aI (hdB lv rt d hi) 1 1=if d then 1 else 0:=by
 rw[kj (s:=hdB lv rt d hi) (a:=bl (strOfNums [lv])) (b:=bl (strOfNums [if d then 1 else 0])) (c:=bl (aQ (rt+1))++bl hi) (by rw[hdB,cQ,cQ,Bx];simp) (by rw[cF,strOfNums_size];rfl) (by rw[cF,strOfNums_size];rfl)]
 cases d<;>rfl
theorem wn{lv rt:Int}{d:Bool}{hi:ByteArray}(h: -1<=rt/\rt<=65534):(aI (hdB lv rt d hi) 2 2:Int)-1=rt:=by
 rw[kj (s:=hdB lv rt d hi) (a:=bl (strOfNums [lv,if d then 1 else 0])) (b:=bl (aQ (rt+1))) (c:=bl hi) (by rw[hdB,cQ,cQ,List.append_assoc]) (by rw[cF,cT]) (jx _),mV]
 omega
theorem u6(lv rt:Int)(d:Bool)(hi:ByteArray):(hdB lv rt d hi).extract 4 (hdB lv rt d hi).size=hi:=by
 apply eP
 rw[dc,fB,Nat.add_sub_cancel,hdB,cQ]
 rw[List.drop_left' (by rw[cF,ByteArray.size_append,cT,bf]),List.take_of_length_le (by rw[cF];exact Nat.le_refl _)]
theorem wv{lv rt:Int}{d:Bool}{hi:ByteArray}(h:hi.size=0\/4<=hi.size):iF (hdB lv rt d hi)=true:=by
 have h1:aI (hdB lv rt d hi) 1 1<=1:=by rw[uA];cases d<;>decide
 rw[iF,fB,decide_eq_true h1,decide_eq_true (show 4<=hi.size+4 by omega)]
 rcases h with h|h
 rw[decide_eq_true (show hi.size+4<=4 by omega)];rfl
 rw[decide_eq_true (show 8<=hi.size+4 by omega),Bool.or_true];rfl
theorem z6{kd:Int}{its:List ByteArray}{n:NoD}{rt:Int}{d:Bool}{hi:ByteArray}(h:cf kd its=some n)(hlv:n.lv<=255)(hrt: -1<=rt/\rt<=65534)(hhi:hi.size=0\/4<=hi.size):cf kd (bz its 0 (hdB n.lv rt d hi))=some ⟨n.lv,rt,hi,d,n.es,n.free⟩:=by
 obtain⟨y,l,rfl,rfl,hok,rfl⟩:=ee h
 have hbad:(bp 1 l).any (cv (aI y 0 1))=false:=by
  cases hb:(bp 1 l).any (cv (aI y 0 1)) with
  |false=>rfl
  |true=>simp[cf,hok,hb] at h
 dsimp only at hlv |-
 have e1:=vh (lv:=(aI y 0 1:Int)) (rt:=rt) (d:=d) (hi:=hi) ⟨by omega,hlv⟩
 rw[tR,gn (wv hhi) (by rw[e1];exact hbad),e1,wn hrt,u6,uA]
 cases d<;>rfl
theorem CV(l:List ByteArray)(x:ByteArray):bz l l.length x=l++[x]:=by
 rw[bz,show l.length+1-l.length=1 by omega,List.set_append_right _ _ (Nat.le_refl _),Nat.sub_self];rfl
def itI(lv:Int)(es:List EnD):List ByteArray:=es.map fun e=>itB lv e.2.2 e.1
theorem vD{lv:Int}{i:Nat}:∀{es:List EnD}{k:Nat}{ps:List PgS}{L:List ByteArray},ps.getD i aP=(2,0,L)->L.length=k->k+es.length<=101->i<ps.length->(doB ps (dC (i:Int) lv k es)).getD i aP=(2,0,L++itI lv es)
 | [],k,ps,L,h,_,_,_=>by rw[itI,List.map_nil,List.append_nil];exact h
 |e::es,k,ps,L,h,hk,hl,hi=>by
  rw[List.length_cons] at hl
  have h1:(bK ps ((i:Int),(k:Int),itB lv e.2.2 e.1)).getD i aP=(2,0,L++[itB lv e.2.2 e.1]):=by
   rw[jQ (decide_eq_true (by dsimp only;omega)) rfl,h,edP,if_neg (by dsimp only;omega)]
   dsimp only
   rw[Int.toNat_natCast,<-hk,CV]
  have h2:=vD (lv:=lv) (es:=es) (k:=k+1) h1 (by rw[List.length_append,hk];rfl) (by omega) (by rw[gr];exact hi)
  rw[dC]
  show (doB (bK ps _) _).getD i aP= _
  rw[h2,List.append_assoc];rfl
theorem zi{lv rt:Int}{hi:ByteArray}{es:List EnD}{ps:List PgS}{i:Nat}(h:i<ps.length)(hl:es.length<=100):(doB ps (aE (i:Int) lv rt hi es)).getD i aP=(2,0,hdB lv rt false hi::itI lv es):=by
 rw[aE,dx]
 have h1:(bK ps ((i:Int),-1,strOfNums [2])).getD i aP=(2,0,[]):=by
  rw[jQ (decide_eq_true (by dsimp only;omega)) rfl];rfl
 have h2:(bK (bK ps ((i:Int),-1,strOfNums [2])) ((i:Int),0,hdB lv rt false hi)).getD i aP=(2,0,[hdB lv rt false hi]):=by
  rw[jQ (decide_eq_true (by rw[gr];dsimp only;omega)) rfl,h1];rfl
 exact vD h2 rfl (by omega) (by rw[gr,gr];exact h)
def oo(lv:Int):Nat->List EnD->List EnD
 |_,[]=>[]
 |k,e::l=>(e.1,k,if 0<lv then e.2.2 else -1)::oo lv (k+1) l
theorem u7{lv:Int}:∀{es:List EnD}{k:Nat},(∀e∈es,4<=e.1.size/\(0<lv->0<=e.2.2/\e.2.2<65536))->(bp k (itI lv es)).map (cc lv)=oo lv k es/\(bp k (itI lv es)).any (cv lv)=false
 | [],_,_=>⟨rfl,rfl⟩
 |e::es,k,h=>by
  have he:=h e (by simp)
  have hz:(itB lv e.2.2 e.1).size≠0:=by have:=rB lv e.2.2 e.1;omega
  obtain⟨h1,h2⟩:=u7 (es:=es) (k:=k+1) (fun y hy=>h y (by simp[hy]))
  rw[show itI lv (e::es)=itB lv e.2.2 e.1::itI lv es from rfl,kp hz,List.map_cons,List.any_cons,pV he.2,qe he.1,h1,h2]
  exact⟨rfl,rfl⟩
theorem y4{lv rt:Int}{hi:ByteArray}{es:List EnD}(hlv:0<=lv/\lv<=255)(hrt: -1<=rt/\rt<=65534)(hhi:hi.size=0\/4<=hi.size)(h:∀e∈es,4<=e.1.size/\(0<lv->0<=e.2.2/\e.2.2<65536)):
  ∃n,cf 2 (hdB lv rt false hi::itI lv es)=some n/\n.lv=lv/\n.right=rt/\n.high=hi/\n.dead=false/\n.es.Perm (oo lv 1 es):=by
 obtain⟨h1,h2⟩:=u7 (k:=1) h
 have e1:=vh (rt:=rt) (d:=false) (hi:=hi) hlv
 rw[gn (wv hhi) (by rw[e1];exact h2)]
 refine⟨_,rfl,e1,wn hrt,u6 _ _ _ _,by dsimp only;rw[uA];rfl,?_⟩
 dsimp only
 rw[e1,<-h1]
 exact fC _ _
end
section
open Go.RowKit
def kv(e:EnD):ByteArray×Int:=(e.1,e.2.2)
def uC(a b:NoD):Prop:=a.lv=b.lv/\a.right=b.right/\a.high=b.high/\a.dead=b.dead
theorem e9{ps:List PgS}{x:Int}{n:NoD}(h:ao ps x=some n):0<=x/\x<ps.length/\cf (ps.getD x.toNat aP).1 (ps.getD x.toNat aP).2.2=some n:=by
 unfold ao at h
 split at h
 rename_i hx;exact⟨hx.1,hx.2,h⟩
 cases h
theorem oX{ps:List PgS}{x:Int}{n:NoD}(h0:0<=x)(h1:x<ps.length)(h:cf (ps.getD x.toNat aP).1 (ps.getD x.toNat aP).2.2=some n):ao ps x=some n:=by rw[ao,if_pos ⟨h0,h1⟩];exact h
theorem bU{ps:List PgS}{L:List EdT}{x:Int}(h:∀e∈L,e.1≠x):ao (doB ps L) x=ao ps x:=by
 by_cases hx:0<=x
 unfold ao
 rw[b5,iA fun e he=>by have:=h e he;omega]
 unfold ao;rw[if_neg (by omega),if_neg (by omega)]
theorem ed1{ps:List PgS}{x s:Int}{y:ByteArray}(h0:0<=x)(h1:x<ps.length)(h2:0<=s)(h3:s<=100):(bK ps (x,s,y)).getD x.toNat aP=((ps.getD x.toNat aP).1,(ps.getD x.toNat aP).2.1,bz (ps.getD x.toNat aP).2.2 s.toNat y):=by
 rw[jQ (decide_eq_true (by dsimp only;omega)) (by dsimp only;omega),edP,if_neg (by dsimp only;omega)]
theorem ru:∀(l:List ByteArray) (i d:Nat),d=i+l.length->i<=cm i l d/\(l.getD (cm i l d-i) ByteArray.empty).size=0/\cm i l d<=i+l.countP nz
 | [],i,d,h=>by
   rw[cm,h]
   exact⟨Nat.le_add_right _ _,rfl,Nat.le_refl _⟩
 |x::l,i,d,h=>by
  rw[cm]
  by_cases hx:x.size=0
  rw[if_pos hx]
  exact⟨Nat.le_refl _,by rw[Nat.sub_self];exact hx,Nat.le_add_right _ _⟩
  rw[if_neg hx]
  obtain⟨h1,h2,h3⟩:=ru l (i+1) d (by rw[h,List.length_cons];omega)
  refine⟨by omega,?_,?_⟩
  rw[show cm (i+1) l d-i=(cm (i+1) l d-(i+1))+1 by omega,List.getD_cons_succ];exact h2
  rw[List.countP_cons_of_pos (by simp[nz,hx])];omega
theorem Gn{k:Int}{its:List ByteArray}{n:NoD}(h:cf k its=some n):∃s,n.free=s+1/\(its.getD (s+1) ByteArray.empty).size=0/\s<=n.es.length:=by
 obtain⟨y,l,rfl,rfl,hok,rfl⟩:=ee h
 obtain⟨h1,h2,h3⟩:=ru l 1 (l.length+1) (by omega)
 refine⟨cm 1 l (l.length+1)-1,by dsimp only;omega,?_,?_⟩
 rw[List.getD_cons_succ];exact h2
 dsimp only
 rw[mi,ku];omega
theorem qW{k:Int}{its:List ByteArray}{n:NoD}(h:cf k its=some n):(0<=n.lv/\n.lv<=255)/\(-1<=n.right/\n.right<=65534)/\(n.high.size=0\/4<=n.high.size)/\∀e∈n.es,(0<n.lv->0<=e.2.2/\e.2.2<65536)/\(¬ 0<n.lv->e.2.2= -1):=by
 obtain⟨y,l,rfl,rfl,hok,rfl⟩:=ee h
 have num:∀(s:ByteArray) (p k:Nat),aI s p k<256^k:=fun s p k=>by have h:=yI (s.extract p (p+k)).data.toList;have h2:(s.extract p (p+k)).data.toList.length<=k:=by {have h4:(s.extract p (p+k)).size<=k:=by {rw[ByteArray.size_extract];omega};show (bl (s.extract p (p+k))).length<=k;rw[cF];exact h4};have h3:(256:Nat)^(s.extract p (p+k)).data.toList.length<=256^k:=Nat.pow_le_pow_right (by omega) h2;unfold aI;omega
 refine⟨⟨by dsimp only;omega,?_⟩,⟨by dsimp only;omega,?_⟩,?_,fun e he=>?_⟩
 have:=num y 0 1;dsimp only;omega
 have:=num y 2 2;dsimp only;omega
 dsimp only
 simp only[iF,Bool.and_eq_true,Bool.or_eq_true,decide_eq_true_eq] at hok
 rw[ByteArray.size_extract];omega
 obtain⟨⟨s,z⟩,hp,rfl⟩:∃p∈bp 1 l,e=cc (aI y 0 1) p:=by
  obtain⟨p,hp,rfl⟩:=List.mem_map.1 ((fC _ _).mem_iff.1 he)
  exact⟨p,hp,rfl⟩
 dsimp only
 unfold cc
 by_cases hl:0<(aI y 0 1:Int)
 rw[if_pos hl]
 have:=num z (z.size-2) 2
 exact⟨fun _=>by dsimp only;omega,fun h=>absurd hl h⟩
 rw[if_neg hl];exact⟨fun h=>absurd h hl,fun _=>rfl⟩
theorem HZ{ps:List PgS}{pos kid:Int}{x:ByteArray}{n:NoD}(h:ao ps pos=some n)(h8:n.es.length<=90)(hk:0<n.lv->0<=kid/\kid<65536)(h4:4<=x.size):
  ∃n',ao (doB ps [(pos,(n.free:Int),itB n.lv kid x)]) pos=some n'/\uC n' n/\n'.es.Perm ((x,n.free,if 0<n.lv then kid else -1)::n.es):=by
 obtain⟨h0,h1,hn⟩:=e9 h
 obtain⟨s,hs,hz,hl⟩:=Gn hn
 obtain⟨n',h2,h3,h5,h6,h7,h8⟩:=vb hn hz hk h4
 refine⟨n',oX h0 (by rw[b5];exact h1) ?_,⟨h3,h5,h6,h7⟩,by rw[hs];exact h8⟩
 show cf ((bK ps (pos,(n.free:Int),itB n.lv kid x)).getD pos.toNat aP).1 ((bK ps (pos,(n.free:Int),itB n.lv kid x)).getD pos.toNat aP).2.2=some n'
 rw[ed1 h0 h1 (by omega) (by omega)]
 dsimp only
 rw[Int.toNat_natCast,hs];exact h2
theorem pe{ps:List PgS}{pos rt:Int}{d:Bool}{hi:ByteArray}{n:NoD}(h:ao ps pos=some n)(hrt: -1<=rt/\rt<=65534)(hhi:hi.size=0\/4<=hi.size):
  ao (doB ps [(pos,0,hdB n.lv rt d hi)]) pos=some ⟨n.lv,rt,hi,d,n.es,n.free⟩:=by
 obtain⟨h0,h1,hn⟩:=e9 h
 refine oX h0 (by rw[b5];exact h1) ?_
 show cf ((bK ps (pos,0,hdB n.lv rt d hi)).getD pos.toNat aP).1 ((bK ps (pos,0,hdB n.lv rt d hi)).getD pos.toNat aP).2.2= _
 rw[ed1 h0 h1 (by omega) (by omega)]
 exact z6 hn (qW hn).1.2 hrt hhi
theorem oZ{ps:List PgS}{pos:Int}{n:NoD}{e:EnD}(h:ao ps pos=some n)(hits:(ps.getD pos.toNat aP).2.2.length<=101)(he:e∈n.es):1<=e.2.1/\e.2.1<(ps.getD pos.toNat aP).2.2.length/\e.2.1<=100:=by
 obtain⟨_,_,_,h3⟩:=oe h
 obtain⟨h4,y,hy,_⟩:=h3 e he
 have:=(List.getElem?_eq_some_iff.1 hy).1
 exact⟨h4,this,by omega⟩
theorem qK{pos:Int}:∀{L R:List EnD}{ps:List PgS}{n:NoD},ao ps pos=some n->(ps.getD pos.toNat aP).2.2.length<=101->n.es.Perm (L++R)->
  ∃n',ao (doB ps (aA pos L)) pos=some n'/\uC n' n/\n'.es.Perm R
 | [],R,ps,n,h,_,hp=>⟨n,h,⟨rfl,rfl,rfl,rfl⟩,hp⟩
 |e::L,R,ps,n,h,hits,hp=>by
  obtain⟨h0,h1,hn⟩:=e9 h
  have he:e∈n.es:=hp.mem_iff.2 (by simp)
  obtain⟨iX,uj,O9⟩:=oZ h hits he
  obtain⟨n1,h2,h3,h4,h5,h6,h7⟩:=vo hn he
  have hg:(bK ps (pos,(e.2.1:Int),ByteArray.empty)).getD pos.toNat aP= _:=ed1 h0 h1 (by omega) (by omega)
  have hn1:ao (bK ps (pos,(e.2.1:Int),ByteArray.empty)) pos=some n1:=by
   refine oX h0 (by rw[gr];exact h1) ?_
   rw[hg]
   dsimp only
   rw[Int.toNat_natCast];exact h2
  have hit1:((bK ps (pos,(e.2.1:Int),ByteArray.empty)).getD pos.toNat aP).2.2.length<=101:=by
   rw[hg]
   dsimp only
   rw[Int.toNat_natCast,ja];omega
  have gB:n1.es.Perm (L++R):=(List.perm_cons e).1 (h7.symm.trans hp)
  obtain⟨n2,h8,h9,h10⟩:=qK (L:=L) hn1 hit1 gB
  refine⟨n2,h8,?_,h10⟩
  obtain⟨a,b,c,d⟩:=h9
  exact⟨a.trans h3,b.trans h4,c.trans h5,d.trans h6⟩
theorem tN{lv:Int}:∀{es:List EnD}{k:Nat},(oo lv k es).map kv=es.map fun e=>(e.1,if 0<lv then e.2.2 else -1)
 | [],_=>rfl
 |e::l,k=>by rw[oo,List.map_cons,List.map_cons,tN];rfl
theorem pL{ps:List PgS}{pg lv rt:Int}{hi:ByteArray}{es:List EnD}(h0:0<=pg)(h1:pg<ps.length)(hlv:0<=lv/\lv<=255)(hrt: -1<=rt/\rt<=65534)(hhi:hi.size=0\/4<=hi.size)
  (h:∀e∈es,4<=e.1.size/\(0<lv->0<=e.2.2/\e.2.2<65536)/\(¬ 0<lv->e.2.2= -1)) (hl:es.length<=100):
  ∃n,ao (doB ps (aE pg lv rt hi es)) pg=some n/\n.lv=lv/\n.right=rt/\n.high=hi/\n.dead=false/\(n.es.map kv).Perm (es.map kv):=by
 obtain⟨i,rfl⟩:=Int.eq_ofNat_of_zero_le h0
 have hp:=zi (ps:=ps) (lv:=lv) (rt:=rt) (hi:=hi) (es:=es) (i:=i) (by omega) hl
 obtain⟨n,h2,h3,h4,h5,h6,h7⟩:=y4 (rt:=rt) (hi:=hi) (es:=es) hlv hrt hhi fun e he=>⟨(h e he).1,(h e he).2.1⟩
 refine⟨n,oX h0 (by rw[b5];exact h1) ?_,h3,h4,h5,h6,?_⟩
 show cf ((doB ps (aE (i:Int) lv rt hi es)).getD (Int.ofNat i).toNat aP).1 ((doB ps (aE (i:Int) lv rt hi es)).getD (Int.ofNat i).toNat aP).2.2= _
 rw[show (Int.ofNat i).toNat=i from rfl,hp];exact h2
 refine(h7.map kv).trans ?_
 rw[tN]
 refine List.Perm.of_eq (List.map_congr_left fun e he=>?_)
 have:=(h e he).2.2
 by_cases hc:0<lv
 rw[if_pos hc];rfl
 rw[if_neg hc,<-this hc];rfl
theorem Hu{ps:List PgS}{pos pg:Int}{n:NoD}(h:ao ps pos=some n)(hits:(ps.getD pos.toNat aP).2.2.length<=101)(h0:0<=pg)(h1:pg<ps.length)(hps:ps.length<=60000)(hne:pg≠pos)(hlen:n.es.length<=100)(hmid:4<=(bN n).size):
  (∃n1,ao (doB ps (bR pos n pg)) pg=some n1/\n1.lv=n.lv/\n1.right=n.right/\n1.high=n.high/\n1.dead=false/\(n1.es.map kv).Perm ((n.es.drop (n.es.length / 2)).map kv))/\
  (∃n2,ao (doB ps (bR pos n pg)) pos=some n2/\n2.lv=n.lv/\n2.right=pg/\n2.high=bN n/\n2.dead=false/\n2.es.Perm (n.es.take (n.es.length / 2)))/\
  ∀q,q≠pg->q≠pos->ao (doB ps (bR pos n pg)) q=ao ps q:=by
 obtain⟨kU,gB,hn⟩:=e9 h
 obtain⟨a1,a2,a3,a4⟩:=qW hn
 have hso:=lO hn
 obtain⟨n1,f1,f2,f3,f4,f5,f6⟩:=pL (ps:=ps) (pg:=pg) (lv:=n.lv) (rt:=n.right) (hi:=n.high) (es:=dX n) h0 h1 a1 a2 a3 (fun e he=>⟨hso.2 e (List.mem_of_mem_drop he),a4 e (List.mem_of_mem_drop he)⟩) (by rw[dX,List.length_drop];omega)
 have hcl:∀e∈aA pos (dX n),e.1=pos:=fun e he=>by obtain⟨x,_,rfl⟩:=List.mem_map.1 he;rfl
 obtain⟨ps1,hps1⟩:∃z,doB ps (aE pg n.lv n.right n.high (dX n))=z:=⟨_,rfl⟩
 have hE:doB ps (bR pos n pg)=doB (doB ps1 [(pos,0,hdB n.lv pg false (bN n))]) (aA pos (dX n)):=by rw[bR,dx,dx,hps1]
 rw[hps1] at f1
 have hn1:ao ps1 pos=some n:=by rw[<-hps1,bU (fun e he=>by rw[eT e he];exact hne)];exact h
 have hit1:(ps1.getD pos.toNat aP).2.2.length<=101:=by
  rw[<-hps1,iA (fun e he=>by rw[eT e he];omega)];exact hits
 have hl1:ps1.length=ps.length:=by rw[<-hps1,b5]
 have hh:=pe (rt:=pg) (d:=false) (hi:=bN n) hn1 ⟨by omega,by omega⟩ (.inr hmid)
 have hit2:((doB ps1 [(pos,0,hdB n.lv pg false (bN n))]).getD pos.toNat aP).2.2.length<=101:=by
  show ((bK ps1 (pos,0,hdB n.lv pg false (bN n))).getD pos.toNat aP).2.2.length<=101
  rw[ed1 kU (by rw[hl1];exact gB) (by omega) (by omega)]
  dsimp only
  rw[ja]
  show max _ 1<=101
  omega
 obtain⟨n2,c1,⟨c2,c3,c4,c5⟩,c6⟩:=qK (L:=dX n) (R:=n.es.take (n.es.length / 2)) hh hit2 (by dsimp only;exact(List.Perm.of_eq (List.take_append_drop (n.es.length / 2) n.es).symm).trans List.perm_append_comm)
 rw[hE]
 refine⟨⟨n1,?_,f2,f3,f4,f5,f6⟩,⟨n2,c1,c2,c3,c4,c5,c6⟩,fun q hq1 hq2=>?_⟩
 rw[bU (fun e he=>by rw[hcl e he];exact fun e=>hne e.symm),bU (fun e he=>by rw[List.mem_singleton.1 he];exact fun e=>hne e.symm)];exact f1
 rw[bU (fun e he=>by rw[hcl e he];exact fun e=>hq2 e.symm),bU (fun e he=>by rw[List.mem_singleton.1 he];exact fun e=>hq2 e.symm),<-hps1,bU (fun e he=>by rw[eT e he];exact fun e=>hq1 e.symm)]
theorem vM:∀{l:List ByteArray}{i:Nat},(∀k,(l.getD k ByteArray.empty).size=0)->bp i l=[]
 | [],_,_=>rfl
 |x::l,i,h=>by rw[jM (x:=x) (h 0),vM fun k=>h (k+1)]
theorem nR(l:List ByteArray)(k j:Nat)(x:ByteArray):(bz l k x).getD j ByteArray.empty=if j=k then x else l.getD j ByteArray.empty:=by
 by_cases h:j=k
 subst h;rw[if_pos rfl,pY]
 rw[if_neg h,bz,List.getD_eq_getElem?_getD,List.getElem?_set_ne (fun e=>h e.symm),List.getD_eq_getElem?_getD]
 by_cases hj:j<l.length
 rw[List.getElem?_append_left hj]
 rw[List.getElem?_append_right (by omega),List.getElem?_eq_none (l:=l) (by omega)]
 cases hq:(List.replicate (k+1-l.length) ByteArray.empty)[j-l.length]? with
 |none=>rfl
 |some y=>rw[(List.mem_replicate.1 (List.mem_of_getElem? hq)).2];rfl
theorem x8{pos:Int}:∀{L:List EnD}{ps:List PgS},0<=pos->pos<ps.length->(∀e∈L,e.2.1<=100)->
  ((doB ps (aA pos L)).getD pos.toNat aP).1=(ps.getD pos.toNat aP).1/\∀k,((doB ps (aA pos L)).getD pos.toNat aP).2.2.getD k ByteArray.empty=if (∃e∈L,e.2.1=k) then ByteArray.empty else (ps.getD pos.toNat aP).2.2.getD k ByteArray.empty
 | [],ps,_,_,_=>⟨rfl,fun k=>by rw[if_neg (by simp)];rfl⟩
 |e::L,ps,h0,h1,h=>by
  have hg:(bK ps (pos,(e.2.1:Int),ByteArray.empty)).getD pos.toNat aP= _:=ed1 h0 h1 (by omega) (by have:=h e (by simp);omega)
  obtain⟨h2,h3⟩:=x8 (L:=L) (ps:=bK ps (pos,(e.2.1:Int),ByteArray.empty)) h0 (by rw[gr];exact h1) fun x hx=>h x (by simp[hx])
  rw[hg] at h2 h3
  refine⟨h2,fun k=>(h3 k).trans ?_⟩
  dsimp only
  rw[Int.toNat_natCast,nR]
  by_cases hc:∃x∈L,x.2.1=k
  obtain⟨x,hx,hxk⟩:=hc
  rw[if_pos ⟨x,hx,hxk⟩,if_pos ⟨x,by simp[hx],hxk⟩]
  rw[if_neg hc]
  by_cases hk:k=e.2.1
  rw[if_pos hk,if_pos ⟨e,by simp,hk.symm⟩]
  rw[if_neg hk,if_neg]
  rintro⟨x,hx,hxk⟩
  rcases List.mem_cons.1 hx with rfl|hx
  exact hk hxk.symm
  exact hc ⟨x,hx,hxk⟩
theorem Gy{k:Int}{its:List ByteArray}{n:NoD}(h:cf k its=some n){s:Nat}(hs:1<=s)(hz:(its.getD s ByteArray.empty).size≠0):∃e∈n.es,e.2.1=s:=by
 obtain⟨y,l,rfl,rfl,hok,rfl⟩:=ee h
 have key:∀(l:List ByteArray) (i j:Nat),(l.getD j ByteArray.empty).size≠0->(i+j,l.getD j ByteArray.empty)∈bp i l:=by
  intro l
  induction l with
  |nil=>intro i j hj;exact absurd rfl hj
  |cons x l ih=>
   intro i j hj
   rw[bp]
   cases j with
   |zero=>
    have hx:x.size≠0:=hj
    rw[if_neg hx];exact List.mem_cons_self ..
   |succ j=>
    rw[List.getD_cons_succ] at hj |-
    have:=ih (i+1) j hj
    rw[show i+1+j=i+(j+1) by omega] at this
    split
    exact this
    exact List.mem_cons_of_mem _ this
 obtain⟨j,rfl⟩:∃j,s=j+1:=⟨s-1,by omega⟩
 rw[List.getD_cons_succ] at hz
 have hm:=key l 1 j hz
 rw[Nat.add_comm 1 j] at hm
 refine⟨cc (aI y 0 1) (j+1,l.getD j ByteArray.empty),(fC _ _).mem_iff.2 (List.mem_map.2 ⟨_,hm,rfl⟩),?_⟩
 unfold cc;split<;>rfl
theorem fR:ay.size=4:=by decide
theorem GI{ps:List PgS}{pos pg:Int}{n:NoD}(h:ao ps pos=some n)(hits:(ps.getD pos.toNat aP).2.2.length<=101)(h0:0<=pg)(h1:pg<ps.length)(hps:ps.length<=60000)(hne:pg≠pos)(hlen:n.es.length<=100)(hlv:n.lv<=254):
  (∃n1,ao (doB ps (bT pos n pg)) pg=some n1/\n1.lv=n.lv/\n1.right= -1/\n1.high=ByteArray.empty/\n1.dead=false/\(n1.es.map kv).Perm (n.es.map kv))/\
  (∃n2,ao (doB ps (bT pos n pg)) pos=some n2/\n2.lv=n.lv+1/\n2.right= -1/\n2.high=ByteArray.empty/\n2.dead=false/\n2.es.map kv=[(ay,pg)])/\
  ∀q,q≠pg->q≠pos->ao (doB ps (bT pos n pg)) q=ao ps q:=by
 obtain⟨kU,gB,hn⟩:=e9 h
 obtain⟨a1,a2,a3,a4⟩:=qW hn
 have hso:=lO hn
 obtain⟨n1,f1,f2,f3,f4,f5,f6⟩:=pL (ps:=ps) (pg:=pg) (lv:=n.lv) (rt:= -1) (hi:=ByteArray.empty) (es:=n.es) h0 h1 a1 ⟨by omega,by omega⟩ (.inl rfl) (fun e he=>⟨hso.2 e he,a4 e he⟩) hlen
 have hcl:∀e∈aA pos n.es,e.1=pos:=fun e he=>by obtain⟨x,_,rfl⟩:=List.mem_map.1 he;rfl
 obtain⟨ps1,hps1⟩:∃z,doB ps (aE pg n.lv (-1) ByteArray.empty n.es)=z:=⟨_,rfl⟩
 have hl1:ps1.length=ps.length:=by rw[<-hps1,b5]
 have hg1:ps1.getD pos.toNat aP=ps.getD pos.toNat aP:=by rw[<-hps1];exact iA fun e he=>by rw[eT e he];omega
 obtain⟨ps2,hps2⟩:∃z,doB ps1 [(pos,0,hdB (n.lv+1) (-1) false ByteArray.empty)]=z:=⟨_,rfl⟩
 have hl2:ps2.length=ps.length:=by rw[<-hps2,b5,hl1]
 have hg2:ps2.getD pos.toNat aP=((ps.getD pos.toNat aP).1,(ps.getD pos.toNat aP).2.1,bz (ps.getD pos.toNat aP).2.2 0 (hdB (n.lv+1) (-1) false ByteArray.empty)):=by
  rw[<-hps2]
  show (bK ps1 (pos,0,hdB (n.lv+1) (-1) false ByteArray.empty)).getD pos.toNat aP= _
  rw[ed1 kU (by rw[hl1];exact gB) (by omega) (by omega),hg1];rfl
 obtain⟨ps3,hps3⟩:∃z,doB ps2 (aA pos n.es)=z:=⟨_,rfl⟩
 have hl3:ps3.length=ps.length:=by rw[<-hps3,b5,hl2]
 obtain⟨g3,g4⟩:=x8 (L:=n.es) (ps:=ps2) kU (by rw[hl2];exact gB) fun e he=>(oZ h hits he).2.2
 rw[hps3,hg2] at g3 g4
 have hE:doB ps (bT pos n pg)=doB ps3 [(pos,1,itB 1 pg ay)]:=by rw[bT,dx,dx,dx,hps1,hps2,hps3]
 have hk2:(ps.getD pos.toNat aP).1=2:=(ee hn).elim fun y hy=>hy.elim fun l hl=>hl.2.1
 obtain⟨its3,hi3⟩:∃z,(ps3.getD pos.toNat aP).2.2=z:=⟨_,rfl⟩
 rw[hi3] at g4
 dsimp only at g3 g4
 have hz0:its3.getD 0 ByteArray.empty=hdB (n.lv+1) (-1) false ByteArray.empty:=by
  rw[g4 0,if_neg,pY]
  rintro⟨e,he,hes⟩
  have:=(oZ h hits he).1;omega
 have hzk:∀k,(its3.getD (k+1) ByteArray.empty).size=0:=fun k=>by
  rw[g4 (k+1)]
  by_cases hc:∃e∈n.es,e.2.1=k+1
  rw[if_pos hc];rfl
  rw[if_neg hc,nR,if_neg (by omega)]
  cases hq:decide (((ps.getD pos.toNat aP).2.2.getD (k+1) ByteArray.empty).size=0) with
  |true=>exact of_decide_eq_true hq
  |false=>exact absurd (Gy hn (by omega) (of_decide_eq_false hq)) hc
 have hdz:(hdB (n.lv+1) (-1) false ByteArray.empty).size=4:=by rw[fB];rfl
 cases hit:its3 with
 |nil=>rw[hit] at hz0;have:=congrArg ByteArray.size hz0;rw[hdz] at this;exact absurd this (by decide)
 |cons y l=>
  rw[hit] at hz0 hzk
  have hy:y=hdB (n.lv+1) (-1) false ByteArray.empty:=hz0
  have hl:bp 1 l=[]:=vM fun k=>hzk k
  have hlz:(l.getD 0 ByteArray.empty).size=0:=hzk 0
  have e1:=vh (lv:=n.lv+1) (rt:= -1) (d:=false) (hi:=ByteArray.empty) ⟨by omega,by omega⟩
  have hiz:(itB 1 pg ay).size≠0:=by rw[rB,fR];decide
  have hpr:=jf hiz l 0 1 hlz
  rw[hl] at hpr
  have hpr:bp 1 (bz l 0 (itB 1 pg ay))=[(1,itB 1 pg ay)]:=List.perm_singleton.1 hpr
  have hpos:(0:Int)<n.lv+1:=by omega
  have hb:(bp 1 (bz l 0 (itB 1 pg ay))).any (cv (n.lv+1))=false:=by
   rw[hpr]
   have:cv 1 (1,itB 1 pg ay)=false:=qe (by rw[fR];decide)
   have e2:cv (n.lv+1) (1,itB 1 pg ay)=cv 1 (1,itB 1 pg ay):=by unfold cv;rw[if_pos hpos,if_pos (by decide)]
   simp[e2,this]
  have e3:cc (n.lv+1) (1,itB 1 pg ay)=(ay,1,pg):=by
   have e4:cc (n.lv+1) (1,itB 1 pg ay)=cc 1 (1,itB 1 pg ay):=by unfold cc;rw[if_pos hpos,if_pos (by decide)]
   rw[e4,pV (fun _=>⟨h0,by omega⟩),if_pos (by decide)]
  have hfin:cf 2 (bz its3 1 (itB 1 pg ay))=some ⟨n.lv+1,-1,ByteArray.empty,false,[(ay,1,pg)],cm 1 (bz l 0 (itB 1 pg ay)) ((bz l 0 (itB 1 pg ay)).length+1)⟩:=by
   rw[hit,lg,hy,gn (wv (.inl rfl)) (by rw[e1];exact hb),e1,wn ⟨by omega,by omega⟩,u6,uA,hpr]
   simp only[srt,List.map_cons,List.map_nil,e3]
   rfl
  rw[hE]
  refine⟨⟨n1,?_,f2,f3,f4,f5,f6⟩,⟨⟨n.lv+1,-1,ByteArray.empty,false,[(ay,1,pg)],cm 1 (bz l 0 (itB 1 pg ay)) ((bz l 0 (itB 1 pg ay)).length+1)⟩,oX kU (by rw[b5,hl3];exact gB) ?_,rfl,rfl,rfl,rfl,rfl⟩,fun q hq1 hq2=>?_⟩
  rw[bU (fun e he=>by rw[List.mem_singleton.1 he];exact fun e=>hne e.symm),<-hps3,bU (fun e he=>by rw[hcl e he];exact fun e=>hne e.symm),<-hps2,bU (fun e he=>by rw[List.mem_singleton.1 he];exact fun e=>hne e.symm),<-hps1];exact f1
  show cf ((bK ps3 (pos,1,itB 1 pg ay)).getD pos.toNat aP).1 ((bK ps3 (pos,1,itB 1 pg ay)).getD pos.toNat aP).2.2= _
  rw[ed1 kU (by rw[hl3];exact gB) (by omega) (by omega),g3,hk2,hi3]
  exact hfin
  rw[bU (fun e he=>by rw[List.mem_singleton.1 he];exact fun e=>hq2 e.symm),<-hps3,bU (fun e he=>by rw[hcl e he];exact fun e=>hq2 e.symm),<-hps2,bU (fun e he=>by rw[List.mem_singleton.1 he];exact fun e=>hq2 e.symm),<-hps1,bU (fun e he=>by rw[eT e he];exact fun e=>hq1 e.symm)]
end
end Go.Proofs.Ytjlcoglmjldjbaa
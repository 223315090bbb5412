/- TreeBusyRow: part 6 of the proof. -/
import Derived.Test.YtjlcoglmjldjbaaZ5

set_option linter.unusedVariables false
set_option linter.unusedSimpArgs false
set_option maxRecDepth 100000
set_option maxHeartbeats 16000000
namespace Go.Proofs.Ytjlcoglmjldjbaa
section
open Go.RowKit
def neB (a:ByteArray):Bool:=!(a.toList==(⟨#[]⟩:ByteArray).toList)
/-- an entry that is not in its place -/
def srS (hi lo:ByteArray) (es:List EnD) (i:Nat):Bool:=(neB lo&&lessF (es.getD i en0).1 lo)||(neB hi&&!(lessF (es.getD i en0).1 hi))||(decide (0 < (i:Int))&&((es.getD i en0).1.toList==(es.getD ((i:Int) - 1).toNat en0).1.toList))
def srF (hi lo:ByteArray) (es:List EnD):Bool:=(List.range es.length).all fun i=>!srS hi lo es i
theorem all_step {p:Nat→Bool} {i:Nat} (h:(List.range i).all p=true) (hp:p i=true):(List.range (i+1)).all p=true:=by
 rw [List.range_succ,List.all_append,h]; simp [hp]
theorem all_fail {p:Nat→Bool} {i n:Nat} (hi:i < n) (hp:p i=false):(List.range n).all p=false:=by
 rw [List.all_eq_false]
 exact ⟨i,List.mem_range.2 hi,by rw [hp]; simp⟩
theorem ksorted_g (pg lv rt fr:Int) (hg:ByteArray) (dd:Bool) (EA:Option Addr) (ec n:Nat) (es:List EnD) (lo:ByteArray) (w:World) (hE:At w EA (es.flatMap enC)) (hn:es.length=n) (hn1:n≤100) (hez:∀ e∈es,e.1.size≤1000000) (hgz:hg.size≤1000000) (hlz:lo.size≤1000000):
  Calls Try.prog 100 #[.agg #[.int .i64 pg, .int .i64 lv, .int .i64 rt, .string hg, .bool dd, .slice EA n ec, .int .i64 fr], .string lo] w (Ret (.bool (srF hg lo es)) w):=by
 go_enter Try.func100,Try.ntmps100
 have hst0:=St.start w
 refine wp_seq (sqr ?_)
 refine sqbx #[vi pg,vi lv,vi rt, .string hg, .bool dd, .slice EA n ec,vi fr] hst0 fun B2_1 W1 hst1=>?_
 refine sqp [.k 4 (.bool false)] ?_
 refine then_normal (wp_seq (wp_seq (sqr (sqp [.k 7 (.pointer (some ⟨B2_1,5,none⟩))] ?_))))
 refine sqld 0 hst1 ?_
 refine sqp [.k 9 (vi ((n:Int))), .k 10 (vi 0)] ?_
 refine then_normal (wp_block ?_)
 refine wp_loopT (fun t_ mz az W=>∃ i:Nat,i≤n∧(List.range i).all (fun i=>!srS hg lo es i)=true∧mz=n - i∧az=⟨(ovr (jv az) [(4,4,3,[]),(3,10,0,[vi ((i:Int))]),(0,11,42,[])] t_).toArray,[]⟩∧St w [] [eB B2_1 116 #[vi pg,vi lv,vi rt, .string hg, .bool dd, .slice EA n ec,vi fr]] W) (n - 0) ?_ ?_
 · -- the loop begins
   exact ⟨0,Nat.zero_le _,rfl,rfl,(by kernel_rfl),hst1.pk [0]⟩
 rintro n7 a7 W7 ⟨i,hi,hall,rfl,hj_,hst7⟩
 refine ovz hj_ fun u7_=>?_
 refine wp_seq (sqr (sqp [.k 11 (.bool (decide ((i:Int) < (n:Int))))] ?_))
 refine then_normal (wp_seq (wds (fun hs9 hs9p=>?_) fun hs9 hs9p=>?_))
 ·refine wp_skip (then_normal (wp_seq (wp_block (wp_seq (sqr (sqp [.m 12 10] ?_))))))
  refine sql (.pointer (some ((ad EA).add (i*3)))) hst7 (fun cx=>run_indexSlM (e:=104) (m:=i) (sz:=3) rfl (by kernel_rfl) (by kernel_rfl) (cx.ou 8) (cx.ou 10) (by omega) (by omega) (hE.ext cx.upd.to_ext) (flatPos (sz:=3) enC_len (by decide) (by omega))) ?_
  refine sql (.agg #[.string ((es.getD i en0).1),vi (((es.getD i en0).2.1:Int)),vi ((es.getD i en0).2.2)]) hst7 (fun cx=>run_loadElt (f:=enC) (m:=i) (sz:=3) (off:=0) (n:=3) rfl (by kernel_rfl) (by kernel_rfl) (cx.ou 13) rfl enC_len (hE.ext cx.upd.to_ext) (en_get (by omega)) (fun k hk=>match k,hk with | 0, _=>rfl | 1, _=>rfl | 2, _=>rfl | k+3,hk=>absurd hk (by omega))) ?_
  refine sqal #[.string ByteArray.empty,vi 0,vi 0] hst7 fun B6_13 W13 hst13=>?_
  refine sqp [.m 5 12] ?_
  refine sqst (n:=3) 1 #[.string ((es.getD i en0).1),vi (((es.getD i en0).2.1:Int)),vi ((es.getD i en0).2.2)] hst13 fun W15 hst15=>?_
  refine then_normal (wp_seq (wp_region_Z [0,1,3,7,15,7,63,127,255,511,1023,2047,4095,8191,16383,8191,40959,131071,262143,524287,1048575,2097151,4194303,8388607,16777215,33554431,67108863,33554431,167772159,33554431,570425343,2046820351,4194303999,8489271295,17179869183,34359738367,68719476735] [[],[],[],[],[1],[],[],[],[],[],[0],[],[],[],[1],[],[0],[],[],[],[],[],[],[],[],[],[1],[],[0]] [.k 15 (.string lo), .k 16 (.bool (!(lo.toList==((⟨#[]⟩:ByteArray)).toList))), .k 17 (.bool (!(lo.toList==((⟨#[]⟩:ByteArray)).toList))), .z 18 (!(lo.toList==((⟨#[]⟩:ByteArray)).toList)) (vp B6_13), .y 19 (!(lo.toList==((⟨#[]⟩:ByteArray)).toList)) (.string ((es.getD i en0).1)), .z 20 (!(lo.toList==((⟨#[]⟩:ByteArray)).toList)) (.string lo), .y 21 (!(lo.toList==((⟨#[]⟩:ByteArray)).toList)) (.bool (lessF ((es.getD i en0).1) lo)),tA 22 (!(lo.toList==((⟨#[]⟩:ByteArray)).toList)) (lessF ((es.getD i en0).1) lo), .k 23 (.bool ((!(lo.toList==((⟨#[]⟩:ByteArray)).toList))&&(lessF ((es.getD i en0).1) lo))), .z 24 (!((!(lo.toList==((⟨#[]⟩:ByteArray)).toList))&&(lessF ((es.getD i en0).1) lo))) (.pointer (some ⟨B2_1,3,none⟩)), .y 25 (!((!(lo.toList==((⟨#[]⟩:ByteArray)).toList))&&(lessF ((es.getD i en0).1) lo))) (.string hg), .y 26 (!((!(lo.toList==((⟨#[]⟩:ByteArray)).toList))&&(lessF ((es.getD i en0).1) lo))) (.bool (!(hg.toList==((⟨#[]⟩:ByteArray)).toList))), .z 27 (!((!(lo.toList==((⟨#[]⟩:ByteArray)).toList))&&(lessF ((es.getD i en0).1) lo))) (.bool (!(hg.toList==((⟨#[]⟩:ByteArray)).toList))), .z 28 ((!((!(lo.toList==((⟨#[]⟩:ByteArray)).toList))&&(lessF ((es.getD i en0).1) lo)))&&(!(hg.toList==((⟨#[]⟩:ByteArray)).toList))) (vp B6_13), .y 29 ((!((!(lo.toList==((⟨#[]⟩:ByteArray)).toList))&&(lessF ((es.getD i en0).1) lo)))&&(!(hg.toList==((⟨#[]⟩:ByteArray)).toList))) (.string ((es.getD i en0).1)), .z 30 ((!((!(lo.toList==((⟨#[]⟩:ByteArray)).toList))&&(lessF ((es.getD i en0).1) lo)))&&(!(hg.toList==((⟨#[]⟩:ByteArray)).toList))) (.pointer (some ⟨B2_1,3,none⟩)), .y 31 ((!((!(lo.toList==((⟨#[]⟩:ByteArray)).toList))&&(lessF ((es.getD i en0).1) lo)))&&(!(hg.toList==((⟨#[]⟩:ByteArray)).toList))) (.string hg), .y 32 ((!((!(lo.toList==((⟨#[]⟩:ByteArray)).toList))&&(lessF ((es.getD i en0).1) lo)))&&(!(hg.toList==((⟨#[]⟩:ByteArray)).toList))) (.bool (lessF ((es.getD i en0).1) hg)), .z 33 ((!((!(lo.toList==((⟨#[]⟩:ByteArray)).toList))&&(lessF ((es.getD i en0).1) lo)))&&(!(hg.toList==((⟨#[]⟩:ByteArray)).toList))) (.bool (!(lessF ((es.getD i en0).1) hg))), .y 34 (!((!(lo.toList==((⟨#[]⟩:ByteArray)).toList))&&(lessF ((es.getD i en0).1) lo))) (.bool ((!(hg.toList==((⟨#[]⟩:ByteArray)).toList))&&(!(lessF ((es.getD i en0).1) hg)))),tO 35 ((!(lo.toList==((⟨#[]⟩:ByteArray)).toList))&&(lessF ((es.getD i en0).1) lo)) ((!(hg.toList==((⟨#[]⟩:ByteArray)).toList))&&(!(lessF ((es.getD i en0).1) hg))), .k 36 (.bool (((!(lo.toList==((⟨#[]⟩:ByteArray)).toList))&&(lessF ((es.getD i en0).1) lo))||((!(hg.toList==((⟨#[]⟩:ByteArray)).toList))&&(!(lessF ((es.getD i en0).1) hg))))), .z 37 (!(((!(lo.toList==((⟨#[]⟩:ByteArray)).toList))&&(lessF ((es.getD i en0).1) lo))||((!(hg.toList==((⟨#[]⟩:ByteArray)).toList))&&(!(lessF ((es.getD i en0).1) hg))))) (vi ((i:Int))), .z 38 (!(((!(lo.toList==((⟨#[]⟩:ByteArray)).toList))&&(lessF ((es.getD i en0).1) lo))||((!(hg.toList==((⟨#[]⟩:ByteArray)).toList))&&(!(lessF ((es.getD i en0).1) hg))))) (.bool (decide (0 < (i:Int)))), .z 39 (!(((!(lo.toList==((⟨#[]⟩:ByteArray)).toList))&&(lessF ((es.getD i en0).1) lo))||((!(hg.toList==((⟨#[]⟩:ByteArray)).toList))&&(!(lessF ((es.getD i en0).1) hg))))) (.bool (decide (0 < (i:Int)))), .z 40 ((!(((!(lo.toList==((⟨#[]⟩:ByteArray)).toList))&&(lessF ((es.getD i en0).1) lo))||((!(hg.toList==((⟨#[]⟩:ByteArray)).toList))&&(!(lessF ((es.getD i en0).1) hg)))))&&(decide (0 < (i:Int)))) (vp B6_13), .y 41 ((!(((!(lo.toList==((⟨#[]⟩:ByteArray)).toList))&&(lessF ((es.getD i en0).1) lo))||((!(hg.toList==((⟨#[]⟩:ByteArray)).toList))&&(!(lessF ((es.getD i en0).1) hg)))))&&(decide (0 < (i:Int)))) (.string ((es.getD i en0).1)), .z 42 ((!(((!(lo.toList==((⟨#[]⟩:ByteArray)).toList))&&(lessF ((es.getD i en0).1) lo))||((!(hg.toList==((⟨#[]⟩:ByteArray)).toList))&&(!(lessF ((es.getD i en0).1) hg)))))&&(decide (0 < (i:Int)))) (.pointer (some ⟨B2_1,5,none⟩)), .y 43 ((!(((!(lo.toList==((⟨#[]⟩:ByteArray)).toList))&&(lessF ((es.getD i en0).1) lo))||((!(hg.toList==((⟨#[]⟩:ByteArray)).toList))&&(!(lessF ((es.getD i en0).1) hg)))))&&(decide (0 < (i:Int)))) (.slice EA n ec), .z 44 ((!(((!(lo.toList==((⟨#[]⟩:ByteArray)).toList))&&(lessF ((es.getD i en0).1) lo))||((!(hg.toList==((⟨#[]⟩:ByteArray)).toList))&&(!(lessF ((es.getD i en0).1) hg)))))&&(decide (0 < (i:Int)))) (vi ((i:Int))), .y 45 ((!(((!(lo.toList==((⟨#[]⟩:ByteArray)).toList))&&(lessF ((es.getD i en0).1) lo))||((!(hg.toList==((⟨#[]⟩:ByteArray)).toList))&&(!(lessF ((es.getD i en0).1) hg)))))&&(decide (0 < (i:Int)))) (vi ((i:Int) - 1)), .y 46 ((!(((!(lo.toList==((⟨#[]⟩:ByteArray)).toList))&&(lessF ((es.getD i en0).1) lo))||((!(hg.toList==((⟨#[]⟩:ByteArray)).toList))&&(!(lessF ((es.getD i en0).1) hg)))))&&(decide (0 < (i:Int)))) (.pointer (some ((ad EA).add ((((i:Int) - 1).toNat)*3)))), .y 47 ((!(((!(lo.toList==((⟨#[]⟩:ByteArray)).toList))&&(lessF ((es.getD i en0).1) lo))||((!(hg.toList==((⟨#[]⟩:ByteArray)).toList))&&(!(lessF ((es.getD i en0).1) hg)))))&&(decide (0 < (i:Int)))) (.pointer (some ((ad EA).add ((((i:Int) - 1).toNat)*3+0)))), .y 48 ((!(((!(lo.toList==((⟨#[]⟩:ByteArray)).toList))&&(lessF ((es.getD i en0).1) lo))||((!(hg.toList==((⟨#[]⟩:ByteArray)).toList))&&(!(lessF ((es.getD i en0).1) hg)))))&&(decide (0 < (i:Int)))) (.string ((es.getD (((i:Int) - 1).toNat) en0).1)), .y 49 ((!(((!(lo.toList==((⟨#[]⟩:ByteArray)).toList))&&(lessF ((es.getD i en0).1) lo))||((!(hg.toList==((⟨#[]⟩:ByteArray)).toList))&&(!(lessF ((es.getD i en0).1) hg)))))&&(decide (0 < (i:Int)))) (.bool (((es.getD i en0).1).toList==((es.getD (((i:Int) - 1).toNat) en0).1).toList)), .y 50 (!(((!(lo.toList==((⟨#[]⟩:ByteArray)).toList))&&(lessF ((es.getD i en0).1) lo))||((!(hg.toList==((⟨#[]⟩:ByteArray)).toList))&&(!(lessF ((es.getD i en0).1) hg))))) (.bool ((decide (0 < (i:Int)))&&(((es.getD i en0).1).toList==((es.getD (((i:Int) - 1).toNat) en0).1).toList))),tO 51 (((!(lo.toList==((⟨#[]⟩:ByteArray)).toList))&&(lessF ((es.getD i en0).1) lo))||((!(hg.toList==((⟨#[]⟩:ByteArray)).toList))&&(!(lessF ((es.getD i en0).1) hg)))) ((decide (0 < (i:Int)))&&(((es.getD i en0).1).toList==((es.getD (((i:Int) - 1).toNat) en0).1).toList))] [0,1] [4,6,10,11,14,16,17,19,26,28,30,31,32,33,34,35] [(15,0,37,52)] hst15 ?_ fun W16 hst16=>?_))
  ·refine ⟨?_,?_,?_,?_,?_,?_,?_,?_,?_,?_,?_,?_,?_,?_,?_,?_,trivial⟩
   ·exact m2 rfl (fun _ _ _ h=>h) (fun cx=>(cx.an 2)) fun cx hq=>run_load1 rfl (by kernel_rfl) (mbv (cx.an 3) hq) ((cx.bi 1 rfl).cell 0)
   ·exact m3 rfl (fun _ _ _ h=>h) (fun cx=>(cx.an 2)) fun cx hq=>⟨_, _,run_callF (args:=#[.string ((es.getD i en0).1), .string lo]) rfl cx.sees rfl (by kernel_rfl) (map2 (mbv (cx.an 4) hq) (mbv (cx.an 5) hq)),kless_any ((es.getD i en0).1) lo _ (getD_size hez _) (by omega)⟩
   ·exact m2 rfl (fun _ _ _ h=>h) (fun cx=>(cx.an 8)) fun cx hq=>run_load1 rfl (by kernel_rfl) (mbv (cx.an 9) hq) ((cx.bi 0 rfl).cell 3)
   ·exact m2 rfl (fun _ _ _ h=>h) (fun cx=>(cx.an 8)) fun cx hq=>run_strne rfl (mbv (cx.an 10) hq) (cx.co _)
   ·exact m0 rfl (fun _ _ _ h=>h) (fun cx=>(cx.an 12)) fun cx hq=>run_load1 rfl (by kernel_rfl) (mbv (cx.an 13) hq) ((cx.bi 1 rfl).cell 0)
   ·exact m0 rfl (fun _ _ _ h=>h) (fun cx=>(cx.an 12)) fun cx hq=>run_load1 rfl (by kernel_rfl) (mbv (cx.an 15) hq) ((cx.bi 0 rfl).cell 3)
   ·exact m1 rfl (fun _ _ _ h=>h) (fun cx=>(cx.an 12)) fun cx hq=>⟨_, _,run_callF (args:=#[.string ((es.getD i en0).1), .string hg]) rfl cx.sees rfl (by kernel_rfl) (map2 (mbv (cx.an 14) hq) (mbv (cx.an 16) hq)),kless_any ((es.getD i en0).1) hg _ (getD_size hez _) (by omega)⟩
   ·exact m2 rfl (fun _ _ _ h=>h) (fun cx=>(cx.an 8)) fun cx hq=>run_pick_and rfl (mbv (cx.an 12) hq) (cx.an 18) (fun e_=>by rw [hq,e_]; rfl) (cx.co _)
   ·exact m0 rfl (fun _ _ _ h=>h) (fun cx=>(cx.an 24)) fun cx hq=>run_load1 rfl (by kernel_rfl) (mbv (cx.an 25) hq) ((cx.bi 1 rfl).cell 0)
   ·exact m0 rfl (fun _ _ _ h=>h) (fun cx=>(cx.an 24)) fun cx hq=>run_load1 rfl (by kernel_rfl) (mbv (cx.an 27) hq) ((cx.bi 0 rfl).cell 5)
   ·exact m0 rfl (fun _ _ _ h=>h) (fun cx=>(cx.an 24)) fun cx hq=>run_bin rfl (mbv (cx.an 29) hq) (cx.co _) (congrArg (fun z=>some (Value.int .i64 z)) ((IntWalk.i64_in _ (by have hq_:=hq; simp only [zB] at hq_; omega)).trans (by have hq_:=hq; simp only [zB] at hq_; omega)))
   ·exact m0 rfl (fun _ _ _ h=>h) (fun cx=>(cx.an 24)) fun cx hq=>run_indexSlM (e:=104) (m:=((i:Int) - 1).toNat) (sz:=3) rfl (by kernel_rfl) (by kernel_rfl) (mbv (cx.an 28) hq) (mbv (cx.an 30) hq) (by have hq_:=hq; simp only [zB] at hq_; omega) (by have hq_:=hq; simp only [zB] at hq_; omega) (hE.ext cx.upd.to_ext) (flatPos (sz:=3) enC_len (by decide) (by have hq_:=hq; simp only [zB] at hq_; omega))
   ·exact m0 rfl (fun _ _ _ h=>h) (fun cx=>(cx.an 24)) fun cx hq=>run_fieldAd rfl (by kernel_rfl) (mbv (cx.an 31) hq)
   ·exact m0 rfl (fun _ _ _ h=>h) (fun cx=>(cx.an 24)) fun cx hq=>run_load1 rfl (by kernel_rfl) (mbv (cx.an 32) hq) (At.eltc (f:=enC) (k:=0) enC_len (hE.ext cx.upd.to_ext) (en_get (by have hq_:=hq; simp only [zB] at hq_; omega)) rfl)
   ·exact m0 rfl (fun _ _ _ h=>h) (fun cx=>(cx.an 24)) fun cx hq=>run_streq rfl (mbv (cx.an 26) hq) (mbv (cx.an 33) hq)
   ·exact m2 rfl (fun _ _ _ h=>h) (fun cx=>(cx.an 21)) fun cx hq=>run_pick_and rfl (mbv (cx.an 24) hq) (cx.an 34) (fun e_=>by rw [hq,e_]; rfl) (cx.co _)
  refine then_normal (wbs (fun hs17=>?_) fun hs17=>?_)
  ·have hs17p:=hs17
   simp only [zB] at hs17p
   refine wp_seq (sqr (sqp [.k 4 (.bool false)] ?_))
   refine then_normal (wp_ret (blk_ret (then_ret (then_ret (blk_ret (then_ret ?_))))))
   refine bpr (.bool false) (results_1 Try.results100 rpt) ?_
   exact Ret.bool (by rw [srF,hn]; exact (all_fail (i:=i) (by omega) (by rw [show srS hg lo es i=true from hs17]; rfl)).symm) hst16.ext
  have hs17p:=hs17
  simp only [zB] at hs17p
  obtain ⟨⟨hs17p1,hs17p2⟩,hs17p3⟩:=hs17p
  refine wp_skip (blk_normal (then_normal (sqr (sqp [sI 52 ((i:Int)+1) (by omega), .m 10 52] ?_))))
  refine then_normal ?_
  refine ⟨n - ((i+1)),by omega,?_⟩
  exact ⟨(i+1),by omega,all_step hall (by rw [show srS hg lo es i=false from hs17]; rfl),rfl,(by kernel_rfl),hst16.pk [0]⟩
 refine wp_exit (then_exit (then_exit (blk_eq (then_normal (wp_seq (sqr (sqp [.k 4 (.bool true)] ?_)))))))
 refine then_normal (wp_ret ?_)
 refine bpr (.bool true) (results_1 Try.results100 rpt) ?_
 exact Ret.bool (by rw [srF,hn,show n=i by omega]; exact hall.symm) hst7.ext
def yn0:YnD:=(nodZ,0,none,0)
theorem yn_get {l:List YnD} {k:Nat} (h:k < l.length):l[k]? =some (l.getD k yn0):=by rw [List.getD_eq_getElem?_getD,List.getElem?_eq_getElem h]; rfl
/-- the node that leads to it is there, with the entry that it should have -/
def ldW (L:List (Int×NoD)) (k:Int):ByteArray:=if 0 < k then (L.getD (k - 1).toNat (0,nodZ)).2.high else leastB
def ldI (L:List (Int×NoD)) (kid:Int):Int:=idxP (fun m=>m.1==kid) 0 L
def ldS (L:List (Int×NoD)) (e:EnD):Bool:=decide (ldI L e.2.2 < 0)||!(e.1.toList==(ldW L (ldI L e.2.2)).toList)
def ldF (L:List (Int×NoD)) (es:List EnD):Bool:=((List.range es.length).all fun i=>!ldS L (es.getD i en0))&&decide (0 < (es.length:Int))
theorem idxP_map {α β:Type} (f:α→β) (p:β→Bool):∀ (l:List α) (k:Int),idxP p k (l.map f)=idxP (fun x=>p (f x)) k l
 | [], _=>rfl
 | x::l,k=>by rw [List.map_cons,idxP,idxP,idxP_map f p l]
theorem idxP_lt {α:Type} (p:α→Bool):∀ (l:List α) (k:Int),0≤k→ -1≤idxP p k l∧idxP p k l < k+l.length
 | [],k,h=>⟨Int.le_refl _,by rw [idxP,List.length_nil]; omega⟩
 | x::l,k,h=>by
   rw [idxP,List.length_cons]
   split
   ·exact ⟨by omega,by omega⟩
   ·have:=idxP_lt p l (k+1) (by omega)
    exact ⟨this.1,by omega⟩
theorem getD_pgN (xs:List YnD) (k:Nat):(xs.map pgN).getD k (0,nodZ)=pgN (xs.getD k yn0):=by
 rw [List.getD_eq_getElem?_getD,List.getD_eq_getElem?_getD,List.getElem?_map]
 cases xs[k]? <;>rfl
theorem kleads1_any (y:YnD) (eb:Nat) (x:ByteArray) (s kid:Int) (w:World) (h1:Blk w eb 104 #[.string x, .int .i64 s, .int .i64 kid]):
  Calls Try.prog 107 #[.agg #[.int .i64 y.2.1, .int .i64 y.1.lv, .int .i64 y.1.right, .string y.1.high, .bool y.1.dead, .slice y.2.2.1 y.1.es.length y.2.2.2, .int .i64 ((y.1.free:Int))], .pointer (some ⟨eb,0,none⟩)] w (Ret (.bool (y.2.1==kid)) w):=by
 go_enter Try.func107,Try.ntmps107
 have hst0:=St.start w
 refine wp_seq (sqr ?_)
 refine sqbx #[vi y.2.1,vi y.1.lv,vi y.1.right, .string y.1.high, .bool y.1.dead, .slice y.2.2.1 y.1.es.length y.2.2.2,vi ((y.1.free:Int))] hst0 fun B2_1 W1 hst1=>?_
 refine sqp [.k 3 (.bool false)] ?_
 refine then_normal (wp_seq (sqr (sqp [.k 4 (vp B2_1)] ?_)))
 refine sqld 0 hst1 ?_
 refine sqp [.k 6 (.pointer (some ⟨eb,2,none⟩))] ?_
 refine sql (vi kid) hst1 (fun cx=>run_load1 rfl (by kernel_rfl) (cx.ou 6) ((Blk.ext h1 cx.upd.to_ext).cell 2)) ?_
 refine sqp [.k 8 (.bool (y.2.1==kid)), .m 3 8] ?_
 refine then_normal (wp_ret ?_)
 refine bpr (.bool (y.2.1==kid)) (results_1 Try.results107 rpt) ?_
 exact Ret.bool rfl hst1.ext
theorem kidxn_any (FA:Option Addr) (fc:Nat) (ks:List YnD) (f0:FuncId) (cap:Array Value) (p:YnD→Bool) (w:World) (hF:At w FA (ks.flatMap ynC)) (hl:ks.length≤100000) (hcf:callP Try.prog f0=true) (hf:∀ (W:World) (k:YnD),Ext w W→Calls Try.prog f0 (#[.agg #[.int .i64 k.2.1, .int .i64 k.1.lv, .int .i64 k.1.right, .string k.1.high, .bool k.1.dead, .slice k.2.2.1 k.1.es.length k.2.2.2, .int .i64 ((k.1.free:Int))]]++cap) W (Ret (.bool (p k)) W)):
  Calls Try.prog 106 #[.slice FA ks.length fc, .func (.func f0) #[] cap] w (Ret (.int .i64 (idxP p 0 ks)) w):=by
 go_enter Try.func106,Try.ntmps106
 have hst0:=St.start w
 refine wp_seq (sqr (sqp [.k 4 (vi 0)] ?_))
 refine then_normal (wp_seq (wp_seq (sqr (sqp [.m 6 0, .k 7 (vi ((ks.length:Int))), .k 8 (vi 0)] ?_))))
 refine then_normal (wp_block ?_)
 refine wp_loopT (fun t_ mz az W=>∃ k:Nat,k≤ks.length∧idxP p 0 ks=idxP p (k:Int) (ks.drop k)∧mz=ks.length - k∧az=⟨(ovr (jv az) [(4,4,2,[]),(2,8,0,[vi ((k:Int))]),(0,9,10,[])] t_).toArray,[]⟩∧St w [] [] W) (ks.length - 0) ?_ ?_
 · -- the loop begins
   exact ⟨0,Nat.zero_le _,rfl,rfl,(by kernel_rfl),hst0.pk []⟩
 rintro n5 a5 W5 ⟨k,hk,hkr,rfl,hj_,hst5⟩
 refine ovz hj_ fun u5_=>?_
 refine wp_seq (sqr (sqp [.k 9 (.bool (decide ((k:Int) < (ks.length:Int))))] ?_))
 refine then_normal (wp_seq (wds (fun hs7 hs7p=>?_) fun hs7 hs7p=>?_))
 ·refine wp_skip (then_normal (wp_seq (wp_block (wp_seq (sqr (sqp [.m 10 8, .m 5 10] ?_))))))
  refine then_normal (wp_seq (sqr (sqp [.m 11 1, .m 12 0, .m 13 5] ?_)))
  refine sql (.pointer (some ((ad FA).add (k*7)))) hst5 (fun cx=>run_indexSlM (e:=116) (m:=k) (sz:=7) rfl (by kernel_rfl) (by kernel_rfl) (cx.ou 12) (cx.ou 13) (by omega) (by omega) (hF.ext cx.upd.to_ext) (flatPos (sz:=7) ynC_len (by decide) (by omega))) ?_
  refine sql (.agg #[vi ((ks.getD k yn0).2.1),vi ((ks.getD k yn0).1.lv),vi ((ks.getD k yn0).1.right), .string ((ks.getD k yn0).1.high), .bool ((ks.getD k yn0).1.dead), .slice ((ks.getD k yn0).2.2.1) ((ks.getD k yn0).1.es.length) ((ks.getD k yn0).2.2.2),vi (((ks.getD k yn0).1.free:Int))]) hst5 (fun cx=>run_loadElt (f:=ynC) (m:=k) (sz:=7) (off:=0) (n:=7) rfl (by kernel_rfl) (by kernel_rfl) (cx.ou 14) rfl ynC_len (hF.ext cx.upd.to_ext) (yn_get (by omega)) (fun k hk=>match k,hk with | 0, _=>rfl | 1, _=>rfl | 2, _=>rfl | 3, _=>rfl | 4, _=>rfl | 5, _=>rfl | 6, _=>rfl | k+7,hk=>absurd hk (by omega))) ?_
  refine sqv (.bool ((p (ks.getD k yn0)))) hst5 (sv_call rfl rfl rfl rfl rfl (fun _ _ _ h=>h) fun ρ β W X cx=>⟨_, _,run_callV (f:=f0) (args:=#[.agg #[vi ((ks.getD k yn0).2.1),vi ((ks.getD k yn0).1.lv),vi ((ks.getD k yn0).1.right), .string ((ks.getD k yn0).1.high), .bool ((ks.getD k yn0).1.dead), .slice ((ks.getD k yn0).2.2.1) ((ks.getD k yn0).1.es.length) ((ks.getD k yn0).2.2.2),vi (((ks.getD k yn0).1.free:Int))]]) (args':=#[.agg #[vi ((ks.getD k yn0).2.1),vi ((ks.getD k yn0).1.lv),vi ((ks.getD k yn0).1.right), .string ((ks.getD k yn0).1.high), .bool ((ks.getD k yn0).1.dead), .slice ((ks.getD k yn0).2.2.1) ((ks.getD k yn0).1.es.length) ((ks.getD k yn0).2.2.2),vi (((ks.getD k yn0).1.free:Int))]]++cap) rfl rfl (cx.ou 11) hcf (map1 (cx.ou 15)) (by rw [Array.empty_append]),(by have h9:=hf W (ks.getD k yn0) cx.upd.to_ext; exact h9)⟩) fun W15 hst15=>?_
  refine then_normal (wbs (fun hs16=>?_) fun hs16=>?_)
  ·refine wp_seq (sqr (sqp [.m 17 5, .m 4 17] ?_))
   refine then_normal (wp_ret (blk_ret (then_ret (then_ret (blk_ret (then_ret ?_))))))
   refine bpr (vi ((k:Int))) (results_1 Try.results106 rpt) ?_
   exact Ret.of (by rw [hkr,idxP_at (yn_get (l:=ks) (k:=k) (by omega)),hs16]; rfl) hst15.ext
  refine wp_skip (blk_normal (then_normal (sqr (sqp [sI 18 ((k:Int)+1) (by omega), .m 8 18] ?_))))
  refine then_normal ?_
  refine ⟨ks.length - ((k+1)),by omega,?_⟩
  exact ⟨(k+1),by omega,by rw [hkr,idxP_at (yn_get (l:=ks) (k:=k) (by omega)),hs16]; rfl,rfl,(by kernel_rfl),hst15.pk []⟩
 refine wp_exit (then_exit (then_exit (blk_eq (then_normal (wp_seq (sqr (sqp [.k 4 (vi (-1))] ?_)))))))
 refine then_normal (wp_ret ?_)
 refine bpr (vi (-1)) (results_1 Try.results106 rpt) ?_
 exact Ret.of (by rw [hkr,List.drop_of_length_le (by omega)]; rfl) hst5.ext
theorem kidxn_kid {A:Option Addr} {c:Nat} {xs:List YnD} {w:World} {eb:Nat} {x:ByteArray} {s kid:Int} (hF:At w A (xs.flatMap ynC)) (hl:xs.length≤100000) (h1:Blk w eb 104 #[.string x, .int .i64 s, .int .i64 kid]):
  Calls Try.prog 106 #[.slice A xs.length c, .func (.func 107) #[] #[.pointer (some ⟨eb,0,none⟩)]] w (Ret (.int .i64 (ldI (xs.map pgN) kid)) w):=by
 rw [ldI,idxP_map]
 exact kidxn_any A c xs 107 #[.pointer (some ⟨eb,0,none⟩)] (fun y=>y.2.1==kid) w hF hl (by kernel_rfl) (fun W k hW=>kleads1_any k eb x s kid W (h1.ext hW))
theorem kleads_g (pg lv rt fr:Int) (hg:ByteArray) (dd:Bool) (EA:Option Addr) (ec n:Nat) (es:List EnD) (BA:Option Addr) (bc:Nat) (xs:List YnD) (w:World) (hE:At w EA (es.flatMap enC)) (hn:es.length=n) (hn1:n≤100) (hB:At w BA (xs.flatMap ynC)) (hbl:xs.length≤100000):
  Calls Try.prog 101 #[.agg #[.int .i64 pg, .int .i64 lv, .int .i64 rt, .string hg, .bool dd, .slice EA n ec, .int .i64 fr], .slice BA xs.length bc] w (Ret (.bool (ldF (xs.map pgN) es)) w):=by
 go_enter Try.func101,Try.ntmps101
 have hst0:=St.start w
 refine wp_seq (sqr ?_)
 refine sqbx #[vi pg,vi lv,vi rt, .string hg, .bool dd, .slice EA n ec,vi fr] hst0 fun B2_1 W1 hst1=>?_
 refine sqp [.k 4 (.bool false)] ?_
 refine then_normal (wp_seq (wp_seq (sqr (sqp [.k 9 (.pointer (some ⟨B2_1,5,none⟩))] ?_))))
 refine sqld 0 hst1 ?_
 refine sqp [.k 11 (vi ((n:Int))), .k 12 (vi 0)] ?_
 refine then_normal (wp_block ?_)
 refine wp_loopT (fun t_ mz az W=>∃ i:Nat,i≤n∧(List.range i).all (fun i=>!ldS (xs.map pgN) (es.getD i en0))=true∧mz=n - i∧az=⟨(ovr (jv az) [(4,4,1,[]),(1,6,3,[]),(3,12,0,[vi ((i:Int))]),(0,13,24,[])] t_).toArray,[]⟩∧St w [] [eB B2_1 116 #[vi pg,vi lv,vi rt, .string hg, .bool dd, .slice EA n ec,vi fr]] W) (n - 0) ?_ ?_
 · -- the loop begins
   exact ⟨0,Nat.zero_le _,rfl,rfl,(by kernel_rfl),hst1.pk [0]⟩
 rintro n7 a7 W7 ⟨i,hi,hall,rfl,hj_,hst7⟩
 refine ovz hj_ fun u7_=>?_
 refine wp_seq (sqr (sqp [.k 13 (.bool (decide ((i:Int) < (n:Int))))] ?_))
 refine then_normal (wp_seq (wds (fun hs9 hs9p=>?_) fun hs9 hs9p=>?_))
 ·refine wp_skip (then_normal (wp_seq (wp_block (wp_seq (sqr ?_)))))
  refine sql (.pointer (some ((ad EA).add (i*3)))) hst7 (fun cx=>run_indexSlM (e:=104) (m:=i) (sz:=3) rfl (by kernel_rfl) (by kernel_rfl) (cx.ou 10) (cx.ou 12) (by omega) (by omega) (hE.ext cx.upd.to_ext) (flatPos (sz:=3) enC_len (by decide) (by omega))) ?_
  refine sql (.agg #[.string ((es.getD i en0).1),vi (((es.getD i en0).2.1:Int)),vi ((es.getD i en0).2.2)]) hst7 (fun cx=>run_loadElt (f:=enC) (m:=i) (sz:=3) (off:=0) (n:=3) rfl (by kernel_rfl) (by kernel_rfl) (cx.ou 14) rfl enC_len (hE.ext cx.upd.to_ext) (en_get (by omega)) (fun k hk=>match k,hk with | 0, _=>rfl | 1, _=>rfl | 2, _=>rfl | k+3,hk=>absurd hk (by omega))) ?_
  refine sqal #[.string ByteArray.empty,vi 0,vi 0] hst7 fun B6_12 W12 hst12=>?_
  refine sqst (n:=3) 1 #[.string ((es.getD i en0).1),vi (((es.getD i en0).2.1:Int)),vi ((es.getD i en0).2.2)] hst12 fun W13 hst13=>?_
  refine then_normal (wp_seq (sqr (sqp [.m 16 1] ?_)))
  refine sqv (.func (.func 107) #[] #[vp B6_12]) hst13 (by
    exact sv0 rfl rfl rfl rfl rfl (fun _ _ _ h=>h) fun ρ β W X cx=>by
     have fF6:ρ (.tmp 6)=vp B6_12:=(cx.ou 6)
     simp [go_sem,Instr.makeFunc,fF6]) fun W15 hst15=>?_
  refine sqk (vi ((ldI (xs.map pgN) ((es.getD i en0).2.2)))) hst15 (fun cx=>⟨_,kidxn_kid (hB.ext cx.upd.to_ext) hbl (cx.bi 1 rfl),(map2 (cx.ou 16) (cx.ou 17))⟩) fun W16 hst16=>?_
  refine sqp [.m 7 18] ?_
  refine then_normal (wp_seq ?_)
  obtain ⟨ix,hN_ix⟩:∃ z,(ldI (xs.map pgN) ((es.getD i en0).2.2))=z:=⟨_,rfl⟩
  rw [hN_ix]
  have hix:=idxP_lt (fun m:Int×NoD=>m.1==(es.getD i en0).2.2) (xs.map pgN) 0 (by omega)
  rw [show idxP (fun m:Int×NoD=>m.1==(es.getD i en0).2.2) 0 (xs.map pgN)=ix from hN_ix,List.length_map] at hix
  refine sqr (sqk (.string leastB) hst16 (fun cx=>⟨_,kleast_any _,map0⟩) fun W18 hst18=>?_)
  refine sqp [.m 8 19] ?_
  refine then_normal ?_
  refine wp_cutT (fun t_ az W=>∃ wt:ByteArray,wt=ldW (xs.map pgN) ix∧az=⟨(ovr (jv az) [(8,8,0,[.string wt]),(11,20,8,[])] t_).toArray,[]⟩∧St w [] [eB B2_1 116 #[vi pg,vi lv,vi rt, .string hg, .bool dd, .slice EA n ec,vi fr],eB B6_12 104 #[.string ((es.getD i en0).1),vi (((es.getD i en0).2.1:Int)),vi ((es.getD i en0).2.2)]] W) ?_ ?_
  ·refine wp_seq (sqr (sqp [.m 20 7, .k 21 (.bool (decide (0 < ix)))] ?_))
   refine then_normal (wds (fun hs23 hs23p=>?_) fun hs23 hs23p=>?_)
   ·refine sqr (sqp [.m 22 1, .m 23 7,sI 24 (ix - 1) (by omega)] ?_)
    refine sql (.pointer (some ((ad BA).add (((ix - 1).toNat)*7)))) hst18 (fun cx=>run_indexSlM (e:=116) (m:=(ix - 1).toNat) (sz:=7) rfl (by kernel_rfl) (by kernel_rfl) (cx.ou 22) (cx.ou 24) (by omega) (by omega) (hB.ext cx.upd.to_ext) (flatPos (sz:=7) ynC_len (by decide) (by omega))) ?_
    refine sql (.pointer (some ((ad BA).add (((ix - 1).toNat)*7+3)))) hst18 (fun cx=>run_fieldAd rfl (by kernel_rfl) (cx.ou 25)) ?_
    refine sql (.string ((xs.getD ((ix - 1).toNat) yn0).1.high)) hst18 (fun cx=>run_load1 rfl (by kernel_rfl) (cx.ou 26) (At.eltc (f:=ynC) (k:=3) ynC_len (hB.ext cx.upd.to_ext) (yn_get (by omega)) rfl)) ?_
    refine sqp [.m 8 27] ?_
    refine then_normal ?_
    exact ⟨((xs.getD ((ix - 1).toNat) yn0).1.high),by rw [ldW,if_pos (by omega)]; rw [getD_pgN]; rfl,(by kernel_rfl),hst18.pk [0,1]⟩
   refine wp_skip (then_normal ?_)
   exact ⟨leastB,by rw [ldW,if_neg (by omega)],(by kernel_rfl),hst18.pk [0,1]⟩
  rintro a20 W20 ⟨wt,hwt,hj_,hst20⟩
  refine ovz hj_ fun u20_=>?_
  refine wp_seq (sqr (sqp [.m 28 7, .k 29 (.bool (decide (ix < 0))), .m 30 29] ?_))
  refine sqw' 30 [31,32,33,34] ?_ rfl (fun hq=>?_) ?_
  rotate_left
  ·refine sqp [.k 31 (vp B6_12)] ?_
   refine sqld 1 hst20 ?_
   refine sqp [.m 33 8, .k 34 (.bool (!(((es.getD i en0).1).toList==wt.toList)))] ?_
   exact sqe
  refine sqwx ?_
  refine sqp [sPo 35 (decide (ix < 0)) (!(((es.getD i en0).1).toList==wt.toList))] ?_
  refine then_normal (wbs (fun hs39=>?_) fun hs39=>?_)
  ·have hs39p:=hs39
   simp only [zB] at hs39p
   refine wp_seq (sqr (sqp [.k 4 (.bool false)] ?_))
   refine then_normal (wp_ret (blk_ret (then_ret (then_ret (blk_ret (then_ret ?_))))))
   refine bpr (.bool false) (results_1 Try.results101 rpt) ?_
   exact Ret.bool (by rw [ldF,hn,all_fail (i:=i) (by omega) (by rw [show ldS (xs.map pgN) (es.getD i en0)=true by rw [ldS,hN_ix,← hwt]; exact hs39]; rfl),Bool.false_and]) hst20.ext
  have hs39p:=hs39
  simp only [zB] at hs39p
  obtain ⟨hs39p1,hs39p2⟩:=hs39p
  refine wp_skip (blk_normal (then_normal (sqr (sqp [sI 36 ((i:Int)+1) (by omega), .m 12 36] ?_))))
  refine then_normal ?_
  refine ⟨n - ((i+1)),by omega,?_⟩
  exact ⟨(i+1),by omega,all_step hall (by rw [show ldS (xs.map pgN) (es.getD i en0)=false by rw [ldS,hN_ix,← hwt]; exact hs39]; rfl),rfl,(by kernel_rfl),hst20.pk [0]⟩
 refine wp_exit (then_exit (then_exit (blk_eq (then_normal (wp_seq (sqr (sqp [.k 37 (.pointer (some ⟨B2_1,5,none⟩))] ?_)))))))
 refine sqld 0 hst7 ?_
 refine sqp [.k 39 (vi ((n:Int))), .k 40 (.bool (decide (0 < (n:Int)))), .m 4 40] ?_
 refine then_normal (wp_ret ?_)
 refine bpr (.bool (decide (0 < (n:Int)))) (results_1 Try.results101 rpt) ?_
 exact Ret.bool (by rw [ldF,hn,show n=i by omega,hall,Bool.true_and]) hst7.ext
/-- right: what fails at a node -/
def rgA (n:NoD) (last:Bool) (lo:ByteArray):Bool:=n.dead||decide (8 < (n.es.length:Int))||(last != (n.high.toList==(⟨#[]⟩:ByteArray).toList))||(last != decide (n.right < 0))||!(srF n.high lo n.es)
def rgB (n:NoD) (i:Nat) (Lb:List (Int×NoD)):Bool:=decide (0 < n.lv)&&(!(ldF Lb n.es)||(((i:Int)==0)&&((n.es.getD 0 en0).2.2 != (Lb.getD 0 (0,nodZ)).1)))
def rgC (n:NoD) (lo:ByteArray):Bool:=(neB lo&&neB n.high)&&lessF n.high lo
def lowF (L:List (Int×NoD)) (i:Nat):ByteArray:=if i=0 then ⟨#[]⟩ else (L.getD (i - 1) (0,nodZ)).2.high
def rgX (L Lb:List (Int×NoD)) (i:Nat):Bool:=rgA (L.getD i (0,nodZ)).2 ((i:Int)==(L.length:Int) - 1) (lowF L i)||rgB (L.getD i (0,nodZ)).2 i Lb||rgC (L.getD i (0,nodZ)).2 (lowF L i)
def rgF (L Lb:List (Int×NoD)):Bool:=((List.range L.length).all fun i=>!rgX L Lb i)&&(decide (0 < (L.length:Int))&&decide ((L.length:Int)≤400))
theorem ld_pos {L:List (Int×NoD)} {es:List EnD} (h:ldF L es=true):0 < L.length∧0 < es.length:=by
 rw [ldF,Bool.and_eq_true] at h
 have h2:0 < es.length:=by have:=of_decide_eq_true h.2; omega
 refine ⟨?_,h2⟩
 have h1:=List.all_eq_true.1 h.1 0 (List.mem_range.2 h2)
 have h3:ldS L (es.getD 0 en0)=false:=by simpa using h1
 rw [ldS,Bool.or_eq_false_iff] at h3
 have h4:=of_decide_eq_false h3.1
 have h5:=idxP_lt (fun m:Int×NoD=>m.1==(es.getD 0 en0).2.2) L 0 (by omega)
 rw [ldI] at h4
 omega
theorem rgx_eq {xs ys:List YnD} {i:Nat} {y:YnD} {lo:ByteArray} (h:(xs.map pgN).getD i (0,nodZ)=pgN y) (hl:lo=lowF (xs.map pgN) i):rgX (xs.map pgN) (ys.map pgN) i=(rgA y.1 ((i:Int)==(xs.length:Int) - 1) lo||rgB y.1 i (ys.map pgN)||rgC y.1 lo):=by rw [rgX,h,← hl,List.length_map]; rfl
theorem low_sz {xs:List YnD} (h:∀ y∈xs,NdOk y.1) (i:Nat):(lowF (xs.map pgN) i).size≤900000:=by
 unfold lowF; split
 ·exact Nat.zero_le _
 ·rw [getD_pgN,List.getD_eq_getElem?_getD]
  cases hx:xs[i - 1]? with
  | none=>exact Nat.zero_le _
  | some y=>exact (h y (List.mem_of_getElem? hx)).hi
theorem kright_g (SA BA:Option Addr) (sc bc:Nat) (xs ys:List YnD) (w:World) (hS:At w SA (xs.flatMap ynC)) (hR:∀ y∈xs,At w y.2.2.1 (y.1.es.flatMap enC)) (hB:At w BA (ys.flatMap ynC)) (hN:∀ y∈xs,NdOk y.1) (hxl:xs.length≤1000) (hyl:ys.length≤1000):
  Calls Try.prog 73 #[.slice SA xs.length sc, .slice BA ys.length bc] w (Ret (.bool (rgF (xs.map pgN) (ys.map pgN))) w):=by
 go_enter Try.func73,Try.ntmps73
 have hst0:=St.start w
 refine wp_seq (sqr (sqp [.k 4 (.bool false)] ?_))
 refine then_normal (wp_seq (sqr (sqp [.k 5 (.string ⟨#[]⟩)] ?_)))
 refine then_normal (wp_seq (wp_seq (sqr (sqp [.m 9 0, .k 10 (vi ((xs.length:Int))), .k 11 (vi 0)] ?_))))
 refine then_normal (wp_block ?_)
 refine wp_loopT (fun t_ mz az W=>∃ i:Nat,∃ lo:ByteArray,i≤xs.length∧lo=lowF (xs.map pgN) i∧(List.range i).all (fun i=>!rgX (xs.map pgN) (ys.map pgN) i)=true∧mz=xs.length - i∧az=⟨(ovr (jv az) [(4,4,1,[.string lo]),(0,6,3,[]),(2,11,0,[vi ((i:Int))]),(0,12,73,[])] t_).toArray,[]⟩∧St w [] [] W) (xs.length - 0) ?_ ?_
 · -- the loop begins
   exact ⟨0,(⟨#[]⟩:ByteArray),Nat.zero_le _,rfl,rfl,rfl,(by kernel_rfl),hst0.pk []⟩
 rintro n6 a6 W6 ⟨i,lo,hi,hlo,hall,rfl,hj_,hst6⟩
 refine ovz hj_ fun u6_=>?_
 refine wp_seq (sqr (sqp [.k 12 (.bool (decide ((i:Int) < (xs.length:Int))))] ?_))
 refine then_normal (wp_seq (wds (fun hs8 hs8p=>?_) fun hs8 hs8p=>?_))
 ·refine wp_skip (then_normal (wp_seq (wp_block (wp_seq ?_))))
  obtain ⟨y_,hy_⟩:∃ z,xs[i]? =some z:=⟨_,yn_get (by omega)⟩
  have hym_:=List.mem_of_getElem? hy_
  have hRy:=hR y_ hym_
  have hNy:=hN y_ hym_
  have hN1:=hNy.len
  have hN2:=hNy.lv
  have hN3:=hNy.rt
  have hN4:=hNy.hi
  have hNz:∀ e∈y_.1.es,e.1.size≤1000000:=fun e he=>Nat.le_trans (hNy.es e he) (by decide)
  have hloz:lo.size≤900000:=by rw [hlo]; exact low_sz hN i
  have hgd:(xs.map pgN).getD i (0,nodZ)=pgN y_:=by rw [getD_pgN,List.getD_eq_getElem?_getD,hy_]; rfl
  refine sqr (sqp [.m 13 11] ?_)
  refine sql (.pointer (some ((ad SA).add (i*7)))) hst6 (fun cx=>run_indexSlM (e:=116) (m:=i) (sz:=7) rfl (by kernel_rfl) (by kernel_rfl) (cx.ou 9) (cx.ou 11) (by omega) (by omega) (hS.ext cx.upd.to_ext) (flatPos (sz:=7) ynC_len (by decide) (by omega))) ?_
  refine sql (.agg #[vi y_.2.1,vi y_.1.lv,vi y_.1.right, .string y_.1.high, .bool y_.1.dead, .slice y_.2.2.1 y_.1.es.length y_.2.2.2,vi ((y_.1.free:Int))]) hst6 (fun cx=>run_loadElt (f:=ynC) (m:=i) (sz:=7) (off:=0) (n:=7) rfl (by kernel_rfl) (by kernel_rfl) (cx.ou 14) rfl ynC_len (hS.ext cx.upd.to_ext) hy_ (fun k hk=>match k,hk with | 0, _=>rfl | 1, _=>rfl | 2, _=>rfl | 3, _=>rfl | 4, _=>rfl | 5, _=>rfl | 6, _=>rfl | k+7,hk=>absurd hk (by omega))) ?_
  refine sqal #[vi 0,vi 0,vi 0, .string ByteArray.empty, .bool false, .slice none 0 0,vi 0] hst6 fun B7_12 W12 hst12=>?_
  refine sqp [.m 6 13] ?_
  refine sqst (n:=7) 0 #[vi y_.2.1,vi y_.1.lv,vi y_.1.right, .string y_.1.high, .bool y_.1.dead, .slice y_.2.2.1 y_.1.es.length y_.2.2.2,vi ((y_.1.free:Int))] hst12 fun W14 hst14=>?_
  refine then_normal (wp_seq (sqr (sqp [.m 16 6, .m 17 0, .k 18 (vi ((xs.length:Int))),sI 19 ((xs.length:Int) - 1) (by omega), .k 20 (.bool ((i:Int)==((xs.length:Int) - 1))), .m 8 20] ?_)))
  refine then_normal (wp_seq (wp_block (wp_seq (wp_seq (sqr (sqp [.k 22 (.pointer (some ⟨B7_12,4,none⟩))] ?_))))))
  refine sqld 0 hst14 ?_
  refine sqp [.m 21 23] ?_
  refine then_normal (wbs (fun hs24=>?_) fun hs24=>?_)
  ·refine wp_skip (then_normal (wct hs24 (wp_seq (sqr (sqp [.k 4 (.bool false)] ?_)))))
   refine then_normal (wp_ret (blk_ret (then_ret (blk_ret (then_ret (then_ret (blk_ret (then_ret ?_))))))))
   refine bpr (.bool false) (results_1 Try.results73 rpt) ?_
   exact Ret.bool (by rw [rgF,all_fail (i:=i) (by rw [List.length_map]; omega) (by rw [rgx_eq hgd hlo]; simp only [rgA,rgB,rgC,neB,bne,getD_pgN,pgN,hs24,Bool.or_false,Bool.false_or,Bool.not_true,Bool.not_false,Bool.or_true,Bool.true_or,Bool.and_true,Bool.true_and,Bool.and_false,Bool.false_and]),Bool.false_and]) hst14.ext
  refine wp_seq (sqr (sqp [.k 24 (.pointer (some ⟨B7_12,5,none⟩))] ?_))
  refine sqld 0 hst14 ?_
  refine sqp [.k 26 (vi ((y_.1.es.length:Int))), .k 27 (.bool (decide (8 < (y_.1.es.length:Int)))), .m 21 27] ?_
  refine then_normal (wds (fun hs31 hs31p=>?_) fun hs31 hs31p=>?_)
  ·refine wp_skip (then_normal (wct hs31 (wp_seq (sqr (sqp [.k 4 (.bool false)] ?_)))))
   refine then_normal (wp_ret (blk_ret (then_ret (blk_ret (then_ret (then_ret (blk_ret (then_ret ?_))))))))
   refine bpr (.bool false) (results_1 Try.results73 rpt) ?_
   exact Ret.bool (by rw [rgF,all_fail (i:=i) (by rw [List.length_map]; omega) (by rw [rgx_eq hgd hlo]; simp only [rgA,rgB,rgC,neB,bne,getD_pgN,pgN,hs24,hs31,Bool.or_false,Bool.false_or,Bool.not_true,Bool.not_false,Bool.or_true,Bool.true_or,Bool.and_true,Bool.true_and,Bool.and_false,Bool.false_and]),Bool.false_and]) hst14.ext
  refine wp_seq (sqr (sqp [.m 28 8, .k 29 (.pointer (some ⟨B7_12,3,none⟩))] ?_))
  refine sqld 0 hst14 ?_
  refine sqp [.k 31 (.bool (y_.1.high.toList==((⟨#[]⟩:ByteArray)).toList))] ?_
  refine sqv (.bool (!(((i:Int)==((xs.length:Int) - 1))==(y_.1.high.toList==((⟨#[]⟩:ByteArray)).toList)))) hst14 (by
    exact sv0 rfl rfl rfl rfl rfl (fun _ _ _ h=>h) fun ρ β W X cx=>by
     have fF28:ρ (.tmp 28)= .bool ((i:Int)==((xs.length:Int) - 1)):=(cx.ou 28)
     have fF31:ρ (.tmp 31)= .bool (y_.1.high.toList==((⟨#[]⟩:ByteArray)).toList):=(cx.ou 31)
     simp [go_sem,fF28,fF31]) fun W37 hst37=>?_
  refine sqp [.m 21 32] ?_
  refine then_normal ?_
  rcases Bool.eq_false_or_eq_true (((i:Int)==((xs.length:Int) - 1))==(y_.1.high.toList==((⟨#[]⟩:ByteArray)).toList)) with hs39 | hs39
  ·refine wp_cond_false (show Act.eval _ _= .bool false from (congrArg Value.bool (by rw [hs39]; rfl))) (wp_seq (sqr (sqp [.m 33 8, .k 34 (.pointer (some ⟨B7_12,2,none⟩))] ?_)))
   refine sqld 0 hst37 ?_
   refine sqp [.k 36 (.bool (decide (y_.1.right < 0)))] ?_
   refine sqv (.bool (!(((i:Int)==((xs.length:Int) - 1))==(decide (y_.1.right < 0))))) hst37 (by
     exact sv0 rfl rfl rfl rfl rfl (fun _ _ _ h=>h) fun ρ β W X cx=>by
      have fF33:ρ (.tmp 33)= .bool ((i:Int)==((xs.length:Int) - 1)):=(cx.ou 33)
      have fF36:ρ (.tmp 36)= .bool (decide (y_.1.right < 0)):=(cx.ou 36)
      simp [go_sem,fF33,fF36]) fun W44 hst44=>?_
   refine sqp [.m 21 37] ?_
   refine then_normal ?_
   rcases Bool.eq_false_or_eq_true (((i:Int)==((xs.length:Int) - 1))==(decide (y_.1.right < 0))) with hs46 | hs46
   ·have hs46p:=beq_iff_eq.1 hs46
    refine wp_cond_false (show Act.eval _ _= .bool false from (congrArg Value.bool (by rw [hs46]; rfl))) (sqr ?_)
    refine sqlb 0 7 hst44 ?_
    refine sqp [.m 39 5] ?_
    refine sqk (.bool (srF y_.1.high lo y_.1.es)) hst44 (fun cx=>⟨_,ksorted_g _ _ _ _ _ _ _ _ _ y_.1.es lo _ (hRy.ext cx.upd.to_ext) rfl (by omega) hNz (by omega) (by omega),(map2 (cx.ou 38) (cx.ou 39))⟩) fun W49 hst49=>?_
    refine sqp [.k 41 (.bool (!(srF y_.1.high lo y_.1.es))), .m 21 41] ?_
    refine then_normal ?_
    rcases Bool.eq_false_or_eq_true (srF y_.1.high lo y_.1.es) with hs52 | hs52
    ·refine wp_cond_false (show Act.eval _ _= .bool false from (congrArg Value.bool (by rw [hs52]; rfl))) (wp_seq ?_)
     rcases hlv_:decide (0 < y_.1.lv) with _ | _
     rotate_left
     rcases hlq_:ldF (ys.map pgN) y_.1.es with _ | _
     ·refine wp_region_Z [0,1,3,7,15,15,63,127,255,511,1023,2047,4095,8191,16383,32767,65535,4095,135167,397311,921599,2097151,4194303,8388607,16777215,33554431] [[],[0],[],[],[0]] [.k 43 (.pointer (some ⟨B7_12,1,none⟩)), .c 44 (vi y_.1.lv), .e 45 (.bool (decide (0 < y_.1.lv))) (.bool true) (congrArg Value.bool hlv_), .k 46 (.bool true), .c 47 (.agg #[vi y_.2.1,vi y_.1.lv,vi y_.1.right, .string y_.1.high, .bool y_.1.dead, .slice y_.2.2.1 y_.1.es.length y_.2.2.2,vi ((y_.1.free:Int))]), .k 48 (.slice BA ys.length bc), .c 49 (.bool false), .k 50 (.bool true), .k 51 (.bool true), .u 52, .u 53, .u 54, .u 55, .u 56, .u 57, .u 58, .u 59, .u 60, .u 61, .u 62, .u 63, .u 64, .u 65, .k 66 (.bool true), .k 67 (.bool true), .k 42 (.bool true)] [0] [1,4,6] [(42,25,1,43),(0,0,25,25)] hst49 ?_ fun W53 hst53=>?_
      ·refine ⟨?_,?_,?_,trivial⟩
       ·exact xs4 rfl id fun cx=>run_load1 rfl (by kernel_rfl) (cx.an 0) ((cx.bi 0 rfl).cell 1)
       ·exact xs5 rfl id (fun cx=>(cx.an 3)) fun cx=>run_loadB (n:=7) rfl (by kernel_rfl) (by kernel_rfl) (cx.ou 7) (cx.bi 0 rfl) (nle rfl) rfl
       ·exact sv_call_on rfl rfl rfl rfl rfl rfl (fun _ _ _ h=>h.trans (congrArg Value.bool hlq_)) (fun _ _ _ _ cx=>(cx.an 3)) fun ρ β W X cx=>⟨_, _,run_callF (args:=#[.agg #[vi y_.2.1,vi y_.1.lv,vi y_.1.right, .string y_.1.high, .bool y_.1.dead, .slice y_.2.2.1 y_.1.es.length y_.2.2.2,vi ((y_.1.free:Int))], .slice BA ys.length bc]) rfl cx.sees rfl (by kernel_rfl) (map2 (cx.an 4) (cx.an 5)),kleads_g _ _ _ _ _ _ _ _ _ y_.1.es BA bc ys _ (hRy.ext cx.upd.to_ext) rfl (by omega) (hB.ext cx.upd.to_ext) (by omega)⟩
      refine then_normal (wct rfl (wp_seq (sqr (sqp [.k 4 (.bool false)] ?_))))
      refine then_normal (wp_ret (blk_ret (then_ret (blk_ret (then_ret (then_ret (blk_ret (then_ret ?_))))))))
      refine bpr (.bool false) (results_1 Try.results73 rpt) ?_
      exact Ret.bool (by rw [rgF,all_fail (i:=i) (by rw [List.length_map]; omega) (by rw [rgx_eq hgd hlo]; simp only [rgA,rgB,rgC,neB,bne,getD_pgN,pgN,hs24,hs31,hs39,hs46,hs52,hlv_,hlq_,Bool.or_false,Bool.false_or,Bool.not_true,Bool.not_false,Bool.or_true,Bool.true_or,Bool.and_true,Bool.true_and,Bool.and_false,Bool.false_and]),Bool.false_and]) hst53.ext
     ·have hlp_:=ld_pos hlq_
      rw [List.length_map] at hlp_
      have hlp1_:=hlp_.1
      have hlp2_:=hlp_.2
      refine wp_region_Z [0,1,3,7,15,15,63,127,255,511,1023,2047,4095,8191,16383,32767,65535,4095,135167,397311,921599,2097151,4194303,8388607,16777215,33554431] [[],[0],[],[],[0],[],[],[],[],[],[],[],[],[0]] [.k 43 (.pointer (some ⟨B7_12,1,none⟩)), .c 44 (vi y_.1.lv), .e 45 (.bool (decide (0 < y_.1.lv))) (.bool true) (congrArg Value.bool hlv_), .k 46 (.bool true), .c 47 (.agg #[vi y_.2.1,vi y_.1.lv,vi y_.1.right, .string y_.1.high, .bool y_.1.dead, .slice y_.2.2.1 y_.1.es.length y_.2.2.2,vi ((y_.1.free:Int))]), .k 48 (.slice BA ys.length bc), .c 49 (.bool true), .k 50 (.bool false), .k 51 (.bool false), .k 52 (vi ((i:Int))), .k 53 (.bool ((i:Int)==0)), .k 54 (.bool ((i:Int)==0)), .z 55 ((i:Int)==0) (.pointer (some ⟨B7_12,5,none⟩)), .y 56 ((i:Int)==0) (.slice y_.2.2.1 y_.1.es.length y_.2.2.2), .y 57 ((i:Int)==0) (.pointer (some ((ad y_.2.2.1).add (0*3)))), .y 58 ((i:Int)==0) (.pointer (some ((ad y_.2.2.1).add (0*3+2)))), .y 59 ((i:Int)==0) (vi ((y_.1.es.getD 0 en0).2.2)), .z 60 ((i:Int)==0) (.slice BA ys.length bc), .y 61 ((i:Int)==0) (.pointer (some ((ad BA).add (0*7)))), .y 62 ((i:Int)==0) (.pointer (some ((ad BA).add (0*7+0)))), .y 63 ((i:Int)==0) (vi ((ys.getD 0 yn0).2.1)), .z 64 ((i:Int)==0) (.bool (((y_.1.es.getD 0 en0).2.2) != ((ys.getD 0 yn0).2.1))),tA 65 ((i:Int)==0) (((y_.1.es.getD 0 en0).2.2) != ((ys.getD 0 yn0).2.1)), .k 66 (.bool (((i:Int)==0)&&(((y_.1.es.getD 0 en0).2.2) != ((ys.getD 0 yn0).2.1)))), .k 67 (.bool (((i:Int)==0)&&(((y_.1.es.getD 0 en0).2.2) != ((ys.getD 0 yn0).2.1)))), .k 42 (.bool (((i:Int)==0)&&(((y_.1.es.getD 0 en0).2.2) != ((ys.getD 0 yn0).2.1))))] [0] [1,4,6,13,14,15,16,18,19,20] [(42,25,1,43),(0,0,25,25)] hst49 ?_ fun W55 hst55=>?_
      ·refine ⟨?_,?_,?_,?_,?_,?_,?_,?_,?_,?_,trivial⟩
       ·exact xs4 rfl id fun cx=>run_load1 rfl (by kernel_rfl) (cx.an 0) ((cx.bi 0 rfl).cell 1)
       ·exact xs5 rfl id (fun cx=>(cx.an 3)) fun cx=>run_loadB (n:=7) rfl (by kernel_rfl) (by kernel_rfl) (cx.ou 7) (cx.bi 0 rfl) (nle rfl) rfl
       ·exact sv_call_on rfl rfl rfl rfl rfl rfl (fun _ _ _ h=>h.trans (congrArg Value.bool hlq_)) (fun _ _ _ _ cx=>(cx.an 3)) fun ρ β W X cx=>⟨_, _,run_callF (args:=#[.agg #[vi y_.2.1,vi y_.1.lv,vi y_.1.right, .string y_.1.high, .bool y_.1.dead, .slice y_.2.2.1 y_.1.es.length y_.2.2.2,vi ((y_.1.free:Int))], .slice BA ys.length bc]) rfl cx.sees rfl (by kernel_rfl) (map2 (cx.an 4) (cx.an 5)),kleads_g _ _ _ _ _ _ _ _ _ y_.1.es BA bc ys _ (hRy.ext cx.upd.to_ext) rfl (by omega) (hB.ext cx.upd.to_ext) (by omega)⟩
       ·exact m2 rfl (fun _ _ _ h=>h) (fun cx=>(cx.an 11)) fun cx hq=>run_load1 rfl (by kernel_rfl) (mbv (cx.an 12) hq) ((cx.bi 0 rfl).cell 5)
       ·exact m2 rfl (fun _ _ _ h=>h) (fun cx=>(cx.an 11)) fun cx hq=>run_indexSlM (e:=104) (m:=0) (sz:=3) rfl (by kernel_rfl) (by kernel_rfl) (mbv (cx.an 13) hq) (cx.co _) (by have hq_:=hq; simp only [zB] at hq_; omega) (by have hq_:=hq; simp only [zB] at hq_; omega) (hRy.ext cx.upd.to_ext) (flatPos (sz:=3) enC_len (by decide) (by have hq_:=hq; simp only [zB] at hq_; omega))
       ·exact m2 rfl (fun _ _ _ h=>h) (fun cx=>(cx.an 11)) fun cx hq=>run_fieldAd rfl (by kernel_rfl) (mbv (cx.an 14) hq)
       ·exact m2 rfl (fun _ _ _ h=>h) (fun cx=>(cx.an 11)) fun cx hq=>run_load1 rfl (by kernel_rfl) (mbv (cx.an 15) hq) (At.eltc (f:=enC) (k:=2) enC_len (hRy.ext cx.upd.to_ext) (en_get (by have hq_:=hq; simp only [zB] at hq_; omega)) rfl)
       ·exact m2 rfl (fun _ _ _ h=>h) (fun cx=>(cx.an 11)) fun cx hq=>run_indexSlM (e:=116) (m:=0) (sz:=7) rfl (by kernel_rfl) (by kernel_rfl) (mbv (cx.an 17) hq) (cx.co _) (by have hq_:=hq; simp only [zB] at hq_; omega) (by have hq_:=hq; simp only [zB] at hq_; omega) (hB.ext cx.upd.to_ext) (flatPos (sz:=7) ynC_len (by decide) (by have hq_:=hq; simp only [zB] at hq_; omega))
       ·exact m2 rfl (fun _ _ _ h=>h) (fun cx=>(cx.an 11)) fun cx hq=>run_fieldAd rfl (by kernel_rfl) (mbv (cx.an 18) hq)
       ·exact m2 rfl (fun _ _ _ h=>h) (fun cx=>(cx.an 11)) fun cx hq=>run_load1 rfl (by kernel_rfl) (mbv (cx.an 19) hq) (At.eltc (f:=ynC) (k:=0) ynC_len (hB.ext cx.upd.to_ext) (yn_get (by have hq_:=hq; simp only [zB] at hq_; omega)) rfl)
      refine then_normal (wbs (fun hs56=>?_) fun hs56=>?_)
      ·have hs56p:=hs56
       simp only [zB] at hs56p
       obtain ⟨hs56p1,hs56p2⟩:=hs56p
       refine wp_seq (sqr (sqp [.k 4 (.bool false)] ?_))
       refine then_normal (wp_ret (blk_ret (then_ret (blk_ret (then_ret (then_ret (blk_ret (then_ret ?_))))))))
       refine bpr (.bool false) (results_1 Try.results73 rpt) ?_
       simp only [bne] at hs56
       exact Ret.bool (by rw [rgF,all_fail (i:=i) (by rw [List.length_map]; omega) (by rw [rgx_eq hgd hlo]; simp only [rgA,rgB,rgC,neB,bne,getD_pgN,pgN,hs24,hs31,hs39,hs46,hs52,hlv_,hlq_,hs56,Bool.or_false,Bool.false_or,Bool.not_true,Bool.not_false,Bool.or_true,Bool.true_or,Bool.and_true,Bool.true_and,Bool.and_false,Bool.false_and]),Bool.false_and]) hst55.ext
      have hs56p:=hs56
      simp only [zB] at hs56p
      refine wp_seq (sqr (sqp [.m 69 5, .k 70 (.bool (!(lo.toList==((⟨#[]⟩:ByteArray)).toList))), .m 71 70] ?_))
      refine sqw' 71 [72,73,74] ?_ rfl (fun hq=>?_) ?_
      rotate_left
      ·refine sqp [.k 72 (.pointer (some ⟨B7_12,3,none⟩))] ?_
       refine sqld 0 hst55 ?_
       refine sqp [.k 74 (.bool (!(y_.1.high.toList==((⟨#[]⟩:ByteArray)).toList)))] ?_
       exact sqe
      refine sqwx ?_
      refine sqp [sPa 75 (!(lo.toList==((⟨#[]⟩:ByteArray)).toList)) (!(y_.1.high.toList==((⟨#[]⟩:ByteArray)).toList)), .m 76 75] ?_
      refine sqwW 76 [77,78,79,80] ?_ hst55 rfl (fun hq=>?_) fun W70 hst70=>?_
      rotate_left
      ·have hq_:=hq
       try simp only [zB] at hq_
       refine sqp [.k 77 (.pointer (some ⟨B7_12,3,none⟩))] ?_
       refine sqld 0 hst55 ?_
       refine sqp [.m 79 5] ?_
       refine sqk (.bool (lessF y_.1.high lo)) hst55 (fun cx=>⟨_,kless_any y_.1.high lo _ (by omega) (by omega),(map2 (cx.ou 78) (cx.ou 79))⟩) fun W69 hst69=>?_
       exact sqE hst69
      refine sqwx ?_
      refine sqp [sPa 81 ((!(lo.toList==((⟨#[]⟩:ByteArray)).toList))&&(!(y_.1.high.toList==((⟨#[]⟩:ByteArray)).toList))) (lessF y_.1.high lo), .m 68 81] ?_
      refine then_normal (wbs (fun hs73=>?_) fun hs73=>?_)
      ·have hs73p:=hs73
       simp only [zB] at hs73p
       obtain ⟨⟨hs73p1,hs73p2⟩,hs73p3⟩:=hs73p
       refine wp_seq (sqr (sqp [.k 4 (.bool false)] ?_))
       refine then_normal (wp_ret (blk_ret (then_ret (blk_ret (then_ret (then_ret (blk_ret (then_ret ?_))))))))
       refine bpr (.bool false) (results_1 Try.results73 rpt) ?_
       simp only [bne] at hs56
       exact Ret.bool (by rw [rgF,all_fail (i:=i) (by rw [List.length_map]; omega) (by rw [rgx_eq hgd hlo]; simp only [rgA,rgB,rgC,neB,bne,getD_pgN,pgN,hs24,hs31,hs39,hs46,hs52,hlv_,hlq_,hs56,hs73,Bool.or_false,Bool.false_or,Bool.not_true,Bool.not_false,Bool.or_true,Bool.true_or,Bool.and_true,Bool.true_and,Bool.and_false,Bool.false_and]),Bool.false_and]) hst70.ext
      have hs73p:=hs73
      simp only [zB] at hs73p
      refine wp_skip (blk_normal (then_normal (sqr (sqp [.k 82 (.pointer (some ⟨B7_12,3,none⟩))] ?_))))
      refine sqld 0 hst70 ?_
      refine sqp [.m 5 83] ?_
      refine blk_normal (then_normal (sqr (sqp [sI 84 ((i:Int)+1) (by omega), .m 11 84] ?_)))
      refine then_normal ?_
      simp only [bne] at hs56
      refine ⟨xs.length - ((i+1)),by omega,?_⟩
      exact ⟨(i+1),y_.1.high,by omega,by rw [lowF,if_neg (by omega),Nat.add_sub_cancel,hgd]; rfl,all_step hall (by rw [rgx_eq hgd hlo]; simp only [rgA,rgB,rgC,neB,bne,getD_pgN,pgN,hs24,hs31,hs39,hs46,hs52,hlv_,hlq_,hs56,hs73,Bool.or_false,Bool.false_or,Bool.not_true,Bool.not_false,Bool.or_true,Bool.true_or,Bool.and_true,Bool.true_and,Bool.and_false,Bool.false_and]),rfl,(by kernel_rfl),hst70.pk []⟩
     ·refine wp_region_Z [0,1,3,7,15,15,63,127,255,511,1023,2047,4095,8191,16383,32767,65535,4095,135167,397311,921599,2097151,4194303,8388607,16777215,33554431] [[],[0]] [.k 43 (.pointer (some ⟨B7_12,1,none⟩)), .c 44 (vi y_.1.lv), .e 45 (.bool (decide (0 < y_.1.lv))) (.bool false) (congrArg Value.bool hlv_), .k 46 (.bool false), .u 47, .u 48, .u 49, .u 50, .u 51, .u 52, .u 53, .u 54, .u 55, .u 56, .u 57, .u 58, .u 59, .u 60, .u 61, .u 62, .u 63, .u 64, .u 65, .u 66, .k 67 (.bool false), .k 42 (.bool false)] [0] [1] [(42,25,1,43),(0,0,25,25)] hst49 ?_ fun W80 hst80=>?_
      ·refine ⟨?_,trivial⟩
       ·exact xs4 rfl id fun cx=>run_load1 rfl (by kernel_rfl) (cx.an 0) ((cx.bi 0 rfl).cell 1)
      refine then_normal (wcf rfl (wp_seq (sqr (sqp [.m 69 5, .k 70 (.bool (!(lo.toList==((⟨#[]⟩:ByteArray)).toList))), .m 71 70] ?_))))
      refine sqw' 71 [72,73,74] ?_ rfl (fun hq=>?_) ?_
      rotate_left
      ·refine sqp [.k 72 (.pointer (some ⟨B7_12,3,none⟩))] ?_
       refine sqld 0 hst80 ?_
       refine sqp [.k 74 (.bool (!(y_.1.high.toList==((⟨#[]⟩:ByteArray)).toList)))] ?_
       exact sqe
      refine sqwx ?_
      refine sqp [sPa 75 (!(lo.toList==((⟨#[]⟩:ByteArray)).toList)) (!(y_.1.high.toList==((⟨#[]⟩:ByteArray)).toList)), .m 76 75] ?_
      refine sqwW 76 [77,78,79,80] ?_ hst80 rfl (fun hq=>?_) fun W93 hst93=>?_
      rotate_left
      ·have hq_:=hq
       try simp only [zB] at hq_
       refine sqp [.k 77 (.pointer (some ⟨B7_12,3,none⟩))] ?_
       refine sqld 0 hst80 ?_
       refine sqp [.m 79 5] ?_
       refine sqk (.bool (lessF y_.1.high lo)) hst80 (fun cx=>⟨_,kless_any y_.1.high lo _ (by omega) (by omega),(map2 (cx.ou 78) (cx.ou 79))⟩) fun W92 hst92=>?_
       exact sqE hst92
      refine sqwx ?_
      refine sqp [sPa 81 ((!(lo.toList==((⟨#[]⟩:ByteArray)).toList))&&(!(y_.1.high.toList==((⟨#[]⟩:ByteArray)).toList))) (lessF y_.1.high lo), .m 68 81] ?_
      refine then_normal (wbs (fun hs96=>?_) fun hs96=>?_)
      ·have hs96p:=hs96
       simp only [zB] at hs96p
       obtain ⟨⟨hs96p1,hs96p2⟩,hs96p3⟩:=hs96p
       refine wp_seq (sqr (sqp [.k 4 (.bool false)] ?_))
       refine then_normal (wp_ret (blk_ret (then_ret (blk_ret (then_ret (then_ret (blk_ret (then_ret ?_))))))))
       refine bpr (.bool false) (results_1 Try.results73 rpt) ?_
       exact Ret.bool (by rw [rgF,all_fail (i:=i) (by rw [List.length_map]; omega) (by rw [rgx_eq hgd hlo]; simp only [rgA,rgB,rgC,neB,bne,getD_pgN,pgN,hs24,hs31,hs39,hs46,hs52,hlv_,hs96,Bool.or_false,Bool.false_or,Bool.not_true,Bool.not_false,Bool.or_true,Bool.true_or,Bool.and_true,Bool.true_and,Bool.and_false,Bool.false_and]),Bool.false_and]) hst93.ext
      have hs96p:=hs96
      simp only [zB] at hs96p
      refine wp_skip (blk_normal (then_normal (sqr (sqp [.k 82 (.pointer (some ⟨B7_12,3,none⟩))] ?_))))
      refine sqld 0 hst93 ?_
      refine sqp [.m 5 83] ?_
      refine blk_normal (then_normal (sqr (sqp [sI 84 ((i:Int)+1) (by omega), .m 11 84] ?_)))
      refine then_normal ?_
      refine ⟨xs.length - ((i+1)),by omega,?_⟩
      exact ⟨(i+1),y_.1.high,by omega,by rw [lowF,if_neg (by omega),Nat.add_sub_cancel,hgd]; rfl,all_step hall (by rw [rgx_eq hgd hlo]; simp only [rgA,rgB,rgC,neB,bne,getD_pgN,pgN,hs24,hs31,hs39,hs46,hs52,hlv_,hs96,Bool.or_false,Bool.false_or,Bool.not_true,Bool.not_false,Bool.or_true,Bool.true_or,Bool.and_true,Bool.true_and,Bool.and_false,Bool.false_and]),rfl,(by kernel_rfl),hst93.pk []⟩
    refine wp_cond_true (show Act.eval _ _= .bool true from (congrArg Value.bool (by rw [hs52]; rfl))) (wp_seq (sqr (sqp [.k 4 (.bool false)] ?_)))
    refine then_normal (wp_ret (blk_ret (then_ret (blk_ret (then_ret (then_ret (blk_ret (then_ret ?_))))))))
    refine bpr (.bool false) (results_1 Try.results73 rpt) ?_
    exact Ret.bool (by rw [rgF,all_fail (i:=i) (by rw [List.length_map]; omega) (by rw [rgx_eq hgd hlo]; simp only [rgA,rgB,rgC,neB,bne,getD_pgN,pgN,hs24,hs31,hs39,hs46,hs52,Bool.or_false,Bool.false_or,Bool.not_true,Bool.not_false,Bool.or_true,Bool.true_or,Bool.and_true,Bool.true_and,Bool.and_false,Bool.false_and]),Bool.false_and]) hst49.ext
   have hs46p:=beq_eq_false_iff_ne.1 hs46
   refine wp_cond_true (show Act.eval _ _= .bool true from (congrArg Value.bool (by rw [hs46]; rfl))) (wp_skip (then_normal (wp_cond_true (show Act.eval _ _= .bool true from (congrArg Value.bool (by rw [hs46]; rfl))) (wp_seq (sqr (sqp [.k 4 (.bool false)] ?_))))))
   refine then_normal (wp_ret (blk_ret (then_ret (blk_ret (then_ret (then_ret (blk_ret (then_ret ?_))))))))
   refine bpr (.bool false) (results_1 Try.results73 rpt) ?_
   exact Ret.bool (by rw [rgF,all_fail (i:=i) (by rw [List.length_map]; omega) (by rw [rgx_eq hgd hlo]; simp only [rgA,rgB,rgC,neB,bne,getD_pgN,pgN,hs24,hs31,hs39,hs46,Bool.or_false,Bool.false_or,Bool.not_true,Bool.not_false,Bool.or_true,Bool.true_or,Bool.and_true,Bool.true_and,Bool.and_false,Bool.false_and]),Bool.false_and]) hst44.ext
  refine wp_cond_true (show Act.eval _ _= .bool true from (congrArg Value.bool (by rw [hs39]; rfl))) (wp_skip (then_normal (wp_cond_true (show Act.eval _ _= .bool true from (congrArg Value.bool (by rw [hs39]; rfl))) (wp_seq (sqr (sqp [.k 4 (.bool false)] ?_))))))
  refine then_normal (wp_ret (blk_ret (then_ret (blk_ret (then_ret (then_ret (blk_ret (then_ret ?_))))))))
  refine bpr (.bool false) (results_1 Try.results73 rpt) ?_
  exact Ret.bool (by rw [rgF,all_fail (i:=i) (by rw [List.length_map]; omega) (by rw [rgx_eq hgd hlo]; simp only [rgA,rgB,rgC,neB,bne,getD_pgN,pgN,hs24,hs31,hs39,Bool.or_false,Bool.false_or,Bool.not_true,Bool.not_false,Bool.or_true,Bool.true_or,Bool.and_true,Bool.true_and,Bool.and_false,Bool.false_and]),Bool.false_and]) hst37.ext
 refine wp_exit (then_exit (then_exit (blk_eq (then_normal (wp_seq (sqr (sqp [.m 85 0, .k 86 (vi ((xs.length:Int))), .k 87 (.bool (decide (0 < (xs.length:Int)))), .m 88 87] ?_)))))))
 refine sqw 88 [89,90,91] rfl (fun _=>sqp [.m 89 0, .k 90 (vi ((xs.length:Int))), .k 91 (.bool (decide ((xs.length:Int)≤400)))] sqe) ?_
 refine sqp [sPa 92 (decide (0 < (xs.length:Int))) (decide ((xs.length:Int)≤400)), .m 4 92] ?_
 refine then_normal (wp_ret ?_)
 refine bpr (.bool ((decide (0 < (xs.length:Int)))&&(decide ((xs.length:Int)≤400)))) (results_1 Try.results73 rpt) ?_
 exact Ret.bool (by rw [rgF,List.length_map,show xs.length=i by omega,hall,Bool.true_and]) hst6.ext
end
section
open Go.RowKit
/-- the level below -/
def belowL (ps:List PgS) (root:Int):Nat→List (Int×NoD)
 | 0=>[]
 | k+1=>rowF ps root (k:Int)
/-- what fails at a level -/
def ckX (ps:List PgS) (root h:Int) (k:Nat):Bool:=(((k:Int)==h)&&(((rowF ps root (k:Int)).length:Int) != 1))||(decide (0 < (k:Int))&&(((belowL ps root k).length:Int)==0))||!(rgF (rowF ps root (k:Int)) (belowL ps root k))
def checkF (ps:List PgS) (root:Int):Int:=match ndAt ps root with
 | none=>22
 | some n=>if ((List.range (n.lv+1).toNat).all fun k=>!ckX ps root n.lv k) then 0 else 11
theorem row_nd {ps:List PgS} {root lv:Int}:∀ y∈rowF ps root lv,ndAt ps y.1=some y.2∧y.2.lv=lv:=fun y hy=>by
 unfold rowF at hy
 split at hy
 ·cases hy
 ·exact chn_at y hy
theorem below_len (ps:List PgS) (root:Int) (k:Nat):(belowL ps root k).length≤1000:=by
 cases k with
 | zero=>exact Nat.zero_le _
 | succ k=>exact row_len _ _ _
theorem kright_cl {SA BA:Option Addr} {sc bc:Nat} {L Lb:List (Int×NoD)} {fp fq:List Nat} {w:World} (h:(eCL SA L fp).holds w) (hb:(eCL BA Lb fq).holds w) (hN:∀ y∈L,NdOk y.2) (hl:L.length≤1000) (hlb:Lb.length≤1000):
  Calls Try.prog 73 #[.slice SA L.length sc, .slice BA Lb.length bc] w (Ret (.bool (rgF L Lb)) w):=by
 obtain ⟨xs,rfl, _,h1,h2⟩:=h
 obtain ⟨ys,rfl, _,h3, _⟩:=hb
 rw [List.length_map] at hl hlb ⊢
 rw [List.length_map]
 exact kright_g SA BA sc bc xs ys w h1 (fun y hy=>(h2 y hy).2) h3 (fun y hy=>hN (pgN y) (List.mem_map.2 ⟨y,hy,rfl⟩)) hl hlb
theorem St.cl0 {w W:World} {bor:List Nat} {L:List Ent} (h:St w bor L W):St w bor (L++[eCL none [] []]) W:=by
 refine ⟨h.upd,fun e he=>?_,List.pairwise_append.2 ⟨h.apart,List.pairwise_singleton _ _,fun a ha b hb k hk hkb=>?_⟩⟩
 ·rcases List.mem_append.1 he with he | he
  ·exact h.ok e he
  ·rw [List.mem_singleton] at he; subst he
   exact ⟨⟨[],rfl,(fun ad e=>nomatch e),At.nil _ _,fun y hy=>absurd hy (by simp)⟩,eCL_loc _ _ _,fun k hk=>by simp [eCL] at hk⟩
 ·rw [List.mem_singleton] at hb; subst hb; simp [eCL] at hkb
theorem ck_ok {ps:List PgS} {root:Int} {n:NoD} (h:ndAt ps root=some n) {k:Nat} (hk:(k:Int)=n.lv+1) (ha:(List.range k).all (fun k=>!ckX ps root n.lv k)=true):(0:Int)=checkF ps root:=by
 rw [checkF,h]
 dsimp only
 rw [show (n.lv+1).toNat=k by omega,if_pos ha]
theorem ck_bad {ps:List PgS} {root:Int} {n:NoD} (h:ndAt ps root=some n) {k:Nat} (hk:(k:Int) < n.lv+1) (ha:ckX ps root n.lv k=true):(11:Int)=checkF ps root:=by
 rw [checkF,h]
 dsimp only
 rw [all_fail (i:=k) (by omega) (by rw [ha]; rfl)]; rfl
theorem ck_none {ps:List PgS} {root:Int} (h:ndAt ps root=none):(22:Int)=checkF ps root:=by rw [checkF,h]
theorem kcheck_g (tt:TypeId) (tv:Value) (root:Int) (ps:List PgS) (w:World) (hS:PgsOk w tt tv ps) (hok:OkS ps) (hoc:OkC ps):
  Calls Try.prog 37 #[.iface tt (tv), .int .i64 root] w (Ret (.int .i64 (checkF ps root)) w):=by
 go_enter Try.func37,Try.ntmps37
 have hst0:=St.start w
 refine wp_seq (sqr (sqp [.k 4 (vi 0)] ?_))
 refine then_normal (wp_seq ?_)
 rcases hnd:ndAt ps root with _ | nd
 ·refine wp_region_Y [0,0,3,7,15,15,0,95,255] [[],[],[],[],[],[],[],[0]] [[],[],[],[],[],[],[0],[1]] [[],[],[],[],[],[],[],[0]] [.k 11 (.iface tt (tv)), .k 12 (vi root), .a 13, .a 10, .a 14, .c 15 (.bool false), .a 5, .n, .k 6 (.bool false)] (fun ix σ β X=>match ix with | 0=>True | 1=>True | 2=>σ 13= .tuple #[.agg #[vi (iv (tg (tg (β 13) 0) 0)),vi 0,vi 0, .string ((⟨#[]⟩:ByteArray)), .bool false, .slice none 0 0,vi 0], .bool false] | 3=>σ 10= .tuple #[.agg #[vi (iv (tg (tg (β 13) 0) 0)),vi 0,vi 0, .string ((⟨#[]⟩:ByteArray)), .bool false, .slice none 0 0,vi 0], .bool false] | 4=>σ 14= .agg #[vi (iv (tg (tg (β 13) 0) 0)),vi 0,vi 0, .string ((⟨#[]⟩:ByteArray)), .bool false, .slice none 0 0,vi 0] | 5=>True | 6=>σ 5=vp (pb (β 5))∧X 0=eB (pb (β 5)) 116 #[vi 0,vi 0,vi 0, .string ByteArray.empty, .bool false, .slice none 0 0,vi 0] | 7=>X 1=eB (pb (β 5)) 116 #[vi (iv (tg (tg (β 13) 0) 0)),vi 0,vi 0, .string ((⟨#[]⟩:ByteArray)), .bool false, .slice none 0 0,vi 0] | _=>True) [1] [2,3,4,5,6,7] [(5,6,3,7),(3,3,1,4),(0,0,3,3),(0,4,2,2)] hst0 ?_ ?_ ?_
  ·exact fun ix _ _ _ _ _ _ hs hb hx h=>match ix,h with
   | 2,h=>by dsimp only; rw [← hs 13 rfl,← hb 13 rfl]; exact h
   | 3,h=>by dsimp only; rw [← hs 10 rfl,← hb 13 rfl]; exact h
   | 4,h=>by dsimp only; rw [← hs 14 rfl,← hb 13 rfl]; exact h
   | 6,h=>by dsimp only; rw [← hs 5 rfl,← hb 5 rfl,← hx 0 rfl]; exact h
   | 7,h=>by dsimp only; rw [← hb 5 rfl,← hb 13 rfl,← hx 1 rfl]; exact h
   | 0, _ | 1, _ | 5, _ | _+8, _=>trivial
  ·refine ⟨?_,?_,?_,?_,?_,?_,trivial⟩
   ·refine svA fun ρ β W X cx=>?_
    refine DoesU.call (run_callF (args:=#[.iface tt (tv),vi root]) rfl cx.sees rfl (by kernel_rfl) (map2 (cx.an 0) (cx.an 1))) ?_
    refine (kd_no hnd (kat_any _ _ ps root _ (hS.ext cx.upd.to_ext) hok hoc)).mono ?_
    rintro e W1 ⟨p4,rfl,hx⟩
    refine ⟨_,rfl,post_call [] rfl rfl hx (by simp) List.Pairwise.nil (fun σ β' X' hs hb hv hN=>?_)⟩
    have hv1:=(hv 13 rfl).1; have hv2:=(hv 13 rfl).2
    exact hv1.trans (by rw [hv2]; rfl)
   ·exact sv rfl rfl rfl rfl rfl _ (fun _ _ _ h=>h) (fun β β' h=>by rw [h 13 (by decide)]) fun ρ β W X cx=>run_move' rfl (dTn (cx.an 2))
   ·exact sv rfl rfl rfl rfl rfl _ (fun _ _ _ h=>h) (fun β β' h=>by rw [h 13 (by decide)]) fun ρ β W X cx=>run_extract' rfl (dTn (cx.an 3)) rfl
   ·exact xs4 rfl id fun cx=>run_extract' rfl (dTn (cx.an 3)) rfl
   ·refine svA fun ρ β W X cx=>?_
    exact dv_alloc (cs:=#[vi 0,vi 0,vi 0, .string ByteArray.empty, .bool false, .slice none 0 0,vi 0]) rfl (by kernel_rfl) rfl rfl (fun σ β' X' hs hb hv hx=>⟨hv,hx⟩)
   ·refine svA fun ρ β W X cx=>?_
    exact dv_store (n:=7) rfl (dTn (cx.an 6)).1 (dTn (cx.an 4)) (by kernel_rfl) (by kernel_rfl) (by kernel_rfl) cx (dTn (cx.an 6)).2 rfl (nle rfl) (by kernel_rfl) rfl rfl rfl (fun σ β' X' hs hb hx=>by rw [hb 5,hb 13]; exact hx)
  intro σ β X W2 hD hst2 fr hfr
  obtain ⟨pg13_2,hu_pg13_2⟩:∃ z,iv (tg (tg (β 13) 0) 0)=z:=⟨_,rfl⟩
  obtain ⟨B5_2,hu_B5_2⟩:∃ z,pb (β 5)=z:=⟨_,rfl⟩
  simp only [exq 1 ((dTn (hD 7 lq))),hu_pg13_2,hu_B5_2] at hst2
  simp only [ed 13 ((dTn (hD 2 lq))),ed 10 ((dTn (hD 3 lq))),ed 14 ((dTn (hD 4 lq))),ed 5 ((dTn (hD 6 lq)).1),hu_pg13_2,hu_B5_2] at hfr
  clear hD hu_pg13_2 hu_B5_2; subst hfr; clear σ β X
  refine then_normal (wp_seq (wp_seq (sqr (sqp [.k 16 (.bool false), .k 17 (.bool true)] ?_))))
  refine then_normal (wct rfl (wp_seq (sqr (sqp [.k 4 (vi 22)] ?_))))
  refine then_normal (wp_ret (then_ret ?_))
  refine bpr (vi 22) (results_1 Try.results37 rpt) ?_
  exact Ret.of (by rw [← ck_none hnd]) hst2.ext
 ·have hN0:=nd_ok hok hnd
  have hN4:=hN0.lv
  refine sqr (sqp [.m 11 0, .m 12 1] ?_)
  refine sqk2 (fun EA13_8 ec13_8=> .tuple #[.agg #[vi root,vi nd.lv,vi nd.right, .string nd.high, .bool nd.dead, .slice EA13_8 nd.es.length ec13_8,vi ((nd.free:Int))], .bool true]) (fun EA13_8 ec13_8=>eO 104 3 (.slice EA13_8 nd.es.length ec13_8) nd.es.length (nd.es.flatMap enC)) hst0 (fun cx=>⟨_,(kd_yes hnd (kat_any _ _ ps root _ (hS.ext cx.upd.to_ext) hok hoc)).mono (by rintro e W1 ⟨EA4,ec4,rfl,hs4⟩; exact ⟨_, _,rfl,hs4⟩),(map2 (cx.ou 11) (cx.ou 12))⟩) fun EA13_8 ec13_8 W8 hst8=>?_
  refine sqp [.m 10 13, .k 14 (.agg #[vi root,vi nd.lv,vi nd.right, .string nd.high, .bool nd.dead, .slice EA13_8 nd.es.length ec13_8,vi ((nd.free:Int))]), .k 15 (.bool true)] ?_
  refine sqal #[vi 0,vi 0,vi 0, .string ByteArray.empty, .bool false, .slice none 0 0,vi 0] hst8 fun B5_12 W12 hst12=>?_
  refine sqst (n:=7) 1 #[vi root,vi nd.lv,vi nd.right, .string nd.high, .bool nd.dead, .slice EA13_8 nd.es.length ec13_8,vi ((nd.free:Int))] hst12 fun W13 hst13=>?_
  refine sqp [.k 6 (.bool true)] ?_
  refine then_normal (wp_seq (wp_seq (sqr (sqp [.k 16 (.bool true), .k 17 (.bool false)] ?_))))
  refine then_normal (wcf rfl (wp_skip (then_normal (wp_seq (sqr (sqp [.k 7 (.slice none 0 0)] ?_))))))
  refine then_normal (wp_seq (wp_seq (sqr (sqp [.k 18 (.pointer (some ⟨B5_12,1,none⟩))] ?_))))
  refine sqld 1 hst13 ?_
  refine sqp [sI 20 (nd.lv+1) (by omega), .k 21 (vi 0)] ?_
  refine then_normal (wp_block ?_)
  have hcl_:=hst13.cl0
  simp only [List.cons_append,List.nil_append] at hcl_
  refine wp_loopT (fun t_ mz az W=>∃ k:Nat,∃ BA:Option Addr,∃ bc:Nat,∃ fb:List Nat,(k:Int)≤nd.lv+1∧(List.range k).all (fun k=>!ckX ps root nd.lv k)=true∧mz=(nd.lv+1).toNat - k∧az=⟨(ovr (jv az) [(4,4,1,[]),(2,7,0,[.slice BA ((belowL ps root k).length) bc]),(0,8,2,[]),(11,21,0,[vi ((k:Int))]),(0,22,33,[])] t_).toArray,[]⟩∧St w [] [eB B5_12 116 #[vi root,vi nd.lv,vi nd.right, .string nd.high, .bool nd.dead, .slice EA13_8 nd.es.length ec13_8,vi ((nd.free:Int))],eCL BA (belowL ps root k) fb] W) ((nd.lv+1).toNat - 0) ?_ ?_
  · -- the loop begins
    exact ⟨0,none,0,[],by omega,rfl,rfl,(by kernel_rfl),hcl_.pk [1,2]⟩
  rintro n22 a22 W22 ⟨k,BA,bc,fb,hk,hall,rfl,hj_,hst22⟩
  refine ovz hj_ fun u22_=>?_
  have hbl_:=below_len ps root k
  have hrl_:=row_len ps root (k:Int)
  refine wp_seq (sqr (sqp [.k 22 (.bool (decide ((k:Int) < nd.lv+1)))] ?_))
  refine then_normal (wp_seq (wds (fun hs24 hs24p=>?_) fun hs24 hs24p=>?_))
  ·refine wp_skip (then_normal (wp_seq (wp_block (wp_seq (sqr (sqp [.m 23 21, .m 8 23] ?_))))))
   refine then_normal (wp_seq (wp_region_Y [0,0,0,7,15,31] [[],[],[],[],[2,3,4]] [[],[],[],[2,3,4],[5]] [] [.k 24 (.iface tt (tv)), .k 25 (vi root), .k 26 (vi ((k:Int))), .a 27, .a 28, .a 9] (fun ix σ β X=>match ix with | 0=>True | 1=>True | 2=>True | 3=>σ 27= .func (.func 99) #[] #[vp (pcp 0 (β 27)),vp (pcp 1 (β 27)),vp (pcp 2 (β 27))]∧X 2=eB (pcp 0 (β 27)) 113 #[.iface tt (tv)]∧X 3=eB (pcp 1 (β 27)) 3 #[vi root]∧X 4=eB (pcp 2 (β 27)) 3 #[vi ((k:Int))] | 4=>σ 28= .slice (sA (β 28)) (((rowF ps root (k:Int))).length) (sC (β 28))∧X 5=eCL (sA (β 28)) (rowF ps root (k:Int)) ((X 5).fp) | 5=>σ 9= .slice (sA (β 28)) (((rowF ps root (k:Int))).length) (sC (β 28)) | _=>True) [0,1,2,3,4,5] [3,4,5] [(9,5,1,10),(14,0,5,19)] hst22 ?_ ?_ ?_))
   ·exact fun ix _ _ _ _ _ _ hs hb hx h=>match ix,h with
    | 3,h=>by dsimp only; rw [← hs 27 rfl,← hb 27 rfl,← hx 2 rfl,← hx 3 rfl,← hx 4 rfl]; exact h
    | 4,h=>by dsimp only; rw [← hs 28 rfl,← hb 28 rfl,← hx 5 rfl]; exact h
    | 5,h=>by dsimp only; rw [← hs 9 rfl,← hb 28 rfl]; exact h
    | 0, _ | 1, _ | 2, _ | _+6, _=>trivial
   ·refine ⟨?_,?_,?_,trivial⟩
    ·refine svA fun ρ β W X cx=>?_
     refine DoesU.call (run_callF (args:=#[.iface tt (tv),vi root,vi ((k:Int))]) rfl cx.sees rfl (by kernel_rfl) (map3 (cx.an 0) (cx.an 1) (cx.an 2))) ?_
     refine (krowc_any tt tv root (k:Int) _).mono ?_
     rintro e W1 ⟨B4,B5,B6,rfl,hs4⟩
     refine ⟨_,rfl,post_st [eB B4 113 #[.iface tt (tv)],eB B5 3 #[vi root],eB B6 3 #[vi ((k:Int))]] rfl rfl hs4 (fun σ β' X' hs hb hv hN=>?_)⟩
     have hv1:=(hv 27 rfl).1; have hv2:=(hv 27 rfl).2
     exact ⟨hv1.trans (by rw [hv2]; rfl),(by rw [hv2]; exact (List.cons.inj hN).1),(by rw [hv2]; exact (List.cons.inj (List.cons.inj hN).2).1),(by rw [hv2]; exact (List.cons.inj (List.cons.inj (List.cons.inj hN).2).2).1)⟩
    ·refine svA fun ρ β W X cx=>?_
     refine DoesU.call (run_callF (args:=#[.func (.func 99) #[] #[vp (pcp 0 (β 27)),vp (pcp 1 (β 27)),vp (pcp 2 (β 27))]]) rfl cx.sees rfl (by kernel_rfl) (map1 (dTn (cx.an 3)).1)) ?_
     refine (kcol_g _ _ _ (rowF ps root (k:Int)) _ _ _ (krow_seqG _ _ _ _ _ _ _ hok hoc) (fun A hA=>⟨Blk.ext (cx.blk (dTn (cx.an 3)).2.1 rfl) hA,Blk.ext (cx.blk (dTn (cx.an 3)).2.2.1 rfl) hA,Blk.ext (cx.blk (dTn (cx.an 3)).2.2.2 rfl) hA,(hS.ext cx.upd.to_ext).ext hA⟩)).mono ?_
     rintro e W1 ⟨A4,c4,fp4,rfl,hs4⟩
     refine ⟨_,rfl,post_st [eCL A4 ((rowF ps root (k:Int))) fp4] rfl rfl hs4 (fun σ β' X' hs hb hv hN=>?_)⟩
     have hv1:=(hv 28 rfl).1; have hv2:=(hv 28 rfl).2
     exact ⟨hv1.trans (by rw [hv2]; rfl),(by rw [hv2]; exact eCL_self ((List.cons.inj hN).1))⟩
    ·exact sv rfl rfl rfl rfl rfl _ (fun _ _ _ h=>h) (fun β β' h=>by rw [h 28 (by decide)]) fun ρ β W X cx=>run_assign' rfl (dTn (cx.an 4)).1
   intro σ β X W27 hD hst27 fr hfr
   obtain ⟨B27a_27,hu_B27a_27⟩:∃ z,pcp 0 (β 27)=z:=⟨_,rfl⟩
   obtain ⟨B27b_27,hu_B27b_27⟩:∃ z,pcp 1 (β 27)=z:=⟨_,rfl⟩
   obtain ⟨B27c_27,hu_B27c_27⟩:∃ z,pcp 2 (β 27)=z:=⟨_,rfl⟩
   obtain ⟨A28_27,hu_A28_27⟩:∃ z,sA (β 28)=z:=⟨_,rfl⟩
   obtain ⟨c28_27,hu_c28_27⟩:∃ z,sC (β 28)=z:=⟨_,rfl⟩
   have xX5:X 5= _:=(dTn (hD 4 lq)).2
   obtain ⟨r5_27,hu_r5_27⟩:∃ z,(X 5).fp=z:=⟨_,rfl⟩
   rw [hu_r5_27] at xX5
   clear hu_r5_27
   simp only [exq 2 ((dTn (hD 3 lq)).2.1),exq 3 ((dTn (hD 3 lq)).2.2.1),exq 4 ((dTn (hD 3 lq)).2.2.2),xX5,hu_B27a_27,hu_B27b_27,hu_B27c_27,hu_A28_27,hu_c28_27] at hst27
   simp only [ed 27 ((dTn (hD 3 lq)).1),ed 28 ((dTn (hD 4 lq)).1),ed 9 ((dTn (hD 5 lq))),hu_B27a_27,hu_B27b_27,hu_B27c_27,hu_A28_27,hu_c28_27] at hfr
   clear hD xX5 hu_B27a_27 hu_B27b_27 hu_B27c_27 hu_A28_27 hu_c28_27; subst hfr; clear σ β X
   refine then_normal (wp_seq (wp_seq (sqr (sqp [.m 29 8, .k 30 (.pointer (some ⟨B5_12,1,none⟩))] ?_))))
   refine sqld 0 hst27 ?_
   refine sqp [.k 32 (.bool ((k:Int)==nd.lv)), .m 33 32] ?_
   refine sqw 33 [34,35,36] rfl (fun _=>sqp [.m 34 9, .k 35 (vi ((((rowF ps root (k:Int))).length:Int))), .k 36 (.bool ((((rowF ps root (k:Int))).length:Int) != 1))] sqe) ?_
   refine sqp [sPa 37 ((k:Int)==nd.lv) ((((rowF ps root (k:Int))).length:Int) != 1), .m 38 37] ?_
   refine sqw' 38 [39,40,41,42,43,44,45] ?_ rfl (fun hq=>?_) ?_
   rotate_left
   ·refine sqp [.m 39 8, .k 40 (.bool (decide (0 < (k:Int)))), .m 41 40] ?_
    refine sqw 41 [42,43,44] rfl (fun _=>sqp [.m 42 7, .k 43 (vi (((belowL ps root k).length:Int))), .k 44 (.bool (((belowL ps root k).length:Int)==0))] sqe) ?_
    refine sqp [sPa 45 (decide (0 < (k:Int))) (((belowL ps root k).length:Int)==0)] ?_
    exact sqe
   refine sqwx ?_
   refine sqp [sPo 46 (((k:Int)==nd.lv)&&((((rowF ps root (k:Int))).length:Int) != 1)) ((decide (0 < (k:Int)))&&(((belowL ps root k).length:Int)==0)), .m 47 46] ?_
   refine sqwW 47 [48,49,50,51] ?_ hst27 rfl (fun hq=>?_) fun W51 hst51=>?_
   rotate_left
   ·refine sqp [.m 48 9, .m 49 7] ?_
    refine sqk (.bool (rgF (rowF ps root (k:Int)) (belowL ps root k))) hst27 (fun cx=>⟨_,kright_cl (CtxV.holdF cx (cx.init 5 _ rfl) rfl) (CtxV.holdF cx (cx.init 1 _ rfl) rfl) (fun y hy=>nd_ok hok (row_nd y hy).1) (row_len _ _ _) (below_len _ _ _),(map2 (cx.ou 48) (cx.ou 49))⟩) fun W49 hst49=>?_
    refine sqp [.k 51 (.bool (!(rgF (rowF ps root (k:Int)) (belowL ps root k))))] ?_
    exact sqE hst49
   refine sqwx ?_
   refine sqp [sPo 52 ((((k:Int)==nd.lv)&&((((rowF ps root (k:Int))).length:Int) != 1))||((decide (0 < (k:Int)))&&(((belowL ps root k).length:Int)==0))) (!(rgF (rowF ps root (k:Int)) (belowL ps root k)))] ?_
   refine then_normal (wbs (fun hs53=>?_) fun hs53=>?_)
   ·have hs53p:=hs53
    simp only [zB] at hs53p
    refine wp_seq (sqr (sqp [.k 4 (vi 11)] ?_))
    refine then_normal (wp_ret (then_ret (blk_ret (then_ret (then_ret (blk_ret (then_ret ?_)))))))
    refine bpr (vi 11) (results_1 Try.results37 rpt) ?_
    exact Ret.of (by rw [← ck_bad hnd (k:=k) (by omega) hs53]) hst51.ext
   have hs53p:=hs53
   simp only [zB] at hs53p
   obtain ⟨⟨hs53p1,hs53p2⟩,hs53p3⟩:=hs53p
   refine wp_skip (then_normal (sqr (sqp [.m 53 9, .m 7 53] ?_)))
   refine blk_normal (then_normal (sqr (sqp [sI 54 ((k:Int)+1) (by omega), .m 21 54] ?_)))
   refine then_normal ?_
   refine ⟨(nd.lv+1).toNat - ((k+1)),by omega,?_⟩
   exact ⟨(k+1),A28_27,c28_27,r5_27,by omega,all_step hall (by rw [show ckX ps root nd.lv k=false from hs53]; rfl),rfl,(by kernel_rfl),hst51.pk [0,5]⟩
  refine wp_exit (then_exit (then_exit (blk_eq (then_normal (wp_seq (sqr (sqp [.k 4 (vi 0)] ?_)))))))
  refine then_normal (wp_ret ?_)
  refine bpr (vi 0) (results_1 Try.results37 rpt) ?_
  exact Ret.of (by rw [← ck_ok hnd (k:=k) (by omega) hall]) hst22.ext
end
section
open Go.RowKit
theorem neB_nil {a:ByteArray} (h:a.size=0):neB a=false:=by
 have:a=⟨#[]⟩:=by apply bl_inj; exact List.length_eq_zero_iff.1 (by rw [bl_len]; exact h)
 subst this; rw [neB,beq_self_eq_true]; rfl
theorem idxP_pos {α:Type} {p:α→Bool} {x:α} {B:List α} (hx:p x=true):∀ {A:List α} {k:Int},(∀ y∈A,p y=false)→idxP p k (A++x::B)=k+A.length
 | [],k, _=>by rw [List.nil_append,idxP,if_pos hx]; simp
 | y::A,k,h=>by
   rw [List.cons_append,idxP,if_neg (by rw [h y (by simp)]; decide),idxP_pos hx fun z hz=>h z (by simp [hz]),List.length_cons]
   omega
theorem getD_mid {α:Type} {A B:List α} {x d:α}:(A++x::B).getD A.length d=x:=by
 rw [List.getD_eq_getElem?_getD,List.getElem?_append_right (Nat.le_refl _),Nat.sub_self]; rfl
/-- the bound of the node ahead is the next node's least entry -/
theorem high_prev {ps:List PgS} {lv:Int} {A B:List AbN} {b c:AbN} (h:RepL ps lv (A++b::c::B)):(ndD ps b.pg).high=c.low:=by
 obtain ⟨⟨n,h1, _, _, _,h5, _⟩, _⟩:=RepL.mem h
 rw [ndD_some h1,h5]; rfl
theorem low_at {ps:List PgS} {lv:Int} {pre suf:List AbN} {a:AbN} (h:RepL ps lv (pre++a::suf)):lowF ((pre++a::suf).map (ndP ps)) pre.length=if pre=[] then ⟨#[]⟩ else a.low:=by
 rcases List.eq_nil_or_concat pre with rfl | ⟨A,b,rfl⟩
 ·rfl
 ·rw [lowF,if_neg (by simp),if_neg (by simp)]
  rw [List.concat_eq_append] at h ⊢
  have e:((A++[b])++a::suf).map (ndP ps)=A.map (ndP ps)++ndP ps b::(a::suf).map (ndP ps):=by simp
  have e2:(A++[b]).length - 1=(A.map (ndP ps)).length:=by simp
  rw [e,e2,getD_mid]
  exact high_prev (by simpa using h)
theorem low_idx {ps:List PgS} {lv:Int} {p s:List AbN} {m:AbN} (hL:LvOk (p++m::s)) (h:RepL ps lv (p++m::s)):ldW ((p++m::s).map (ndP ps)) (p.length:Int)=m.low:=by
 rcases List.eq_nil_or_concat p with rfl | ⟨A,b,rfl⟩
 ·rw [ldW,if_neg (by simp)]; exact hL.headlow.symm
 ·rw [ldW,if_pos (by simp)]
  rw [List.concat_eq_append] at h ⊢
  have e:((A++[b])++m::s).map (ndP ps)=A.map (ndP ps)++ndP ps b::(m::s).map (ndP ps):=by simp
  have e2:(((A++[b]).length:Int) - 1).toNat=(A.map (ndP ps)).length:=by simp
  have e3:ldW ((A++[b]++m::s).map (ndP ps)) ((A++[b]).length:Int)= _:=rfl
  rw [e,e2,show (0,nodZ)=((0,nodZ):Int×NoD) from rfl,getD_mid]
  exact high_prev (by simpa using h)
theorem ld_ok {ps:List PgS} {lv:Int} {below:List AbN} {es:List EnD} {a:AbN} (hL:LvOk below) (h:RepL ps lv below) (hd:(below.map AbN.pg).Nodup) (hes:es.map kv=a.es) (hne:0 < es.length) (hin:∀ e∈a.es,∃ m∈below,m.pg=e.2∧m.low=e.1):ldF (below.map (ndP ps)) es=true:=by
 rw [ldF,Bool.and_eq_true]
 refine ⟨List.all_eq_true.2 fun i hi=>?_,decide_eq_true (by omega)⟩
 have hi:=List.mem_range.1 hi
 obtain ⟨e,he⟩:∃ z,es.getD i en0=z:=⟨_,rfl⟩
 have hem:e∈es:=by rw [← he]; exact (getD_mem' hi).2
 rw [he]
 obtain ⟨m,hm,h1,h2⟩:=hin _ (kv_mem hes hem)
 obtain ⟨p,s,rfl⟩:=List.append_of_mem hm
 have hidx:ldI ((p++m::s).map (ndP ps)) e.2.2=(p.length:Int):=by
  rw [ldI,List.map_append,List.map_cons,idxP_pos (by show ((ndP ps m).1==e.2.2)=true; rw [beq_iff_eq]; exact h1),List.length_map]
  ·omega
  ·intro y hy
   obtain ⟨b,hb,rfl⟩:=List.mem_map.1 hy
   show ((ndP ps b).1==e.2.2)=false
   rw [beq_eq_false_iff_ne]
   intro e2
   have e2:b.pg=e.2.2:=e2
   rw [List.map_append] at hd
   exact (List.nodup_append.1 hd).2.2 b.pg (List.mem_map.2 ⟨b,hb,rfl⟩) m.pg (by simp) (e2.trans h1.symm)
 rw [ldS,hidx,low_idx hL h,h2,beq_self_eq_true,decide_eq_false (by omega)]; rfl
theorem sr_ok {n:NoD} {a:AbN} {suf:List AbN} {lo:ByteArray} (hv:NdV a) (hes:n.es.map kv=a.es) (hhi:n.high=hiA suf) (hlo:lo=⟨#[]⟩∨lo=a.low) (hlt:∀ c∈suf,LtA a c):srF n.high lo n.es=true:=by
 rw [srF]
 refine List.all_eq_true.2 fun i hi=>?_
 have hi:=List.mem_range.1 hi
 obtain ⟨e,he⟩:∃ z,n.es.getD i en0=z:=⟨_,rfl⟩
 have hem:e∈n.es:=by rw [← he]; exact (getD_mem' hi).2
 have hea:=kv_mem hes hem
 have h1:(neB lo&&lessF e.1 lo)=false:=by
  rcases hlo with rfl | rfl
  ·rw [neB_nil rfl]; rfl
  ·rw [hv.ge _ hea,Bool.and_false]
 have h2:(neB n.high&&!(lessF e.1 n.high))=false:=by
  rw [hhi]
  cases suf with
  | nil=>rw [show hiA []=ByteArray.empty from rfl,neB_nil rfl]; rfl
  | cons c s=>
    rw [show hiA (c::s)=c.low from rfl,(hlt c (by simp)).2 _ hea]
    simp
 have h3:(decide (0 < (i:Int))&&(e.1.toList==(n.es.getD ((i:Int) - 1).toNat en0).1.toList))=false:=by
  by_cases h0:0 < (i:Int)
  ·obtain ⟨j,rfl⟩:∃ j,i=j+1:=⟨i - 1,by omega⟩
   have hr:n.es.Pairwise (fun a b=>lessF a.1 b.1=true):=by have:=hv.ris; rw [← hes] at this; exact List.pairwise_map.1 this
   have hj:((((j+1:Nat):Int) - 1).toNat)=j:=by omega
   rw [hj]
   have h4:=List.pairwise_iff_getElem.1 hr j (j+1) (by omega) hi (by omega)
   have e1:n.es[j+1]=e:=by rw [← he,List.getD_eq_getElem?_getD,List.getElem?_eq_getElem hi]; rfl
   have e2:n.es.getD j en0=n.es[j]:=by rw [List.getD_eq_getElem?_getD,List.getElem?_eq_getElem (by omega)]; rfl
   rw [e1] at h4
   rw [e2]
   have:(e.1.toList==(n.es[j]).1.toList)=false:=by
    rw [beq_eq_false_iff_ne]
    intro e3
    rw [ByteArray.toList_eq,ByteArray.toList_eq] at e3
    rw [bl_inj e3,lessF_irr] at h4; cases h4
   rw [this,Bool.and_false]
  ·rw [decide_eq_false h0]; rfl
 rw [srS,he,h1,h2,h3]; rfl
theorem rg_ok {ps:List PgS} {T:List (List AbN)} {root:Int} (h:Tr ps T root) {k:Nat} {l:List AbN} (hk:T[k]? =some l) (hlen:l.length≤400) {Lb:List (Int×NoD)} (hb:∀ k0,k=k0+1→∃ below,T[k0]? =some below∧Lb=below.map (ndP ps)):rgF (l.map (ndP ps)) Lb=true:=by
 obtain ⟨hrep,hL⟩:=h.level hk
 have hpos:0 < l.length:=by obtain ⟨a,t,rfl, _⟩:=hL.hd; simp
 rw [rgF,Bool.and_eq_true,List.length_map]
 refine ⟨List.all_eq_true.2 fun i hi=>?_,by rw [decide_eq_true (by omega),decide_eq_true (by omega)]; rfl⟩
 have hi:=List.mem_range.1 hi
 obtain ⟨pre,a,suf,e,hpl⟩:∃ pre a suf,l=pre++a::suf∧pre.length=i:=⟨l.take i,l[i],l.drop (i+1),by rw [List.getElem_cons_drop,List.take_append_drop],by rw [List.length_take]; omega⟩
 subst e hpl
 obtain ⟨n,h1,h2,h3,h4,h5,h6⟩:=h.node hk
 have hA:=hL.nd a (by simp)
 obtain ⟨_,pp, _⟩:=List.pairwise_append.1 hL.pw
 have hlt:=(List.pairwise_cons.1 pp).1
 have hg:((pre++a::suf).map (ndP ps)).getD pre.length (0,nodZ)=(a.pg,n):=by
  have e:(pre++a::suf).map (ndP ps)=pre.map (ndP ps)++ndP ps a::suf.map (ndP ps):=by simp
  rw [e,show pre.length=(pre.map (ndP ps)).length by simp,getD_mid,ndP,ndD_some h1]
 have hlo:=low_at hrep
 obtain ⟨lo,hlo2⟩:∃ z,lowF ((pre++a::suf).map (ndP ps)) pre.length=z:=⟨_,rfl⟩
 rw [hlo2] at hlo
 have hlo3:lo=⟨#[]⟩∨lo=a.low:=by rw [hlo]; split; exact .inl rfl; exact .inr rfl
 rw [rgX,hg,hlo2,List.length_map]
 have lst:(((pre.length:Nat):Int)==((pre++a::suf).length:Int) - 1)=decide (suf=[]):=by
  rw [List.length_append,List.length_cons]
  cases suf with
  | nil=>simp
  | cons c s=>simp; omega
 have hA1:rgA n (((pre.length:Nat):Int)==((pre++a::suf).length:Int) - 1) lo=false:=by
  rw [rgA,h3,sr_ok hA h6 h5 hlo3 hlt,lst,decide_eq_false (show ¬ 8 < (n.es.length:Int) by have:=hA.len; rw [← h6,List.length_map] at this; omega),h4,h5]
  cases suf with
  | nil=>rw [show (hiA []).toList=(⟨#[]⟩:ByteArray).toList from rfl,beq_self_eq_true]; rfl
  | cons c s=>
    have hc:=h.pg_lt (pgs_mem hk (a:=c) (by simp))
    rw [show hiA (c::s)=c.low from rfl,ne_nil_size (hL.l4 c (by simp)),show rtA (c::s)=c.pg from rfl,decide_eq_false (show ¬ c.pg < 0 by omega)]; rfl
 have hB1:rgB n pre.length Lb=false:=by
  rw [rgB]
  by_cases h0:0 < n.lv
  ·obtain ⟨k0,rfl⟩:∃ k0,k=k0+1:=⟨k - 1,by omega⟩
   obtain ⟨below,hbl,rfl⟩:=hb k0 rfl
   obtain ⟨⟨k1,t,g1⟩,g2⟩:=h.inn k0 _ _ hk hbl a (by simp)
   obtain ⟨hrb,hLb⟩:=h.level hbl
   have hdist:(below.map AbN.pg).Nodup:=by
    obtain ⟨T1,T2,e2, _, _⟩:=lv_split hbl
    have hd:=h.dist
    rw [e2,pgs_app] at hd
    exact (List.nodup_append.1 (List.nodup_append.1 hd).2.1).1
   have hnl:0 < n.es.length:=by rw [← List.length_map (f:=kv),h6,g1]; simp
   rw [ld_ok hLb hrb hdist h6 hnl g2,decide_eq_true h0]
   by_cases hp:pre=[]
   ·subst hp
    obtain ⟨c,u,rfl,hcl⟩:=hLb.hd
    obtain ⟨m,hm,hm1,hm2⟩:=g2 (a.low,k1) (by rw [g1]; simp)
    have hmc:=hLb.first hm (by rw [hm2]; exact hL.headlow)
    have hx:(n.es.getD 0 en0).2.2=c.pg:=by
     obtain ⟨x,r,he⟩:=List.exists_cons_of_ne_nil (List.length_pos_iff.1 hnl)
     rw [he,g1] at h6
     injection h6 with h7 _
     have h7:kv x=(a.low,k1):=h7
     injection h7 with _ h8
     rw [he]
     show x.2.2=c.pg
     rw [h8,← hmc]; exact hm1.symm
    rw [hx]
    show (true&&(!true||((((0:Nat):Int)==0)&&(c.pg != (ndP ps c).1))))=false
    simp [ndP]
   ·have:(((pre.length:Nat):Int)==0)=false:=by
     rw [beq_eq_false_iff_ne]
     have:=List.length_pos_iff.2 hp
     omega
    rw [this]; rfl
  ·rw [decide_eq_false h0]; rfl
 have hC1:rgC n lo=false:=by
  rw [rgC]
  rcases hlo3 with rfl | rfl
  ·rw [neB_nil rfl]; rfl
  ·rw [h5]
   cases suf with
   | nil=>rw [show hiA []=ByteArray.empty from rfl,show neB ByteArray.empty=false from neB_nil rfl]; simp
   | cons c s=>rw [show hiA (c::s)=c.low from rfl,lessF_asym (hlt c (by simp)).1,Bool.and_false]
 rw [hA1,hB1,hC1]; rfl
theorem Tr.check {ps:List PgS} {T:List (List AbN)} {root:Int} (h:Tr ps T root) (hps:ps.length≤150):checkF ps root=0:=by
 obtain ⟨T0,r,e,h1,h2,h3⟩:=h.root
 obtain ⟨n,g1,g2, _⟩:=h.node (pre:=[]) h3
 rw [h1] at g1
 have hlT:T.length=T0.length+1:=by rw [e]; simp
 have hbd:=h.bd
 rw [checkF,g1]
 dsimp only
 rw [if_pos]
 refine List.all_eq_true.2 fun k hk=>?_
 have hk:=List.mem_range.1 hk
 have hkT:T[k]? =some (T[k]'(by omega)):=List.getElem?_eq_getElem (by omega)
 obtain ⟨l,hl⟩:∃ l,T[k]'(by omega)=l:=⟨_,rfl⟩
 rw [hl] at hkT
 have hrow:=h.row hps hkT
 have hll:l.length≤150:=by
  have:l.length≤(pgsA T).length:=by
   rw [pgs_flat]
   obtain ⟨T1,T2,e2, _, _⟩:=lv_split hkT
   rw [e2]; simp; omega
  omega
 have hbel:∀ k0,k=k0+1→∃ below,T[k0]? =some below∧belowL ps root k=below.map (ndP ps):=by
  rintro k0 rfl
  have hb:T[k0]? =some (T[k0]'(by omega)):=List.getElem?_eq_getElem (by omega)
  exact ⟨_,hb,h.row hps hb⟩
 have c1:(((k:Int)==n.lv)&&(((rowF ps root (k:Int)).length:Int) != 1))=false:=by
  by_cases hkn:k=T0.length
  ·subst hkn
   rw [h3] at hkT
   injection hkT with hkT
   rw [hrow,← hkT]; simp
  ·rw [show ((k:Int)==n.lv)=false by rw [beq_eq_false_iff_ne,g2]; omega]; rfl
 have c2:(decide (0 < (k:Int))&&(((belowL ps root k).length:Int)==0))=false:=by
  by_cases h0:0 < (k:Int)
  ·obtain ⟨k0,rfl⟩:∃ k0,k=k0+1:=⟨k - 1,by omega⟩
   obtain ⟨below,hb,hbe⟩:=hbel k0 rfl
   obtain ⟨c,u,rfl, _⟩:=(h.level hb).2.hd
   rw [hbe]
   rw [show ((((c::u).map (ndP ps)).length:Int)==0)=false by rw [beq_eq_false_iff_ne]; simp; omega,Bool.and_false]
  ·rw [decide_eq_false h0]; rfl
 have c3:rgF (rowF ps root (k:Int)) (belowL ps root k)=true:=by rw [hrow]; exact rg_ok h hkT (by omega) hbel
 rw [ckX,c1,c2,c3]; rfl
end
section
open Go.RowKit
/-- an insertion under way: its entry is still to come to a leaf, or it is there -/
def Way (E:List Kv) (x:ByteArray) (T:List (List AbN)) (p:PuT):Prop:=(∃ l,p.left=(x,0,0)::l∧(∀ t∈l,1≤t.2.1)∧(lfs T).Perm E∧p.leaf= -1)∨((∀ t∈p.left,1≤t.2.1)∧(lfs T).Perm ((x, -1)::E)∧0≤p.leaf)
theorem Way.step {E:List Kv} {x:ByteArray} {ps:List PgS} {T T':List (List AbN)} {p p':PuT} {g:GoT} {fresh root:Int} (h:Tr ps T root) (hw:Way E x T p) (ho:Out T T' p p' g fresh) (hx:∀ y∈E,y.1≠x):Way E x T' p':=by
 rcases hw with ⟨l,hl,h1,hp,hlf⟩ | ⟨h1,hp,hlf⟩
 ·have nx:∀ y∈lfs T,y.1≠x:=fun y hy=>hx y (hp.mem_iff.1 hy)
  cases ho with
  | idle h=>rw [hl] at h; cases h
  | move t l2 h2 hT hl2 hf=>
    rw [hl] at h2; injection h2 with e1 e2; subst e1 e2 hT
    exact .inl ⟨l,hl2,h1,hp,hf.trans hlf⟩
  | there t l2 k pre suf a h2 hk hT ht hin=>
    rw [hl] at h2; injection h2 with e1 e2; subst e1
    have hk0:k=0:=by have:(0:Int)=(k:Int):=hk; omega
    subst hk0
    obtain ⟨y,hy,hyx⟩:=hin
    refine absurd hyx (nx y ?_)
    rw [lfs,lvA_some ht]
    exact List.mem_flatMap.2 ⟨a,by simp,hy⟩
  | put t l2 k pre suf a h2 hk ht hT hno hl2 hf=>
    rw [hl] at h2; injection h2 with e1 e2; subst e1
    have hk0:k=0:=by have:(0:Int)=(k:Int):=hk; omega
    subst hk0
    refine .inr ⟨by rw [hl2,← e2]; exact h1,?_,by rw [hf,if_pos rfl]; exact (h.pg_lt (pgs_mem ht (a:=a) (by simp))).1⟩
    refine List.Perm.trans ?_ (hp.cons _)
    rw [hT,lfs_set ht,if_pos rfl,lfs,lvA_some ht]
    simp only [List.flatMap_append,List.flatMap_cons]
    refine ((List.Perm.append_left _ ((insA_perm _ _).append_right _))).trans ?_
    exact List.perm_middle
  | cut t l2 k pre suf a mid h2 hk ht h8 htop hT hl2 hf hp2 hpa hu=>
    rw [hl] at h2; injection h2 with e1 e2; subst e1 e2
    refine .inl ⟨_,hl2,fun t ht=>?_,?_,hf.trans hlf⟩
    ·rcases List.mem_append.1 ht with ht | ht
     ·exact h1 t ht
     ·rw [List.mem_singleton.1 ht]; show (1:Int)≤(k:Int)+1; omega
    ·rcases (Out.cut (p':=p') (g:=g) _ l k pre suf a mid hl hk ht h8 htop hT hl2 hf hp2 hpa hu).lfs with h3 | ⟨t,l3,h3, _,h4, _⟩
     ·exact h3.trans hp
     ·rw [hl] at h3; injection h3 with e1 e2; rw [hl2,← e2] at h4; exact absurd (congrArg List.length h4) (by simp only [List.length_append,List.length_cons,List.length_nil]; omega)
  | grow t l2 T0 r h2 hk ht hr h8 hT hl2 hf=>
    rw [hl] at h2; injection h2 with e1 e2; subst e1 e2
    exact .inl ⟨l,hl2,h1,by rw [hT,lfs_grow,← ht]; exact hp,hf.trans hlf⟩
 ·obtain ⟨h3,h4,h5⟩:=rest_lfs ho h1
  exact .inr ⟨h4,h3.trans hp,by rw [h5]; exact hlf⟩
theorem ents_len (l:List Int) (n:Nat):(entsG l n).length=n:=by rw [entsG,List.length_map,List.length_range]
theorem ent_far {l:List Int} {n:Nat} (hn:n≤90) {k:ByteArray} {q s:Int} (hq:13≤q∧q < 65536):∀ y∈entsG l n,y.1≠entF k q s:=fun y hy e=>by
 obtain ⟨j,hj,rfl⟩:=List.mem_map.1 hy
 have hj:=List.mem_range.1 hj
 have h1:ppF (entG l j)=ppF (entF k q s):=congrArg ppF e
 rw [entG,ppF_ent,ppF_ent] at h1
 omega
theorem grown_gs (l:List Int):∃ T nx,GS 0 (grownF l) T nx∧(lfs T).Perm (entsG l (min l.length 90)):=by
 obtain ⟨T,h1,h2⟩:=grown_tr l (min l.length 90) (by omega)
 exact ⟨T, _,h1,h2⟩
/-- other fresh pages -/
theorem GS.shift {d nx nx':Int} {ps:List PgS} {T:List (List AbN)} (h:GS d ps T nx) (h1:nx≤nx'):GS (nx' - ((pgsA T).length:Int)) ps T nx':=⟨h.tr,h.its,h.len,h.occ,fun q hq=>by have:=h.pg q hq; omega,by omega,by have:=h.cnt; have:=h.d0; omega⟩
end
section
open Go.RowKit
theorem ord_app (T1:List (List AbN)) (l:List AbN) (T2:List (List AbN)):ordA (T1++l::T2)=ordA T2++(l.map AbN.pg++ordA T1):=by simp [ordA]
/-- a step lays one page more into the order, or none -/
theorem Out.ord {T T':List (List AbN)} {p p':PuT} {g:GoT} {fresh:Int} (ho:Out T T' p p' g fresh):(g.used=false∧ordA T'=ordA T)∨(g.used=true∧∃ A B,ordA T=A++B∧ordA T'=A++fresh::B):=by
 cases ho with
 | idle _ hT _ _ hu=>exact .inl ⟨hu,by rw [hT]⟩
 | move _ _ _ hT _ _ hu=>exact .inl ⟨hu,by rw [hT]⟩
 | there _ _ _ _ _ _ _ _ hT _ _ _ _ hu=>exact .inl ⟨hu,by rw [hT]⟩
 | put t l k pre suf a _ _ ht hT _ _ _ hu=>
   obtain ⟨T1,T2,e, _,h2⟩:=lv_split ht
   exact .inl ⟨hu,by rw [hT,h2,e,ord_app,ord_app]; simp⟩
 | cut t l k pre suf a mid _ _ ht _ _ hT _ _ _ _ hu=>
   obtain ⟨T1,T2,e, _,h2⟩:=lv_split ht
   refine .inr ⟨hu,ordA T2++(pre.map AbN.pg++[a.pg]),suf.map AbN.pg++ordA T1,?_,?_⟩
   ·rw [e,ord_app]; simp
   ·rw [hT,h2,ord_app]; simp
 | grow t l T0 r _ _ ht hr _ hT _ _ _ _ hu=>
   refine .inr ⟨hu,[p.root],ordA T0,?_,?_⟩
   ·rw [ht,ord_app,← hr]; simp [ordA]
   ·rw [hT]; simp [ordA]
theorem drop_ins {y x:Int} (hxy:y≠x):∀ (A B:List Int),((A++y::B).dropWhile fun q=>!(q==x)).length≤((A++B).dropWhile fun q=>!(q==x)).length+1
 | [],B=>by
   rw [List.nil_append,List.nil_append,List.dropWhile_cons_of_pos (by simpa using hxy)]; omega
 | a::A,B=>by
   rw [List.cons_append,List.cons_append]
   by_cases h:a=x
   ·rw [List.dropWhile_cons_of_neg (by simp [h]),List.dropWhile_cons_of_neg (by simp [h])]
    simp only [List.length_cons,List.length_append]; omega
   ·rw [List.dropWhile_cons_of_pos (by simpa using h),List.dropWhile_cons_of_pos (by simpa using h)]
    exact drop_ins hxy A B
theorem Out.rk {T T':List (List AbN)} {p p':PuT} {g:GoT} {fresh pos:Int} (ho:Out T T' p p' g fresh) (hne:fresh≠pos):rkF T' pos≤rkF T pos+(if g.used then 1 else 0):=by
 rcases ho.ord with ⟨h1,h2⟩ | ⟨h1,A,B,h2,h3⟩
 ·rw [rkF,rkF,h2]; exact Nat.le_add_right _ _
 ·rw [rkF,rkF,h2,h3,h1]; exact drop_ins hne A B
theorem Out.cnt {T T':List (List AbN)} {p p':PuT} {g:GoT} {fresh:Int} (ho:Out T T' p p' g fresh):(pgsA T').length=(pgsA T).length+(if g.used then 1 else 0):=by
 rw [(ho.pages (fun _ _ _ _=>trivial)).length_eq]
 cases g.used<;>simp<;>omega
theorem PosOk.mem {T:List (List AbN)} {pos tl:Int} {x:ByteArray} (h:PosOk T pos x tl):pos∈pgsA T:=by
 obtain ⟨k,l,a,hk,ha,hp, _⟩:=h
 exact hp ▸ pgs_mem hk ha
theorem rk_pos {T:List (List AbN)} {pos tl:Int} {x:ByteArray} (hd:(pgsA T).Nodup) (h:PosOk T pos x tl):1≤rkF T pos:=by
 obtain ⟨k,l,a,hk,ha,hp, _⟩:=h
 obtain ⟨pre,suf,rfl⟩:=List.append_of_mem ha
 rw [← hp,rk_at hd hk]; omega
/-- how many steps an insertion may still take -/
def mu (P:Nat) (T:List (List AbN)) (p:PuT):Nat:=if p.left=[] then 0 else rkF T p.pos+(P+1)*(p.left.length - 1)+(P+3)*(P - (pgsA T).length)
theorem mu_other {T T':List (List AbN)} {q q' p:PuT} {g:GoT} {fresh:Int} {P:Nat} (ho:Out T T' q q' g fresh) (hne:fresh≠p.pos) (hP:(pgsA T').length≤P):mu P T' p≤mu P T p:=by
 have h1:=ho.rk hne
 have h2:=ho.cnt
 unfold mu
 split
 ·exact Nat.le_refl _
 ·cases hu:g.used with
  | false=>rw [hu] at h1 h2; rw [h2]; simp at h1 ⊢; omega
  | true=>
    rw [hu] at h1 h2
    simp at h1 h2
    obtain ⟨D,hD⟩:∃ D,P - (pgsA T).length=D+1:=⟨P - (pgsA T).length - 1,by omega⟩
    rw [h2,hD,show P - ((pgsA T).length+1)=D by omega,Nat.mul_succ]
    omega
theorem mu_own {T T':List (List AbN)} {p p':PuT} {g:GoT} {fresh root:Int} {P:Nat} (ho:Out T T' p p' g fresh) (hd:(pgsA T).Nodup) (hi:InsOk T root p) (hP:(pgsA T').length≤P) (hff:fresh∉pgsA T) (hne:p.left≠[]):mu P T' p' < mu P T p:=by
 have h2:=ho.cnt
 have hpo:∃ t l,p.left=t::l:=List.exists_cons_of_ne_nil hne
 obtain ⟨t0,l0,hl0⟩:=hpo
 have hpos:=hi.pos t0 l0 hl0
 have h1:=ho.rk (pos:=p.pos) (fun e=>hff (e ▸ hpos.mem))
 have hr1:=rk_pos hd hpos
 have hr2:rkF T' p'.pos≤P:=Nat.le_trans (rk_le _ _) hP
 rw [mu,mu,if_neg hne]
 cases ho with
 | idle h=>exact absurd h hne
 | move t l h hT hl _ hu _ hm=>
   rw [hl,if_neg (by simp),h,hT]
   have:=hm.rk hd
   omega
 | there t l k pre suf a h _ hT _ _ hl _ hu=>
   rw [h,hl,hT]
   split
   ·omega
   ·rename_i h3
    have h4:0 < l.length:=List.length_pos_iff.2 h3
    obtain ⟨m,hm⟩:∃ m,l.length=m+1:=⟨l.length - 1,by omega⟩
    rw [hT] at hr2
    rw [List.length_cons,hm,Nat.add_sub_cancel,Nat.add_sub_cancel,Nat.mul_succ]
    omega
 | put t l k pre suf a h _ ht hT _ hl _ hu=>
   rw [hu] at h2
   simp at h2
   rw [h,hl,h2]
   split
   ·omega
   ·rename_i h3
    have h4:0 < l.length:=List.length_pos_iff.2 h3
    obtain ⟨m,hm⟩:∃ m,l.length=m+1:=⟨l.length - 1,by omega⟩
    rw [List.length_cons,hm,Nat.add_sub_cancel,Nat.add_sub_cancel,Nat.mul_succ]
    omega
 | cut t l k pre suf a mid h _ ht _ _ hT hl _ hp _ hu=>
   rw [hu] at h1 h2
   simp at h1 h2
   obtain ⟨D,hD⟩:∃ D,P - (pgsA T).length=D+1:=⟨P - (pgsA T).length - 1,by omega⟩
   rw [hl,if_neg (by simp),h,hp,h2,hD,show P - ((pgsA T).length+1)=D by omega]
   simp only [List.length_append,List.length_cons,List.length_nil,Nat.add_sub_cancel]
   rw [Nat.mul_succ,Nat.mul_succ]
   omega
 | grow t l T0 r h _ ht _ _ hT hl _ hp _ hu=>
   rw [hu] at h2
   simp at h2
   obtain ⟨D,hD⟩:∃ D,P - (pgsA T).length=D+1:=⟨P - (pgsA T).length - 1,by omega⟩
   rw [hl,if_neg (by simp),h,h2,hD,show P - ((pgsA T).length+1)=D by omega,Nat.mul_succ]
   omega
/-- the same of a walk -/
def om (P:Nat) (T:List (List AbN)) (w:WkT):Nat:=if w.fin then 0 else rkF T w.pos+2*(P - (pgsA T).length)
theorem om_other {T T':List (List AbN)} {q q':PuT} {w:WkT} {g:GoT} {fresh:Int} {P:Nat} (ho:Out T T' q q' g fresh) (hne:w.fin=false→fresh≠w.pos) (hP:(pgsA T').length≤P):om P T' w≤om P T w:=by
 have h2:=ho.cnt
 unfold om
 cases hf:w.fin with
 | true=>exact Nat.le_refl _
 | false=>
   have h1:=ho.rk (hne hf)
   simp only [Bool.false_eq_true,if_false]
   cases hu:g.used with
   | false=>rw [hu] at h1 h2; rw [h2]; simp at h1 ⊢; omega
   | true=>rw [hu] at h1 h2; rw [h2]; simp at h1 ⊢; rw [h2] at hP; simp at hP; omega
end
section
open Go.RowKit
def ba0:ByteArray:=ByteArray.empty
def pu0:PuT:=⟨0,0,0,[],0,0,false⟩
/-- an entry still to come; an entry that is there -/
def UnP (x:ByteArray) (p:PuT):Prop:=∃ l,p.left=(x,0,0)::l∧(∀ t∈l,1≤t.2.1)∧p.leaf= -1
def InP (p:PuT):Prop:=(∀ t∈p.left,1≤t.2.1)∧0≤p.leaf
/-- insertions Q of the entries xs into a tree of the entries E; D: those that are there -/
structure Many (E:List Kv) (xs:List ByteArray) (Q:List PuT) (T:List (List AbN)) (D:List Nat):Prop where
 len:Q.length=xs.length
 ndx:xs.Nodup
 far:∀ x∈xs,∀ y∈E,y.1≠x
 ndD:D.Nodup
 lt:∀ j∈D,j < xs.length
 prm:(lfs T).Perm ((D.map fun j=>(xs.getD j ba0,(-1:Int)))++E)
 st:∀ j,j < xs.length→(j∉D∧UnP (xs.getD j ba0) (Q.getD j pu0))∨(j∈D∧InP (Q.getD j pu0))
theorem getD_ndp {xs:List ByteArray} (h:xs.Nodup) {i j:Nat} (hi:i < xs.length) (hj:j < xs.length) (e:xs.getD i ba0=xs.getD j ba0):i=j:=by
 rw [List.getD_eq_getElem?_getD,List.getD_eq_getElem?_getD,List.getElem?_eq_getElem hi,List.getElem?_eq_getElem hj] at e
 exact (List.getElem_inj h).1 e
theorem getD_setp {Q:List PuT} {i j:Nat} {p:PuT} (hj:j < Q.length):(Q.set j p).getD i pu0=if i=j then p else Q.getD i pu0:=by
 rw [List.getD_eq_getElem?_getD,List.getD_eq_getElem?_getD]
 by_cases e:i=j
 ·subst e; rw [List.getElem?_set_self hj,if_pos rfl]; rfl
 ·rw [List.getElem?_set_ne (fun h=>e h.symm),if_neg e]
theorem Many.size {E:List Kv} {xs:List ByteArray} {Q:List PuT} {T:List (List AbN)} {D:List Nat} (h:Many E xs Q T D):(lfs T).length≤E.length+xs.length:=by
 rw [h.prm.length_eq,List.length_append,List.length_map]
 have h1:D.length≤(List.range xs.length).length:=sub_len h.ndD fun j hj=>List.mem_range.2 (h.lt j hj)
 rw [List.length_range] at h1
 omega
theorem Many.step {E:List Kv} {xs:List ByteArray} {Q:List PuT} {T T':List (List AbN)} {D:List Nat} {ps:List PgS} {root fresh:Int} {p':PuT} {g:GoT} {j:Nat} (h:Many E xs Q T D) (htr:Tr ps T root) (hj:j < xs.length) (ho:Out T T' (Q.getD j pu0) p' g fresh):∃ D',Many E xs (Q.set j p') T' D':=by
 have hjq:j < Q.length:=by rw [h.len]; exact hj
 have hst:∀ {D':List Nat},(∀ i,i≠j→(i∈D'↔i∈D))→((j∉D'∧UnP (xs.getD j ba0) p')∨(j∈D'∧InP p'))→∀ i,i < xs.length→(i∉D'∧UnP (xs.getD i ba0) ((Q.set j p').getD i pu0))∨(i∈D'∧InP ((Q.set j p').getD i pu0)):=fun hD hjj i hi=>by
  rw [getD_setp hjq]
  by_cases e:i=j
  ·subst e; rw [if_pos rfl]; exact hjj
  ·rw [if_neg e]
   rcases h.st i hi with ⟨h1,h2⟩ | ⟨h1,h2⟩
   ·exact .inl ⟨fun h3=>h1 ((hD i e).1 h3),h2⟩
   ·exact .inr ⟨(hD i e).2 h1,h2⟩
 rcases h.st j hj with ⟨h1,l,h2,h3,h4⟩ | ⟨h1,h2,h3⟩
 ·have hw:Way ((D.map fun j=>(xs.getD j ba0,(-1:Int)))++E) (xs.getD j ba0) T (Q.getD j pu0):= .inl ⟨l,h2,h3,h.prm,h4⟩
  have hx:∀ y∈(D.map fun j=>(xs.getD j ba0,(-1:Int)))++E,y.1≠xs.getD j ba0:=fun y hy e=>by
   rcases List.mem_append.1 hy with hy | hy
   ·obtain ⟨i,hi,rfl⟩:=List.mem_map.1 hy
    exact h1 (getD_ndp h.ndx (h.lt i hi) hj e ▸ hi)
   ·refine h.far _ ?_ y hy e
    rw [List.getD_eq_getElem?_getD,List.getElem?_eq_getElem hj]
    exact List.getElem_mem hj
  rcases hw.step htr ho hx with ⟨l',g1,g2,g3,g4⟩ | ⟨g1,g2,g3⟩
  ·exact ⟨D,by rw [List.length_set]; exact h.len,h.ndx,h.far,h.ndD,h.lt,g3,hst (fun _ _=>Iff.rfl) (.inl ⟨h1,l',g1,g2,g4⟩)⟩
  ·refine ⟨j::D,by rw [List.length_set]; exact h.len,h.ndx,h.far,List.nodup_cons.2 ⟨h1,h.ndD⟩,fun i hi=>?_,g2,hst (fun i hi=>by simp [hi]) (.inr ⟨by simp,g1,g3⟩)⟩
   rcases List.mem_cons.1 hi with rfl | hi
   ·exact hj
   ·exact h.lt i hi
 ·obtain ⟨g1,g2,g3⟩:=rest_lfs ho h2
  exact ⟨D,by rw [List.length_set]; exact h.len,h.ndx,h.far,h.ndD,h.lt,g1.trans h.prm,hst (fun _ _=>Iff.rfl) (.inr ⟨h1,g2,by rw [g3]; exact h3⟩)⟩
/-- all at their end: all are there -/
theorem Many.done {E:List Kv} {xs:List ByteArray} {Q:List PuT} {T:List (List AbN)} {D:List Nat} (h:Many E xs Q T D) (hd:∀ j,j < xs.length→(Q.getD j pu0).left=[]):(lfs T).Perm ((xs.map fun x=>(x,(-1:Int)))++E):=by
 have h1:D.Perm (List.range xs.length):=by
  refine (List.perm_ext_iff_of_nodup h.ndD List.nodup_range).2 fun j=>⟨fun hj=>List.mem_range.2 (h.lt j hj),fun hj=>?_⟩
  have hj:=List.mem_range.1 hj
  rcases h.st j hj with ⟨_,l,h2, _⟩ | ⟨h2, _⟩
  ·rw [hd j hj] at h2; cases h2
  ·exact h2
 refine h.prm.trans (List.Perm.append_right _ ((h1.map _).trans ?_))
 have e:(List.range xs.length).map (fun j=>(xs.getD j ba0,(-1:Int)))=xs.map fun x=>(x,(-1:Int)):=by
  apply List.ext_getElem
  ·simp
  ·intro i h2 h3
   have h4:i < xs.length:=by simpa using h2
   simp [List.getD_eq_getElem?_getD,List.getElem?_eq_getElem h4]
 rw [e]
theorem InsOk.evo {T T':List (List AbN)} {root:Int} {p:PuT} (h:InsOk T root p) (he:Evo T T'):InsOk T' root p:=⟨h.rt,fun t l e=>he.pos _ _ _ (h.pos t l e),fun t ht=>he.task t (h.tasks t ht)⟩
/-- how often the rounds from 300 on, up to i, came to j of m -/
def cntR (m j i:Nat):Nat:=((List.range i).filter fun r=>decide (300≤r∧r % m=j)).length
theorem cntR_succ (m j i:Nat):cntR m j (i+1)=cntR m j i+(if 300≤i∧i % m=j then 1 else 0):=by
 rw [cntR,cntR,List.range_succ,List.filter_append,List.length_append]
 by_cases h:300≤i∧i % m=j
 ·rw [if_pos h]; simp [h]
 ·rw [if_neg h]; simp [h]
theorem cntR_mono (m j:Nat):∀ (d i:Nat),cntR m j i≤cntR m j (i+d)
 | 0,i=>Nat.le_refl _
 | d+1,i=>by
   have h1:=cntR_mono m j d i
   rw [show i+(d+1)=i+d+1 from rfl,cntR_succ]
   omega
theorem cntR_hit {m j i:Nat} (hm:0 < m) (hj:j < m) (hi:300≤i):cntR m j i+1≤cntR m j (i+m):=by
 obtain ⟨r,hr1,hr2,hr3⟩:∃ r,i≤r∧r < i+m∧r % m=j:=by
  refine ⟨i+(j+(m - i % m)) % m,by omega,?_,?_⟩
  ·have:=Nat.mod_lt (j+(m - i % m)) hm; omega
  ·rw [Nat.add_mod,Nat.mod_mod,← Nat.add_mod]
   have h1:=Nat.mod_lt i hm
   have h2:=Nat.div_add_mod i m
   have e:i+(j+(m - i % m))=j+m*(i / m+1):=by rw [Nat.mul_add]; omega
   rw [e,Nat.add_mul_mod_self_left,Nat.mod_eq_of_lt hj]
 have h1:=cntR_mono m j (r - i) i
 have h2:=cntR_mono m j (i+m - (r+1)) (r+1)
 have h3:=cntR_succ m j r
 rw [if_pos ⟨by omega,hr3⟩] at h3
 rw [show i+(r - i)=r by omega] at h1
 rw [show r+1+(i+m - (r+1))=i+m by omega] at h2
 omega
theorem cntR_many {m j:Nat} (hm:0 < m) (hj:j < m):∀ k:Nat,k≤cntR m j (300+k*m)
 | 0=>Nat.zero_le _
 | k+1=>by
   have h1:=cntR_many hm hj k
   have h2:=cntR_hit hm hj (i:=300+k*m) (by omega)
   rw [show 300+(k+1)*m=300+k*m+m by rw [Nat.succ_mul]; omega]
   omega
theorem cntR_end {m j:Nat} (hm:0 < m) (hj:j < m) (hm2:m≤13):438≤cntR m j 6000:=by
 have h1:=cntR_many hm hj 438
 have h2:=cntR_mono m j (6000 - (300+438*m)) (300+438*m)
 have h3:438*m≤438*13:=Nat.mul_le_mul_left _ hm2
 rw [show 300+438*m+(6000 - (300+438*m))=6000 by omega] at h2
 omega
end
section
open Go.RowKit
/-- a walk behind a leaf -/
def wkL (w:WkT) (n:NoD):WkT:=⟨n.right,w.st,if n.high.size=0 then w.fm else n.high,decide (n.right < 0)⟩
/-- the entries that a walk returns -/
def keepW (fm:ByteArray) (es:List EnD):List EnD:=es.filter fun e=>!lessF e.1 fm
theorem keepW_step {fm:ByteArray} {l:List EnD} {i:Nat} (h:i < l.length):keepW fm (l.take (i+1))=keepW fm (l.take i)++(if lessF (l.getD i en0).1 fm then [] else [l.getD i en0]):=by
 rw [keepW,take_getD h,List.filter_append]
 congr 1
 generalize l.getD i en0=x
 cases hq:lessF x.1 fm<;>simp [hq]
theorem keepW_yes {fm:ByteArray} {l:List EnD} {i:Nat} (h:i < l.length) (hq:lessF (l.getD i en0).1 fm=false):keepW fm (l.take (i+1))=keepW fm (l.take i)++[l.getD i en0]:=by rw [keepW_step h,hq]; rfl
theorem keepW_no {fm:ByteArray} {l:List EnD} {i:Nat} (h:i < l.length) (hq:lessF (l.getD i en0).1 fm=true):keepW fm (l.take (i+1))=keepW fm (l.take i):=by rw [keepW_step h,hq,if_pos rfl,List.append_nil]
theorem nx_to {b:Nat} {pos:Int} {R R':WkT×WkR} {f:FuncId} {args:Array Value} {w:World} (hR:R=R') (hc:Calls Try.prog f args w (NxPost b pos R w)):Calls Try.prog f args w (NxPost b pos R' w):=hR ▸ hc
theorem wk_at {ps:List PgS} {pos st:Int} {fm:ByteArray} {fin:Bool} {nd:NoD} {w1:WkT} (h:wkN ps ⟨pos,st,fm,fin⟩=(w1, .at nd)):ndAt ps pos=some nd∧w1=⟨pos,st+1,fm,false⟩:=by
 by_cases h0:fin=true∨1000≤st+1
 ·rw [wk_end h0] at h; cases h
 ·rcases hn:ndAt ps pos with _ | n
  ·rw [wk_none hn] at h; cases h
  ·rw [wk_some h0 hn] at h
   split at h
   ·split at h<;>cases h
   ·split at h<;>cases h
    exact ⟨rfl,rfl⟩
def WsPost (b:Nat) (pos:Int) (r:WkT×WkR) (w:World) (e:Ending) (w':World):Prop:=match r.2 with
 | .off=>e= .returned (.tuple #[.int .i64 (-1), .slice none 0 0, .slice none 0 0, .bool false])∧St w [b] [eB b 145 (wkC r.1)] w'
 | .on=>e= .returned (.tuple #[.int .i64 (-1), .slice none 0 0, .slice none 0 0, .bool true])∧St w [b] [eB b 145 (wkC r.1)] w'
 | .at n=>∃ KA kc RA rc,e= .returned (.tuple #[.int .i64 pos, .slice KA (keepW r.1.fm n.es).length kc, .slice RA (keepW r.1.fm n.es).length rc, .bool true])∧
   St w [b] [eB b 145 (wkC (wkL r.1 n)),eO 9 1 (.slice KA (keepW r.1.fm n.es).length kc) (keepW r.1.fm n.es).length ((keepW r.1.fm n.es).map tqS),eO 31 2 (.slice RA (keepW r.1.fm n.es).length rc) (keepW r.1.fm n.es).length ((keepW r.1.fm n.es).flatMap tqR)] w'
def NnPost (b:Nat) (w1:WkT) (mo:Bool) (w:World) (e:Ending) (w':World):Prop:=e= .returned (.tuple #[kn0 0, .bool false, .bool mo])∧St w [b] [eB b 145 (wkC w1)] w'
theorem nx_no {b:Nat} {pos:Int} {w1:WkT} {mo:Bool} {f:FuncId} {args:Array Value} {w:World} (hc:Calls Try.prog f args w (NxPost b pos (w1,bif mo then .on else .off) w)):Calls Try.prog f args w (NnPost b w1 mo w):=by cases mo<;>exact hc
theorem wr_two (r:WkR):(∃ mo,r=bif mo then .on else .off)∨∃ n,r= .at n:=by
 rcases r with _ | _ | n
 ·exact .inl ⟨false,rfl⟩
 ·exact .inl ⟨true,rfl⟩
 ·exact .inr ⟨n,rfl⟩
theorem tqS_snoc (T:List EnD) (x:EnD):T.map tqS++[.string (qkF x.1)]=(T++[x]).map tqS:=by rw [List.map_append]; rfl
theorem tqR_snoc (T:List EnD) (x:EnD):T.flatMap tqR++[.int .i64 (opF x.1), .int .i64 (osF x.1)]=(T++[x]).flatMap tqR:=by rw [List.flatMap_append]; rfl
theorem kwstep_any (b:Nat) (tt:TypeId) (tv:Value) (pos st:Int) (fm:ByteArray) (fin:Bool) (ps:List PgS) (w:World) (hb:Blk w b 145 #[.int .i64 pos, .int .i64 st, .string fm, .bool fin]) (hS:∀ W,Upd [b] w W→PgsOk W tt tv ps) (hok:OkS ps) (hoc:OkC ps) (hst:0≤st∧st≤100000) (hfm:fm.size≤900000):
  Calls Try.prog 35 #[.pointer (some ⟨b,0,none⟩), .iface tt (tv)] w (WsPost b pos (wkN ps ⟨pos,st,fm,fin⟩) w):=by
 have st0:=St.lend (E:=eB b 145 #[.int .i64 pos, .int .i64 st, .string fm, .bool fin]) hb (eB_loc _ _ _) (fun k hk=>by simp [eB] at hk; subst hk; exact hb.lt)
 go_enter Try.func35,Try.ntmps35
 have hst0:=st0
 refine wp_seq (sqr (sqp [.k 4 (vi 0), .k 5 (.slice none 0 0), .k 6 (.slice none 0 0), .k 7 (.bool false)] ?_))
 refine then_normal (wp_seq ?_)
 rcases hR:wkN ps ⟨pos,st,fm,fin⟩ with ⟨w1,r1⟩
 rcases wr_two r1 with ⟨mo,rfl⟩ | ⟨nd,rfl⟩
 ·refine sqr (sqp [.m 16 0, .m 17 1] ?_)
  refine sqc0 (.tuple #[.agg #[vi 0,vi 0,vi 0, .string ((⟨#[]⟩:ByteArray)), .bool false, .slice none 0 0,vi 0], .bool false, .bool mo]) (eB b 145 #[vi w1.pos,vi w1.st, .string w1.fm, .bool w1.fin]) 0 hst0 (by
    refine svA fun ρ β W X cx=>?_
    refine DoesU.call (run_callF (args:=#[vp b, .iface tt (tv)]) rfl cx.sees rfl (by kernel_rfl) (map2 (cx.ou 16) (cx.ou 17))) ?_
    refine (nx_no (nx_to hR (kwnext_any _ _ _ pos st fm fin ps _ (cx.bi 0 rfl) (fun W hW=>hS W (cx.upd.join hW (fun i hi=> .inl hi))) hok hoc hst hfm))).mono ?_
    rintro e W1 ⟨rfl,hs4⟩
    refine ⟨_,rfl,post_obj (E:=eB b 145 #[vi pos,vi st, .string fm, .bool fin]) [eB b 145 #[vi w1.pos,vi w1.st, .string w1.fm, .bool w1.fin]] (cx.init 0 _ rfl) rfl rfl hs4 (fun σ β' X' hs hb hv hN=>?_)⟩
    have hv1:=(hv 18 rfl).1; have hv2:=(hv 18 rfl).2
    exact ⟨hv1.trans rfl,(List.cons.inj hN).1⟩) fun W7 hst7=>?_
  refine sqp [.m 15 18, .k 19 (.agg #[vi 0,vi 0,vi 0, .string ((⟨#[]⟩:ByteArray)), .bool false, .slice none 0 0,vi 0]), .k 20 (.bool false), .k 21 (.bool mo)] ?_
  refine sqal #[vi 0,vi 0,vi 0, .string ByteArray.empty, .bool false, .slice none 0 0,vi 0] hst7 fun B8_12 W12 hst12=>?_
  refine sqst (n:=7) 1 #[vi 0,vi 0,vi 0, .string ((⟨#[]⟩:ByteArray)), .bool false, .slice none 0 0,vi 0] hst12 fun W13 hst13=>?_
  refine sqp [.k 9 (.bool false), .m 7 21] ?_
  refine then_normal (wp_seq (wp_seq (sqr (sqp [.k 22 (.bool false), .k 23 (.bool true)] ?_))))
  refine then_normal (wct rfl (wp_seq (sqr (sqp [.m 24 7, .k 4 (vi (-1)), .k 5 (.slice none 0 0), .k 6 (.slice none 0 0), .m 7 24] ?_))))
  refine then_normal (wp_ret (then_ret ?_))
  refine bpr (.tuple #[vi (-1), .slice none 0 0, .slice none 0 0, .bool mo]) (results_4 Try.results35 rpt rpt rpt rpt) ?_
  cases mo<;>exact ⟨rfl,hst13.pick [0] (by decide) rfl⟩
 ·obtain ⟨hnd,rfl⟩:=wk_at hR
  have hN0:=nd_ok hok hnd
  have hez:∀ e∈nd.es,e.1.size≤1000000:=fun e he=>Nat.le_trans (hN0.es e he) (by decide)
  have hN1:=hN0.len
  have hN2:=hN0.rt
  have hN3:=hN0.hi
  refine wp_region_Y [0,0,3,7,15,15,15,0,159,447,1023] [[],[],[0],[],[],[],[],[],[3]] [[],[],[1,2],[],[],[],[],[3],[4]] [[],[],[0],[],[],[],[],[],[3]] [.k 16 (vp b), .k 17 (.iface tt (tv)), .a 18, .a 15, .a 19, .c 20 (.bool true), .c 21 (.bool true), .a 8, .n, .k 9 (.bool true), .k 7 (.bool true)] (fun ix σ β X=>match ix with | 0=>True | 1=>True | 2=>σ 18= .tuple #[.agg #[vi pos,vi nd.lv,vi nd.right, .string nd.high, .bool nd.dead, .slice (sA (tg (tg (β 18) 0) 5)) nd.es.length (sC (tg (tg (β 18) 0) 5)),vi ((nd.free:Int))], .bool true, .bool true]∧X 1=eB b 145 #[vi pos,vi (st+1), .string fm, .bool false]∧X 2=eO 104 3 (.slice (sA (tg (tg (β 18) 0) 5)) nd.es.length (sC (tg (tg (β 18) 0) 5))) nd.es.length (nd.es.flatMap enC) | 3=>σ 15= .tuple #[.agg #[vi pos,vi nd.lv,vi nd.right, .string nd.high, .bool nd.dead, .slice (sA (tg (tg (β 18) 0) 5)) nd.es.length (sC (tg (tg (β 18) 0) 5)),vi ((nd.free:Int))], .bool true, .bool true] | 4=>σ 19= .agg #[vi pos,vi nd.lv,vi nd.right, .string nd.high, .bool nd.dead, .slice (sA (tg (tg (β 18) 0) 5)) nd.es.length (sC (tg (tg (β 18) 0) 5)),vi ((nd.free:Int))] | 5=>True | 6=>True | 7=>σ 8=vp (pb (β 8))∧X 3=eB (pb (β 8)) 116 #[vi 0,vi 0,vi 0, .string ByteArray.empty, .bool false, .slice none 0 0,vi 0] | 8=>X 4=eB (pb (β 8)) 116 #[vi pos,vi nd.lv,vi nd.right, .string nd.high, .bool nd.dead, .slice (sA (tg (tg (β 18) 0) 5)) nd.es.length (sC (tg (tg (β 18) 0) 5)),vi ((nd.free:Int))] | _=>True) [1,2,4] [2,3,4,5,6,7,8] [(7,10,1,8),(0,7,3,2),(5,3,1,6),(0,0,3,3),(0,4,3,3)] hst0 ?_ ?_ ?_
  ·exact fun ix _ _ _ _ _ _ hs hb hx h=>match ix,h with
   | 2,h=>by dsimp only; rw [← hs 18 rfl,← hb 18 rfl,← hx 1 rfl,← hx 2 rfl]; exact h
   | 3,h=>by dsimp only; rw [← hs 15 rfl,← hb 18 rfl]; exact h
   | 4,h=>by dsimp only; rw [← hs 19 rfl,← hb 18 rfl]; exact h
   | 7,h=>by dsimp only; rw [← hs 8 rfl,← hb 8 rfl,← hx 3 rfl]; exact h
   | 8,h=>by dsimp only; rw [← hb 8 rfl,← hb 18 rfl,← hx 4 rfl]; exact h
   | 0, _ | 1, _ | 5, _ | 6, _ | _+9, _=>trivial
  ·refine ⟨?_,?_,?_,?_,?_,?_,?_,trivial⟩
   ·refine svA fun ρ β W X cx=>?_
    refine DoesU.call (run_callF (args:=#[vp b, .iface tt (tv)]) rfl cx.sees rfl (by kernel_rfl) (map2 (cx.an 0) (cx.an 1))) ?_
    refine (nx_to hR (kwnext_any _ _ _ pos st fm fin ps _ (cx.bi 0 rfl) (fun W hW=>hS W (cx.upd.join hW (fun i hi=> .inl hi))) hok hoc hst hfm)).mono ?_
    rintro e W1 ⟨EA4,ec4,rfl,hs4⟩
    refine ⟨_,rfl,post_obj (E:=eB b 145 #[vi pos,vi st, .string fm, .bool fin]) [eB b 145 #[vi pos,vi (st+1), .string fm, .bool false],eO 104 3 (.slice EA4 nd.es.length ec4) nd.es.length (nd.es.flatMap enC)] (cx.init 0 _ rfl) rfl rfl hs4 (fun σ β' X' hs hb hv hN=>?_)⟩
    have hv1:=(hv 18 rfl).1; have hv2:=(hv 18 rfl).2
    exact ⟨hv1.trans (by rw [hv2]; rfl),(List.cons.inj hN).1,(by rw [hv2]; exact (List.cons.inj (List.cons.inj hN).2).1)⟩
   ·exact sv rfl rfl rfl rfl rfl _ (fun _ _ _ h=>h) (fun β β' h=>by rw [h 18 (by decide)]) fun ρ β W X cx=>run_move' rfl (dTn (cx.an 2)).1
   ·exact sv rfl rfl rfl rfl rfl _ (fun _ _ _ h=>h) (fun β β' h=>by rw [h 18 (by decide)]) fun ρ β W X cx=>run_extract' rfl (dTn (cx.an 3)) rfl
   ·exact xs4 rfl id fun cx=>run_extract' rfl (dTn (cx.an 3)) rfl
   ·exact xs4 rfl id fun cx=>run_extract' rfl (dTn (cx.an 3)) rfl
   ·refine svA fun ρ β W X cx=>?_
    exact dv_alloc (cs:=#[vi 0,vi 0,vi 0, .string ByteArray.empty, .bool false, .slice none 0 0,vi 0]) rfl (by kernel_rfl) rfl rfl (fun σ β' X' hs hb hv hx=>⟨hv,hx⟩)
   ·refine svA fun ρ β W X cx=>?_
    exact dv_store (n:=7) rfl (dTn (cx.an 7)).1 (dTn (cx.an 4)) (by kernel_rfl) (by kernel_rfl) (by kernel_rfl) cx (dTn (cx.an 7)).2 rfl (nle rfl) (by kernel_rfl) rfl rfl rfl (fun σ β' X' hs hb hx=>by rw [hb 8,hb 18]; exact hx)
  intro σ β X W23 hD hst23 fr hfr
  obtain ⟨EA18_23,hu_EA18_23⟩:∃ z,sA (tg (tg (β 18) 0) 5)=z:=⟨_,rfl⟩
  obtain ⟨ec18_23,hu_ec18_23⟩:∃ z,sC (tg (tg (β 18) 0) 5)=z:=⟨_,rfl⟩
  obtain ⟨B8_23,hu_B8_23⟩:∃ z,pb (β 8)=z:=⟨_,rfl⟩
  simp only [exq 1 ((dTn (hD 2 lq)).2.1),exq 2 ((dTn (hD 2 lq)).2.2),exq 4 ((dTn (hD 8 lq))),hu_EA18_23,hu_ec18_23,hu_B8_23] at hst23
  simp only [ed 18 ((dTn (hD 2 lq)).1),ed 15 ((dTn (hD 3 lq))),ed 19 ((dTn (hD 4 lq))),ed 8 ((dTn (hD 7 lq)).1),hu_EA18_23,hu_ec18_23,hu_B8_23] at hfr
  clear hD hu_EA18_23 hu_ec18_23 hu_B8_23; subst hfr; clear σ β X
  refine then_normal (wp_seq (wp_seq (sqr (sqp [.k 22 (.bool true), .k 23 (.bool false)] ?_))))
  refine then_normal (wcf rfl (wp_skip (then_normal (wp_seq (wp_seq (sqr (sqp [.k 25 (.pointer (some ⟨B8_23,5,none⟩))] ?_)))))))
  refine sqld 2 hst23 ?_
  refine sqp [.k 27 (vi ((nd.es.length:Int))), .k 28 (vi 0)] ?_
  refine then_normal (wp_block ?_)
  have hn30:=St.nilrow hst23 9
  simp only [List.cons_append,List.nil_append] at hn30
  have hn31:=nilrowN hn30 31 2
  simp only [List.cons_append,List.nil_append] at hn31
  refine wp_loopT (fun t_ mz az W=>∃ i:Nat,∃ m:Nat,∃ T:List EnD,∃ KA:Option Addr,∃ kc:Nat,∃ RA:Option Addr,∃ rc:Nat,i≤nd.es.length∧T=keepW fm (nd.es.take i)∧T.length=m∧m≤i∧mz=nd.es.length - i∧az=⟨(ovr (jv az) [(5,5,0,[.slice KA m kc, .slice RA m rc]),(4,11,4,[]),(13,28,0,[vi ((i:Int))]),(0,29,27,[])] t_).toArray,[]⟩∧St w [b] [eB b 145 #[vi pos,vi (st+1), .string fm, .bool false],eB B8_23 116 #[vi pos,vi nd.lv,vi nd.right, .string nd.high, .bool nd.dead, .slice EA18_23 nd.es.length ec18_23,vi ((nd.free:Int))],eO 104 3 (.slice EA18_23 nd.es.length ec18_23) nd.es.length (nd.es.flatMap enC),eO 9 1 (.slice KA m kc) m (T.map tqS),eO 31 2 (.slice RA m rc) m (T.flatMap tqR)] W) (nd.es.length - 0) ?_ ?_
  · -- the loop begins
    exact ⟨0,0,[],none,0,none,0,Nat.zero_le _,rfl,rfl,Nat.le_refl _,rfl,(by kernel_rfl),hn31.pk [0,2,1,3,4]⟩
  rintro n32 a32 W32 ⟨i,m,T,KA,kc,RA,rc,hi,hT,hTl,hmi,rfl,hj_,hst32⟩
  refine ovz hj_ fun u32_=>?_
  refine wp_seq (sqr (sqp [.k 29 (.bool (decide ((i:Int) < (nd.es.length:Int))))] ?_))
  refine then_normal (wp_seq (wds (fun hs34 hs34p=>?_) fun hs34 hs34p=>?_))
  ·refine wp_skip (then_normal (wp_seq (wp_block (wp_seq (sqr ?_)))))
   refine sql (.pointer (some ((ad EA18_23).add (i*3)))) hst32 (fun cx=>run_indexSlM (e:=104) (m:=i) (sz:=3) rfl (by kernel_rfl) (by kernel_rfl) (cx.ou 26) (cx.ou 28) (by omega) (by omega) (At.of_ownN (cx.ri 2 rfl)) (flatPos (sz:=3) enC_len (by decide) (by omega))) ?_
   refine sql (.agg #[.string ((nd.es.getD i en0).1),vi (((nd.es.getD i en0).2.1:Int)),vi ((nd.es.getD i en0).2.2)]) hst32 (fun cx=>run_loadElt (f:=enC) (m:=i) (sz:=3) (off:=0) (n:=3) rfl (by kernel_rfl) (by kernel_rfl) (cx.ou 30) rfl enC_len (At.of_ownN (cx.ri 2 rfl)) (en_get (by omega)) (fun k hk=>match k,hk with | 0, _=>rfl | 1, _=>rfl | 2, _=>rfl | k+3,hk=>absurd hk (by omega))) ?_
   refine sqal #[.string ByteArray.empty,vi 0,vi 0] hst32 fun B11_37 W37 hst37=>?_
   refine sqst (n:=3) 5 #[.string ((nd.es.getD i en0).1),vi (((nd.es.getD i en0).2.1:Int)),vi ((nd.es.getD i en0).2.2)] hst37 fun W38 hst38=>?_
   refine then_normal (wp_seq (wp_region_Z [0,1,0,4,12,28,63,127] [[],[5],[],[],[],[0]] [.k 32 (vp B11_37), .c 33 (.string ((nd.es.getD i en0).1)), .k 34 (vp b), .k 35 (vp b), .k 36 (.pointer (some ⟨b,2,none⟩)), .c 37 (.string fm), .c 38 (.bool (lessF ((nd.es.getD i en0).1) fm)), .k 39 (.bool (!(lessF ((nd.es.getD i en0).1) fm)))] [0,1,2,3,4,5] [1,5,6] [(32,0,8,40)] hst38 ?_ fun W39 hst39=>?_))
   ·refine ⟨?_,?_,?_,trivial⟩
    ·exact xs4 rfl id fun cx=>run_load1 rfl (by kernel_rfl) (cx.an 0) ((cx.bi 5 rfl).cell 0)
    ·exact xs4 rfl id fun cx=>run_load1 rfl (by kernel_rfl) (cx.an 4) ((cx.bi 0 rfl).cell 2)
    ·exact xsc rfl id rfl rfl fun cx=>⟨_,kless_any ((nd.es.getD i en0).1) fm _ (getD_size hez _) (by omega),(map2 (cx.an 1) (cx.an 5))⟩
   refine then_normal ?_
   rcases Bool.eq_false_or_eq_true (lessF ((nd.es.getD i en0).1) fm) with hs40 | hs40
   ·refine wp_cond_false (show Act.eval _ _= .bool false from (congrArg Value.bool (by rw [hs40]; rfl))) (wp_skip (blk_normal (then_normal (sqr (sqp [sI 55 ((i:Int)+1) (by omega), .m 28 55] ?_)))))
    refine then_normal ?_
    refine ⟨nd.es.length - ((i+1)),by omega,?_⟩
    exact ⟨(i+1),m,T,KA,kc,RA,rc,by omega,by rw [keepW_no (by omega) (by have h_:=hs40; simpa using h_)]; exact hT,hTl,by omega,rfl,(by kernel_rfl),hst39.pk [0,1,2,3,4]⟩
   refine wp_cond_true (show Act.eval _ _= .bool true from (congrArg Value.bool (by rw [hs40]; rfl))) (wp_seq (sqr (sqp [.k 41 (vp B11_37)] ?_)))
   refine sqld 5 hst39 ?_
   refine sqk (.tuple #[.string (qkF ((nd.es.getD i en0).1)), .agg #[vi (opF ((nd.es.getD i en0).1)),vi (osF ((nd.es.getD i en0).1))], .bool (decide (4≤((nd.es.getD i en0).1).size))]) hst39 (fun cx=>⟨_,kpart_any ((nd.es.getD i en0).1) _ (getD_size hez _),(map1 (cx.ou 42))⟩) fun W45 hst45=>?_
   refine sqp [.m 40 43, .k 44 (.string (qkF ((nd.es.getD i en0).1))), .k 45 (.agg #[vi (opF ((nd.es.getD i en0).1)),vi (osF ((nd.es.getD i en0).1))]), .k 46 (.bool (decide (4≤((nd.es.getD i en0).1).size)))] ?_
   refine sqal #[vi 0,vi 0] hst45 fun B13_50 W50 hst50=>?_
   refine sqp [.m 12 44] ?_
   refine sqst (n:=2) 6 #[vi (opF ((nd.es.getD i en0).1)),vi (osF ((nd.es.getD i en0).1))] hst50 fun W52 hst52=>?_
   refine sqp [.m 14 46] ?_
   refine then_normal (wp_region_Y [0,0,2,7,0,0,32,127,255,511] [[],[],[],[7,3],[],[6],[],[9,4]] [[],[],[7],[8],[],[],[9],[10]] [[],[],[],[3],[],[],[],[4]] [.k 47 (.slice KA m kc), .k 48 (.string (qkF ((nd.es.getD i en0).1))), .a 49, .a 50, .k 51 (.slice RA m rc), .c 52 (.agg #[vi (opF ((nd.es.getD i en0).1)),vi (osF ((nd.es.getD i en0).1))]), .a 53, .a 54, .a 5, .a 6] (fun ix σ β X=>match ix with | 0=>True | 1=>True | 2=>σ 49= .slice (sA (β 49)) 1 1∧X 7=eO 9 1 (.slice (sA (β 49)) 1 1) 1 ([.string (qkF ((nd.es.getD i en0).1))]) | 3=>σ 50= .slice (sA (β 50)) (m+1) (sC (β 50))∧X 8=eO 9 1 (.slice (sA (β 50)) (m+1) (sC (β 50))) (m+1) ((T++[(nd.es.getD i en0)]).map tqS) | 4=>True | 5=>True | 6=>σ 53= .slice ((some ⟨(pb' (β 53)),0,none⟩)) 1 1∧X 9=eO 31 2 (.slice ((some ⟨(pb' (β 53)),0,none⟩)) 1 1) 1 ([vi (opF ((nd.es.getD i en0).1)),vi (osF ((nd.es.getD i en0).1))]) | 7=>σ 54= .slice (sA (β 54)) (m+1) (sC (β 54))∧X 10=eO 31 2 (.slice (sA (β 54)) (m+1) (sC (β 54))) (m+1) ((T++[(nd.es.getD i en0)]).flatMap tqR) | 8=>σ 5= .slice (sA (β 50)) (m+1) (sC (β 50)) | 9=>σ 6= .slice (sA (β 54)) (m+1) (sC (β 54)) | _=>True) [0,1,2,5,6,7,8,9,10] [2,3,5,6,7,8,9] [(5,8,2,7),(40,0,8,48)] hst52 ?_ ?_ ?_)
   ·exact fun ix _ _ _ _ _ _ hs hb hx h=>match ix,h with
    | 2,h=>by dsimp only; rw [← hs 49 rfl,← hb 49 rfl,← hx 7 rfl]; exact h
    | 3,h=>by dsimp only; rw [← hs 50 rfl,← hb 50 rfl,← hx 8 rfl]; exact h
    | 6,h=>by dsimp only; rw [← hs 53 rfl,← hb 53 rfl,← hx 9 rfl]; exact h
    | 7,h=>by dsimp only; rw [← hs 54 rfl,← hb 54 rfl,← hx 10 rfl]; exact h
    | 8,h=>by dsimp only; rw [← hs 5 rfl,← hb 50 rfl]; exact h
    | 9,h=>by dsimp only; rw [← hs 6 rfl,← hb 54 rfl]; exact h
    | 0, _ | 1, _ | 4, _ | 5, _ | _+10, _=>trivial
   ·refine ⟨?_,?_,?_,?_,?_,?_,?_,trivial⟩
    ·refine svA fun ρ β W X cx=>?_
     have fF48:ρ (.tmp 48)= .string (qkF ((nd.es.getD i en0).1)):=(cx.an 1)
     exact dv_lit (e:=9) (xs:=[.string (qkF ((nd.es.getD i en0).1))]) rfl (by simp [go_sem,fF48]) rfl (by decide) rfl rfl (fun σ β' X' hs hb hv hx=>⟨hv,hx⟩)
    ·refine svA fun ρ β W X cx=>?_
     obtain ⟨i0,hi0,hz0,hz1,hz2⟩:=info_parts Try.infoStr
     refine dv_append (n:=m) (m:=1) (nm:=m+1) (xs:=T.map tqS) (news:=[.string (qkF ((nd.es.getD i en0).1))]) (xs':=(T++[(nd.es.getD i en0)]).map tqS) rfl (ty:=49) rfl (by kernel_rfl) hi0 hz0 hz1 hz2 rfl (cx.an 0) cx (cx.init 3 _ rfl) rfl (dTn (cx.an 2)).1 (by rfl) (At.of_own (cx.row (dTn (cx.an 2)).2 rfl)) (by simp [Value.oneCell']) (by simp only [maxLen]; omega) (by omega) rfl rfl rfl (by omega) (tqS_snoc _ _) (fun σ β' X' hs hb hv hx=>?_)
     exact ⟨hv,hx⟩
    ·exact xs4 rfl id fun cx=>run_loadB (n:=2) rfl (by kernel_rfl) (by kernel_rfl) (cx.ou 13) (cx.bi 6 rfl) (nle rfl) rfl
    ·refine svA fun ρ β W X cx=>?_
     have fF52:ρ (.tmp 52)= .agg #[vi (opF ((nd.es.getD i en0).1)),vi (osF ((nd.es.getD i en0).1))]:=(cx.an 5)
     exact dv_litN (e:=31) (sz:=2) (xs:=[vi (opF ((nd.es.getD i en0).1)),vi (osF ((nd.es.getD i en0).1))]) rfl (by simp [go_sem,fF52]) rfl (by decide) rfl rfl (fun σ β' X' hs hb hv hx=>⟨hv,hx⟩)
    ·refine svA fun ρ β W X cx=>?_
     obtain ⟨i0,hi0,hz0,hz1,hz2⟩:=info_parts Try.infoTid
     refine dv_appendN (n:=m) (m:=1) (nm:=m+1) (sz:=2) (xs:=T.flatMap tqR) (news:=[vi (opF ((nd.es.getD i en0).1)),vi (osF ((nd.es.getD i en0).1))]) (xs':=(T++[(nd.es.getD i en0)]).flatMap tqR) rfl (ty:=58) rfl (by kernel_rfl) hi0 hz0 hz1 hz2 rfl (by decide) (cx.an 4) cx (cx.init 4 _ rfl) rfl (dTn (cx.an 6)).1 (by rfl) (At.of_ownN (cx.row (dTn (cx.an 6)).2 rfl)) (by simp [Value.oneCell']) (by simp only [maxLen]; omega) (by omega) rfl rfl rfl (by omega) (tqR_snoc _ _) (fun σ β' X' hs hb hv hx=>?_)
     exact ⟨hv,hx⟩
    ·exact sv rfl rfl rfl rfl rfl _ (fun _ _ _ h=>h) (fun β β' h=>by rw [h 50 (by decide)]) fun ρ β W X cx=>run_assign' rfl (dTn (cx.an 3)).1
    ·exact sv rfl rfl rfl rfl rfl _ (fun _ _ _ h=>h) (fun β β' h=>by rw [h 54 (by decide)]) fun ρ β W X cx=>run_assign' rfl (dTn (cx.an 7)).1
   intro σ β X W54 hD hst54 fr hfr
   obtain ⟨A49_54,hu_A49_54⟩:∃ z,sA (β 49)=z:=⟨_,rfl⟩
   obtain ⟨A50_54,hu_A50_54⟩:∃ z,sA (β 50)=z:=⟨_,rfl⟩
   obtain ⟨c50_54,hu_c50_54⟩:∃ z,sC (β 50)=z:=⟨_,rfl⟩
   obtain ⟨B53_54,hu_B53_54⟩:∃ z,pb' (β 53)=z:=⟨_,rfl⟩
   obtain ⟨A54_54,hu_A54_54⟩:∃ z,sA (β 54)=z:=⟨_,rfl⟩
   obtain ⟨c54_54,hu_c54_54⟩:∃ z,sC (β 54)=z:=⟨_,rfl⟩
   simp only [exq 7 ((dTn (hD 2 lq)).2),exq 8 ((dTn (hD 3 lq)).2),exq 9 ((dTn (hD 6 lq)).2),exq 10 ((dTn (hD 7 lq)).2),hu_A49_54,hu_A50_54,hu_c50_54,hu_B53_54,hu_A54_54,hu_c54_54] at hst54
   simp only [ed 49 ((dTn (hD 2 lq)).1),ed 50 ((dTn (hD 3 lq)).1),ed 53 ((dTn (hD 6 lq)).1),ed 54 ((dTn (hD 7 lq)).1),ed 5 ((dTn (hD 8 lq))),ed 6 ((dTn (hD 9 lq))),hu_A49_54,hu_A50_54,hu_c50_54,hu_B53_54,hu_A54_54,hu_c54_54] at hfr
   clear hD hu_A49_54 hu_A50_54 hu_c50_54 hu_B53_54 hu_A54_54 hu_c54_54; subst hfr; clear σ β X
   refine blk_normal (then_normal (sqr (sqp [sI 55 ((i:Int)+1) (by omega), .m 28 55] ?_)))
   refine then_normal ?_
   refine ⟨nd.es.length - ((i+1)),by omega,?_⟩
   exact ⟨(i+1),(m+1),(T++[(nd.es.getD i en0)]),A50_54,c50_54,A54_54,c54_54,by omega,by rw [keepW_yes (by omega) (by have h_:=hs40; simpa using h_),hT],by rw [List.length_append,hTl]; rfl,by omega,rfl,(by kernel_rfl),hst54.pk [0,1,2,6,8]⟩
  refine wp_exit (then_exit (then_exit (blk_eq (then_normal (wp_seq (wp_seq ?_))))))
  have hfin:T=keepW fm nd.es:=by rw [hT,List.take_of_length_le (by omega)]
  subst hTl
  refine sqr (sqp [.k 56 (.pointer (some ⟨B8_23,3,none⟩))] ?_)
  refine sqld 1 hst32 ?_
  refine sqp [.k 58 (.bool (!(nd.high.toList==((⟨#[]⟩:ByteArray)).toList)))] ?_
  refine then_normal ?_
  rcases Bool.eq_false_or_eq_true (nd.high.toList==((⟨#[]⟩:ByteArray)).toList) with hs60 | hs60
  ·refine wp_cond_false (show Act.eval _ _= .bool false from (congrArg Value.bool (by rw [hs60]; rfl))) (wp_skip (then_normal (wp_seq (wp_region_Y [0,0,0,4,0,16,48,13,141,397,1023,2047,4095] [[],[],[],[1],[],[1],[],[],[],[0],[],[],[5]] [[],[],[],[],[],[],[],[],[],[5],[],[],[6]] [[],[],[],[],[],[],[],[],[],[0],[],[],[5]] [.k 64 (vp b), .k 65 (vp b), .k 66 (.pointer (some ⟨B8_23,2,none⟩)), .c 67 (vi nd.right), .k 68 (.pointer (some ⟨B8_23,2,none⟩)), .c 69 (vi nd.right), .k 70 (.bool (decide (nd.right < 0))), .k 71 (vp b), .k 72 (vp b), .n, .k 73 (vp b), .k 74 (.pointer (some ⟨b,3,none⟩)), .n] (fun ix σ β X=>match ix with | 0=>True | 1=>True | 2=>True | 3=>True | 4=>True | 5=>True | 6=>True | 7=>True | 8=>True | 9=>X 5=eB b 145 #[vi nd.right,vi (st+1), .string fm, .bool false] | 10=>True | 11=>True | 12=>X 6=eB b 145 #[vi nd.right,vi (st+1), .string fm, .bool (decide (nd.right < 0))] | _=>True) [1,2,3,4,6] [3,5,9,12] [(64,0,12,75)] hst32 ?_ ?_ ?_))))
   ·exact fun ix _ _ _ _ _ _ hs hb hx h=>match ix,h with
    | 9,h=>by dsimp only; rw [← hx 5 rfl]; exact h
    | 12,h=>by dsimp only; rw [← hx 6 rfl]; exact h
    | 0, _ | 1, _ | 2, _ | 3, _ | 4, _ | 5, _ | 6, _ | 7, _ | 8, _ | 10, _ | 11, _ | _+13, _=>trivial
   ·refine ⟨?_,?_,?_,?_,trivial⟩
    ·exact xs4 rfl id fun cx=>run_load1 rfl (by kernel_rfl) (cx.an 2) ((cx.bi 1 rfl).cell 2)
    ·exact xs4 rfl id fun cx=>run_load1 rfl (by kernel_rfl) (cx.an 4) ((cx.bi 1 rfl).cell 2)
    ·refine svA fun ρ β W X cx=>?_
     exact dv_store (n:=1) rfl (cx.an 8) (cx.an 3) (by kernel_rfl) (by kernel_rfl) (by kernel_rfl) cx (cx.init 0 _ rfl) rfl (nle rfl) (by kernel_rfl) rfl rfl rfl (fun σ β' X' hs hb hx=>hx)
    ·refine svA fun ρ β W X cx=>?_
     exact dv_store (n:=1) rfl (cx.an 11) (cx.an 6) (by kernel_rfl) (by kernel_rfl) (by kernel_rfl) cx (dTn (cx.an 9)) rfl (nle rfl) (by kernel_rfl) rfl rfl rfl (fun σ β' X' hs hb hx=>hx)
   intro σ β X W61 hD hst61 fr hfr
   simp only [exq 6 ((dTn (hD 12 lq)))] at hst61
   clear hD; subst hfr; clear σ β X
   refine then_normal (wp_seq (sqr (sqp [.k 75 (vp B8_23)] ?_)))
   refine sqld 0 hst61 ?_
   refine sqp [.m 77 5, .m 78 6, .m 4 76, .m 5 77, .m 6 78, .k 7 (.bool true)] ?_
   refine then_normal (wp_ret ?_)
   refine bpr (.tuple #[vi pos, .slice KA T.length kc, .slice RA T.length rc, .bool true]) (results_4 Try.results35 rpt rpt rpt rpt) ?_
   have hpk_:=hst61.pick [4,2,3] (by decide) rfl
   have hsz_:nd.high.size=0:=by have h_:=hs60; rw [size_nil] at h_; simpa using h_
   subst hfin
   exact ⟨_, _, _, _,rfl,by rw [wkL]; dsimp only; rw [if_pos hsz_]; exact hpk_⟩
  refine wp_cond_true (show Act.eval _ _= .bool true from (congrArg Value.bool (by rw [hs60]; rfl))) (sqr (sqp [.m 59 0, .k 60 (.pointer (some ⟨B8_23,3,none⟩))] ?_))
  refine sqld 1 hst32 ?_
  refine sqp [.k 62 (vp b), .k 63 (.pointer (some ⟨b,2,none⟩))] ?_
  refine sqst (n:=1) 0 #[vi pos,vi (st+1), .string nd.high, .bool false] hst32 fun W75 hst75=>?_
  refine then_normal (wp_seq (wp_region_Y [0,0,0,4,0,16,48,13,141,397,1023,2047,4095] [[],[],[],[1],[],[1],[],[],[],[0],[],[],[5]] [[],[],[],[],[],[],[],[],[],[5],[],[],[6]] [[],[],[],[],[],[],[],[],[],[0],[],[],[5]] [.k 64 (vp b), .k 65 (vp b), .k 66 (.pointer (some ⟨B8_23,2,none⟩)), .c 67 (vi nd.right), .k 68 (.pointer (some ⟨B8_23,2,none⟩)), .c 69 (vi nd.right), .k 70 (.bool (decide (nd.right < 0))), .k 71 (vp b), .k 72 (vp b), .n, .k 73 (vp b), .k 74 (.pointer (some ⟨b,3,none⟩)), .n] (fun ix σ β X=>match ix with | 0=>True | 1=>True | 2=>True | 3=>True | 4=>True | 5=>True | 6=>True | 7=>True | 8=>True | 9=>X 5=eB b 145 #[vi nd.right,vi (st+1), .string nd.high, .bool false] | 10=>True | 11=>True | 12=>X 6=eB b 145 #[vi nd.right,vi (st+1), .string nd.high, .bool (decide (nd.right < 0))] | _=>True) [1,2,3,4,6] [3,5,9,12] [(64,0,12,75)] hst75 ?_ ?_ ?_))
  ·exact fun ix _ _ _ _ _ _ hs hb hx h=>match ix,h with
   | 9,h=>by dsimp only; rw [← hx 5 rfl]; exact h
   | 12,h=>by dsimp only; rw [← hx 6 rfl]; exact h
   | 0, _ | 1, _ | 2, _ | 3, _ | 4, _ | 5, _ | 6, _ | 7, _ | 8, _ | 10, _ | 11, _ | _+13, _=>trivial
  ·refine ⟨?_,?_,?_,?_,trivial⟩
   ·exact xs4 rfl id fun cx=>run_load1 rfl (by kernel_rfl) (cx.an 2) ((cx.bi 1 rfl).cell 2)
   ·exact xs4 rfl id fun cx=>run_load1 rfl (by kernel_rfl) (cx.an 4) ((cx.bi 1 rfl).cell 2)
   ·refine svA fun ρ β W X cx=>?_
    exact dv_store (n:=1) rfl (cx.an 8) (cx.an 3) (by kernel_rfl) (by kernel_rfl) (by kernel_rfl) cx (cx.init 0 _ rfl) rfl (nle rfl) (by kernel_rfl) rfl rfl rfl (fun σ β' X' hs hb hx=>hx)
   ·refine svA fun ρ β W X cx=>?_
    exact dv_store (n:=1) rfl (cx.an 11) (cx.an 6) (by kernel_rfl) (by kernel_rfl) (by kernel_rfl) cx (dTn (cx.an 9)) rfl (nle rfl) (by kernel_rfl) rfl rfl rfl (fun σ β' X' hs hb hx=>hx)
  intro σ β X W76 hD hst76 fr hfr
  simp only [exq 6 ((dTn (hD 12 lq)))] at hst76
  clear hD; subst hfr; clear σ β X
  refine then_normal (wp_seq (sqr (sqp [.k 75 (vp B8_23)] ?_)))
  refine sqld 0 hst76 ?_
  refine sqp [.m 77 5, .m 78 6, .m 4 76, .m 5 77, .m 6 78, .k 7 (.bool true)] ?_
  refine then_normal (wp_ret ?_)
  refine bpr (.tuple #[vi pos, .slice KA T.length kc, .slice RA T.length rc, .bool true]) (results_4 Try.results35 rpt rpt rpt rpt) ?_
  have hpk_:=hst76.pick [4,2,3] (by decide) rfl
  have hsz_:¬ nd.high.size=0:=by have h_:=hs60; rw [size_nil] at h_; simpa using h_
  subst hfin
  exact ⟨_, _, _, _,rfl,by rw [wkL]; dsimp only; rw [if_neg hsz_]; exact hpk_⟩
end
section
open Go.RowKit
/-- a walk from s0 on in a valid tree that holds the entries E; told: what it returned -/
structure Wz (E:List Kv) (s0:ByteArray) (T:List (List AbN)) (w:WkT) (told:List ByteArray):Prop where
 sz:4≤w.fm.size
 pos:w.fin=false→PosOk T w.pos w.fm 0
 st0:lessF w.fm s0=false
 srt:told.Pairwise fun a b=>lessF a b=true
 ge:∀ t∈told,lessF t s0=false
 lt:w.fin=false→∀ t∈told,lessF t w.fm=true
 all:∀ y∈E,lessF y.1 s0=false→(w.fin=true∨lessF y.1 w.fm=true)→y.1∈told
theorem Wz.other {E:List Kv} {s0:ByteArray} {T T':List (List AbN)} {w:WkT} {told:List ByteArray} (h:Wz E s0 T w told) (he:Evo T T'):Wz E s0 T' w told:=⟨h.sz,fun hf=>he.pos _ _ _ (h.pos hf),h.st0,h.srt,h.ge,h.lt,h.all⟩
theorem Wz.start {E:List Kv} {s0:ByteArray} {ps:List PgS} {T:List (List AbN)} {root:Int} (h:Tr ps T root) (h4:4≤s0.size):Wz E s0 T ⟨root,0,s0,false⟩ []:=by
 obtain ⟨T0,r,e,h1,h2,h3⟩:=h.root
 refine ⟨h4,fun _=>⟨T0.length,[r],r,h3,by simp,h1,by omega,by rw [h2]; exact least_le _⟩,lessF_irr _,List.Pairwise.nil,fun t ht=>(nomatch ht),fun _ t ht=>(nomatch ht),fun y hy h5 h6=>?_⟩
 rcases h6 with h6 | h6
 ·cases h6
 ·have h6:lessF y.1 s0=true:=h6
  rw [h5] at h6; cases h6
theorem keep_mem {fm:ByteArray} {es:List EnD} {e:EnD}:e∈keepW fm es↔e∈es∧lessF e.1 fm=false:=by
 rw [keepW,List.mem_filter]; simp
theorem wz_step {E:List Kv} {s0:ByteArray} {ps:List PgS} {T:List (List AbN)} {root:Int} {w:WkT} {told:List ByteArray} (htr:Tr ps T root) (hE:∀ y∈E,y∈lfs T) (hE4:∀ y∈E,4≤y.1.size) (hs4:4≤s0.size) (h:Wz E s0 T w told) (hf:w.fin=false) (hst:w.st+1 < 1000):
  (∃ w1,wkN ps w=(w1, .on)∧Wz E s0 T w1 told∧w1.fin=false∧w1.st=w.st+1∧Mv T 0 w.pos w1.pos)∨
  (∃ w1 n,wkN ps w=(w1, .at n)∧w1.fm=w.fm∧w1.st=w.st+1∧Wz E s0 T (wkL w1 n) (told++(keepW w1.fm n.es).map fun e=>e.1)∧((wkL w1 n).fin=true∨Mv T 0 w.pos (wkL w1 n).pos)∧(∀ e∈n.es,kv e∈lfs T)∧n.es.length≤8):=by
 obtain ⟨pos,st,fm,fin⟩:=w
 have hf:fin=false:=hf
 subst hf
 have hst:st+1 < 1000:=hst
 rcases wk_go htr (h.pos rfl) h.sz hst with ⟨pos',h1,h2,h3⟩ | ⟨pre,suf,a,n,h1,⟨h2,h3,h4,h5⟩,h6⟩
 ·exact .inl ⟨_,h1,⟨h.sz,fun _=>h2,h.st0,h.srt,h.ge,h.lt,h.all⟩,rfl,rfl,h3⟩
 ·have h3:a.pg=pos:=h3
  have h4:lessF fm a.low=false:=h4
  have h5:∀ b s,suf=b::s→lessF fm b.low=true:=h5
  have hfm4:4≤fm.size:=h.sz
  have hs0:lessF fm s0=false:=h.st0
  have hlt:∀ t∈told,lessF t fm=true:=h.lt rfl
  obtain ⟨n0,g1,g2,g3,g4,g5,g6⟩:=htr.node h2
  rw [h3] at g1
  rw [h6] at g1
  injection g1 with g1
  subst g1
  have hL:=(htr.level h2).2
  have hA:=hL.nd a (by simp)
  obtain ⟨pw1,pw2,pw3⟩:=List.pairwise_append.1 hL.pw
  have hltA:=(List.pairwise_cons.1 pw2).1
  have hes:∀ e∈n.es,∃ v,(e.1,v)∈a.es:=fun e he=>⟨_,kv_mem g6 he⟩
  have hez:∀ e∈n.es,4≤e.1.size:=fun e he=>by obtain ⟨v,hv⟩:=hes e he; exact hA.z4 _ hv
  have hris:n.es.Pairwise (fun a b=>lessF a.1 b.1=true):=by have:=hA.ris; rw [← g6] at this; exact List.pairwise_map.1 this
  refine .inr ⟨_,n,h1,rfl,rfl,?_,?_,fun e he=>(by rw [lfs,lvA_some h2]; exact List.mem_flatMap.2 ⟨a,by simp,by rw [← g6]; exact List.mem_map.2 ⟨e,he,rfl⟩⟩),by have:=hA.len; rw [← g6,List.length_map] at this; exact this⟩
  ·have hall:∀ y∈E,lessF y.1 s0=false→(∀ b s,suf=b::s→lessF y.1 b.low=true)→y.1∈told++(keepW fm n.es).map fun e=>e.1:=fun y hy h7 h8=>by
    cases h9:lessF y.1 fm with
    | true=>exact List.mem_append.2 (.inl (h.all y hy h7 (.inr h9)))
    | false=>
      refine List.mem_append.2 (.inr ?_)
      have h10:=hE y hy
      rw [lfs,lvA_some h2] at h10
      obtain ⟨c,hc,hyc⟩:=List.mem_flatMap.1 h10
      have hya:y∈a.es:=by
       rcases List.mem_append.1 hc with hc | hc
       ·have h11:=(pw3 c hc a (by simp)).2 y hyc
        have h12:lessF y.1 a.low=false:=lessF_le_le hA.l4 hfm4 h4 h9
        rw [h12] at h11; cases h11
       ·rcases List.mem_cons.1 hc with rfl | hc
        ·exact hyc
        ·exfalso
         cases suf with
         | nil=>cases hc
         | cons b s=>
           have h11:=h8 b s rfl
           have hb4:=hL.l4 b (by simp)
           have hcn:=hL.nd c (by simp [hc])
           have h12:=hcn.ge y hyc
           rcases List.mem_cons.1 hc with rfl | hc
           ·rw [h12] at h11; cases h11
           ·have h13:=((List.pairwise_cons.1 (List.pairwise_cons.1 pw2).2).1 c hc).1
            have h14:=lessF_lt_le hcn.l4 (hcn.z4 y hyc) h13 h12
            rw [lessF_asym h14] at h11; cases h11
      rw [← g6] at hya
      obtain ⟨e,he,rfl⟩:=List.mem_map.1 hya
      exact List.mem_map.2 ⟨e,keep_mem.2 ⟨he,h9⟩,rfl⟩
   have hsrt:(told++(keepW fm n.es).map fun e=>e.1).Pairwise fun a b=>lessF a b=true:=by
    refine List.pairwise_append.2 ⟨h.srt,List.pairwise_map.2 (hris.sublist List.filter_sublist),fun t ht t2 ht2=>?_⟩
    obtain ⟨e,he,rfl⟩:=List.mem_map.1 ht2
    obtain ⟨he1,he2⟩:=keep_mem.1 he
    exact lessF_lt_le hfm4 (hez e he1) (hlt t ht) he2
   have hge:∀ t∈told++(keepW fm n.es).map fun e=>e.1,lessF t s0=false:=fun t ht=>by
    rcases List.mem_append.1 ht with ht | ht
    ·exact h.ge t ht
    ·obtain ⟨e,he,rfl⟩:=List.mem_map.1 ht
     exact lessF_le_le hs4 hfm4 hs0 (keep_mem.1 he).2
   cases suf with
   | nil=>
     have e1:wkL ⟨pos,st+1,fm,false⟩ n=⟨-1,st+1,fm,true⟩:=by
      rw [wkL,g4,g5]; rfl
     rw [e1]
     exact ⟨hfm4,fun e=>(nomatch e),hs0,hsrt,hge,fun e=>(nomatch e),fun y hy h7 _=>hall y hy h7 fun b s e=>(nomatch e)⟩
   | cons b s=>
     have hb4:=hL.l4 b (by simp)
     have hbp:=htr.pg_lt (pgs_mem h2 (a:=b) (by simp))
     have e1:wkL ⟨pos,st+1,fm,false⟩ n=⟨b.pg,st+1,b.low,false⟩:=by
      rw [wkL,g4,g5]
      show (⟨b.pg,st+1,if b.low.size=0 then fm else b.low,decide (b.pg < 0)⟩:WkT)= _
      rw [if_neg (by omega),decide_eq_false (by omega)]
     rw [e1]
     have hfb:=h5 b s rfl
     refine ⟨hb4,fun _=>⟨0, _,b,h2,by simp,rfl,by omega,lessF_irr _⟩,?_,hsrt,hge,fun _ t ht=>?_,fun y hy h7 h8=>hall y hy h7 fun b2 s2 e=>?_⟩
     ·exact lessF_le_le hs4 hfm4 hs0 (lessF_asym hfb)
     ·rcases List.mem_append.1 ht with ht | ht
      ·exact lessF_trans (hlt t ht) hfb
      ·obtain ⟨e,he,rfl⟩:=List.mem_map.1 ht
       obtain ⟨v,hv⟩:=hes e (keep_mem.1 he).1
       exact (hltA b (by simp)).2 _ hv
     ·injection e with e2 e3
      subst e2
      rcases h8 with h8 | h8
      ·cases h8
      ·exact h8
  ·cases suf with
   | nil=>
     refine .inl ?_
     show decide (n.right < 0)=true
     rw [g4]; rfl
   | cons b s=>
     refine .inr ?_
     show Mv T 0 pos n.right
     rw [g4]
     exact .right 0 pre s a b h2 h3 rfl (by omega)
theorem wk_done {ps:List PgS} {w:WkT} (h:w.fin=true):wkN ps w=(⟨w.pos,w.st+1,w.fm,true⟩, .off):=by
 obtain ⟨pos,st,fm,fin⟩:=w; exact wk_end (.inl h)
end
section
open Go.RowKit
/-- a tree that holds E and part of xs, the insertions Q of xs under way, pages from nx on free -/
def Bz (E:List Kv) (xs:List ByteArray) (ps:List PgS) (T:List (List AbN)) (nx:Int) (Q:List PuT):Prop:=∃ d D,GS d ps T nx∧(∀ p∈Q,InsOk T 0 p)∧Many E xs Q T D∧E.length+xs.length < 128∧(PM (E.length+xs.length):Int)+d < 60
/-- each insertion is at its end, or has steps left: c are those counted -/
def Bud (P M:Nat) (T:List (List AbN)) (Q:List PuT) (c:Nat→Nat):Prop:=∀ i,i < Q.length→(Q.getD i pu0).left=[]∨mu P T (Q.getD i pu0)+c i≤M
theorem getD_memp {Q:List PuT} {j:Nat} (h:j < Q.length):Q.getD j pu0∈Q:=by
 rw [List.getD_eq_getElem?_getD,List.getElem?_eq_getElem h]; exact List.getElem_mem h
theorem Out.stop {T T':List (List AbN)} {p p':PuT} {g:GoT} {fresh:Int} (ho:Out T T' p p' g fresh) (h:p.left=[]):p'.left=[]:=by
 cases ho with
 | idle _ _ hl=>exact hl
 | move _ _ h2=>rw [h] at h2; cases h2
 | there _ _ _ _ _ _ h2=>rw [h] at h2; cases h2
 | put _ _ _ _ _ _ h2=>rw [h] at h2; cases h2
 | cut _ _ _ _ _ _ _ h2=>rw [h] at h2; cases h2
 | grow _ _ _ _ h2=>rw [h] at h2; cases h2
theorem bz_step {E:List Kv} {xs:List ByteArray} {ps:List PgS} {T:List (List AbN)} {nx:Int} {Q:List PuT} (h:Bz E xs ps T nx Q) {j:Nat} (hj:j < xs.length) {R:PuT×GoT} (hR:stepF ps (Q.getD j pu0) nx=R):
  R.2.err=0∧∃ T',Bz E xs (doB ps R.2.eds) T' (if R.2.used then nx+1 else nx) (Q.set j R.1)∧Evo T T'∧
    (∀ (M:Nat) (c c':Nat→Nat),Bud (PM (E.length+xs.length)) M T Q c→(∀ i,c' i≤c i+if i=j then 1 else 0)→Bud (PM (E.length+xs.length)) M T' (Q.set j R.1) c')∧
    (∀ w:WkT,(w.fin=false→PosOk T w.pos w.fm 0)→om (PM (E.length+xs.length)) T' w≤om (PM (E.length+xs.length)) T w)∧∀ y∈lfs T,y∈lfs T':=by
 subst hR
 obtain ⟨d,D,h1,h2,h3,h4,h5⟩:=h
 have hjq:j < Q.length:=by rw [h3.len]; exact hj
 have hsz:=h3.size
 obtain ⟨T',g1,g2,g3,g4,g5⟩:=h1.step (h2 _ (getD_memp hjq)) (N:=E.length+xs.length) hsz h4 h5
 obtain ⟨D',hm⟩:=h3.step h1.tr hj g5
 have hff:nx∉pgsA T:=fun hq=>by have:=h1.pg nx hq; omega
 have hP:(pgsA T').length≤PM (E.length+xs.length):=(g1.pages hm.size h4).1
 refine ⟨g4,T',⟨d,D',g1,fun p hp=>?_,hm,h4,h5⟩,g3,fun M c c' hb hc i hi=>?_,fun w hw=>?_,fun y hy=>?_⟩
 ·rcases List.mem_or_eq_of_mem_set hp with hp | rfl
  ·exact (h2 p hp).evo g3
  ·exact g2
 ·rw [List.length_set] at hi
  rw [getD_setp hjq]
  by_cases e:i=j
  ·subst e
   rw [if_pos rfl]
   have hci:=hc i
   rw [if_pos rfl] at hci
   by_cases hl:(Q.getD i pu0).left=[]
   ·exact .inl (g5.stop hl)
   ·refine .inr ?_
    have h6:=mu_own g5 h1.tr.dist (h2 _ (getD_memp hjq)) hP hff hl
    rcases hb i hi with h7 | h7
    ·exact absurd h7 hl
    ·omega
  ·rw [if_neg e]
   have hci:=hc i
   rw [if_neg e] at hci
   rcases hb i hi with h7 | h7
   ·exact .inl h7
   ·by_cases hl:(Q.getD i pu0).left=[]
    ·exact .inl hl
    ·refine .inr ?_
     obtain ⟨t,l,hl2⟩:=List.exists_cons_of_ne_nil hl
     have hpo:=(h2 _ (getD_memp hi)).pos t l hl2
     have h6:=mu_other (p:=Q.getD i pu0) g5 (fun e=>hff (e ▸ hpo.mem)) hP
     omega
 ·exact om_other g5 (fun hf e=>hff (e ▸ (hw hf).mem)) hP
 ·rcases g5.lfs with h6 | ⟨t,l, _, _, _, _,h6⟩
  ·exact h6.mem_iff.2 hy
  ·exact h6.mem_iff.2 (List.mem_cons_of_mem _ hy)
theorem entF_inj {k k':ByteArray} {p p' s s':Int} (h:entF k p s=entF k' p' s'):psF (entF k p s)=psF (entF k' p' s'):=congrArg psF h
/-- the entries that TreeBusy inserts -/
def bzX (ms:List Int):List ByteArray:=(List.range ms.length).map fun j=>entF (keyF (ms.getD j 0)) 30 (j:Int)
def bzQ (ms:List Int):List PuT:=(List.range ms.length).map fun j=>putT 0 (keyF (ms.getD j 0)) 30 (j:Int)
theorem bzX_len (ms:List Int):(bzX ms).length=ms.length:=by rw [bzX,List.length_map,List.length_range]
theorem bzQ_len (ms:List Int):(bzQ ms).length=ms.length:=by rw [bzQ,List.length_map,List.length_range]
theorem bzX_at {ms:List Int} {j:Nat} (h:j < ms.length):(bzX ms).getD j ba0=entF (keyF (ms.getD j 0)) 30 (j:Int):=by
 rw [bzX,List.getD_eq_getElem?_getD,List.getElem?_map,List.getElem?_range h]; rfl
theorem bzQ_at {ms:List Int} {j:Nat} (h:j < ms.length):(bzQ ms).getD j pu0=putT 0 (keyF (ms.getD j 0)) 30 (j:Int):=by
 rw [bzQ,List.getD_eq_getElem?_getD,List.getElem?_map,List.getElem?_range h]; rfl
theorem tot8':∀ {l:List AbN},(∀ a∈l,a.es.length≤8)→totA l≤8*l.length
 | [], _=>by simp [totA]
 | a::l,h=>by
   rw [totA_cons,List.length_cons]
   have h1:=h a (by simp)
   have h2:=tot8' (l:=l) fun b hb=>h b (by simp [hb])
   omega
theorem bz_start {l ms:List Int} (hl:l.length≤40) (hm:ms.length≤12):∃ T,Bz (entsG l l.length) (bzX ms) (grownF l) T 30 (bzQ ms)∧Bud (PM ((entsG l l.length).length+(bzX ms).length)) 438 T (bzQ ms) (fun _=>0)∧om (PM ((entsG l l.length).length+(bzX ms).length)) T ⟨0,0,leastB,false⟩≤60:=by
 obtain ⟨T,nx,h1,h2⟩:=grown_gs l
 rw [show min l.length 90=l.length by omega] at h2
 have hE:=ents_len l l.length
 have hX:=bzX_len ms
 have hlen:(lfs T).length=l.length:=by rw [h2.length_eq,hE]
 have hpg:=(h1.pages (N:=l.length) (by omega) (by omega)).1
 have hP1:1≤(pgsA T).length:=by
  obtain ⟨T0,r,e, _, _,h2⟩:=h1.tr.root
  exact List.length_pos_of_mem (pgs_mem h2 (a:=r) (by simp))
 have hP8:l.length≤8*(pgsA T).length:=by
  have h3:(lvA T 0).length≤(pgsA T).length:=by
   cases T with
   | nil=>exact Nat.zero_le _
   | cons a t=>show a.length≤(pgsA (a::t)).length; simp [pgsA]
  have h4:(lfs T).length≤8*(lvA T 0).length:=by
   rw [lfs,totA_len]
   refine tot8' fun a ha=>?_
   cases T with
   | nil=>cases ha
   | cons b t=>exact ((h1.tr.level (k:=0) rfl).2.nd a ha).len
  omega
 have hc:=h1.cnt
 have hpm:PM l.length≤13:=by unfold PM; omega
 have hN:PM ((entsG l l.length).length+(bzX ms).length)=(l.length+ms.length) / 4+(l.length+ms.length) / 16+1:=by rw [hE,hX]; rfl
 have hpN:(pgsA T).length≤PM ((entsG l l.length).length+(bzX ms).length):=by rw [hN]; unfold PM at hpg; omega
 have htask:∀ k j,TaskOk T (entF k 30 j,0,0):=fun k j=>⟨by show 4≤(entF _ _ _).size; rw [entF_size]; omega, .inl rfl⟩
 refine ⟨T,⟨_,[],h1.shift (nx':=30) (by omega),fun p hp=>?_,⟨by rw [bzQ_len,hX],?_,fun x hx y hy=>?_,List.nodup_nil,(fun j hj=>nomatch hj),h2,fun j hj=>?_⟩,by rw [hE,hX]; omega,by rw [hN]; omega⟩,fun j hj=>?_,?_⟩
 ·obtain ⟨j,hj,rfl⟩:=List.mem_map.1 hp
  exact ⟨rfl,fun t l' e=>(by injection e with e1 e2; subst e1; exact pos_root h1.tr (htask _ _)),fun t ht=>(by rw [List.mem_singleton.1 ht]; exact htask _ _)⟩
 ·refine List.pairwise_map.2 (List.pairwise_iff_getElem.2 fun i j hi hj hij e=>?_)
  have h3:=entF_inj e
  rw [psF_ent,psF_ent] at h3
  simp only [List.length_range] at hi hj
  simp only [List.getElem_range] at h3
  omega
 ·obtain ⟨j,hj,rfl⟩:=List.mem_map.1 hx
  exact ent_far (by omega) (by omega) y hy
 ·rw [hX] at hj
  rw [bzX_at hj,bzQ_at hj]
  exact .inl ⟨List.not_mem_nil,[],rfl,(fun t ht=>nomatch ht),rfl⟩
 ·rw [bzQ_len] at hj
  rw [bzQ_at hj]
  refine .inr ?_
  have hr:=rk_le T (putT 0 (keyF (ms.getD j 0)) 30 (j:Int)).pos
  rw [mu,if_neg (by simp [putT])]
  show rkF T (putT 0 (keyF (ms.getD j 0)) 30 (j:Int)).pos+(PM _+1)*0+(PM _+3)*(PM _ - (pgsA T).length)+0≤438
  have h6:PM ((entsG l l.length).length+(bzX ms).length)≤17:=by rw [hN]; omega
  have h7:PM ((entsG l l.length).length+(bzX ms).length) - (pgsA T).length≤12:=by rw [hN]; omega
  have h8:=Nat.mul_le_mul (show PM ((entsG l l.length).length+(bzX ms).length)+3≤20 by omega) h7
  omega
 ·have hr:=rk_le T 0
  show rkF T 0+2*(PM _ - (pgsA T).length)≤60
  have h6:PM ((entsG l l.length).length+(bzX ms).length)≤17:=by rw [hN]; omega
  omega
end
section
open Go.RowKit
theorem all_rises {ps:List PgS} {T:List (List AbN)} {root:Int} (h:Tr ps T root) (hps:ps.length≤150):(allF ps root).Pairwise (fun a b=>lessF a.1 b.1=true):=by
 have h2:=h.all hps
 obtain ⟨T0,r,e, _, _, _⟩:=h.root
 have h0:T[0]? =some (lvA T 0):=by
  have:0 < T.length:=by rw [e]; simp
  rw [lvA,List.getD_eq_getElem?_getD,List.getElem?_eq_getElem this]; rfl
 have h3:=(h.level h0).2.rises
 rw [show (lvA T 0).flatMap AbN.es=lfs T from rfl,← h2] at h3
 exact List.pairwise_map.1 h3
-- the set of the entries left, as a map
end
section
open Go.RowKit
theorem ent_parts {x:ByteArray} {k:ByteArray} {p s:Int} (h:x=entF k p s) (hp:0≤p∧p < 65536) (hs:0≤s∧s < 65536):qkF x=k∧opF x=p∧osF x=s∧entF (qkF x) (opF x) (osF x)=x:=by
 have hz:¬ (entF k p s).size < 4:=by rw [entF_size]; omega
 have h1:qkF x=k:=by rw [h,qkF,if_neg hz,pkF_ent]
 have h2:opF x=p:=by rw [h,opF,if_neg hz,ppF_ent]; omega
 have h3:osF x=s:=by rw [h,osF,if_neg hz,psF_ent]; omega
 exact ⟨h1,h2,h3,by rw [h1,h2,h3,h]⟩
theorem lrestn (x:Int) (n:Nat) (w:World) (hn0:0 < n) (hn9:n≤100000):
  Calls Try.prog 14 #[.int .i64 x, .int .i64 ((n:Int))] w (Ret (.int .i64 ((x.tmod (n:Int)+(n:Int)).tmod (n:Int))) w):=by
 have h1_:=Int.lt_tmod_of_pos x (b:=(n:Int)) (by omega)
 have h2_:=Int.tmod_lt_of_pos x (b:=(n:Int)) (by omega)
 go_enter Try.func14,Try.ntmps14
 have hst0:=St.start w
 refine wp_seq (sqr (sqp [.k 4 (vi 0)] ?_))
 refine then_normal (wp_seq (sqr (sqp [.m 5 0, .m 6 1] ?_)))
 refine sql (vi ((x.tmod (n:Int)))) hst0 (fun cx=>run_rem rfl (cx.ou 5) (cx.ou 6) (by omega) (rfl)) ?_
 refine sqp [.m 8 1,sI 9 ((x.tmod (n:Int))+(n:Int)) (by omega), .m 10 1] ?_
 refine sql (vi ((((x.tmod (n:Int))+(n:Int)).tmod (n:Int)))) hst0 (fun cx=>run_rem rfl (cx.ou 9) (cx.ou 10) (by omega) (rfl)) ?_
 refine sqp [.m 4 11] ?_
 refine then_normal (wp_ret ?_)
 refine bpr (vi ((((x.tmod (n:Int))+(n:Int)).tmod (n:Int)))) (results_1 Try.results14 rpt) ?_
 exact Ret.of rfl hst0.ext
end
section
open Go.RowKit
theorem bz_check {E:List Kv} {xs:List ByteArray} {ps:List PgS} {T:List (List AbN)} {nx:Int} {Q:List PuT} (h:Bz E xs ps T nx Q):checkF ps 0=0∧Tr ps T 0∧ps.length=60:=by
 obtain ⟨d,D,h1, _⟩:=h
 exact ⟨h1.tr.check (by rw [h1.len]; omega),h1.tr,h1.len⟩
/-- what an entry of TreeBusy looks like -/
def BzE (x:ByteArray):Prop:=∃ (k:ByteArray) (p s:Int),x=entF k p s∧k.size≤2∧(0≤p∧p < 65536)∧(0≤s∧s < 65536)
theorem BzE.parts {x:ByteArray} (h:BzE x):entF (qkF x) (opF x) (osF x)=x∧(qkF x).size≤1000∧4≤x.size∧x.size≤1000:=by
 obtain ⟨k,p,s,h1,h2,h3,h4⟩:=h
 obtain ⟨e1, _, _,e4⟩:=ent_parts h1 h3 h4
 have h5:=entF_size k p s
 rw [← h1] at h5
 exact ⟨e4,by rw [e1]; omega,by omega,by omega⟩
theorem bzX_e {ms:List Int} (hm:ms.length≤12):∀ x∈bzX ms,BzE x:=fun x hx=>by
 obtain ⟨j,hj,rfl⟩:=List.mem_map.1 hx
 have hj:=List.mem_range.1 hj
 exact ⟨_, _, _,rfl,keyF_size _,by omega,by omega⟩
theorem entsG_e {l:List Int} (hl:l.length≤90):∀ y∈entsG l l.length,BzE y.1:=fun y hy=>by
 obtain ⟨j,hj,rfl⟩:=List.mem_map.1 hy
 have hj:=List.mem_range.1 hj
 exact ⟨_, _, _,rfl,keyF_size _,by omega,by omega⟩
theorem many_e {E:List Kv} {xs:List ByteArray} {T:List (List AbN)} {Q:List PuT} {D:List Nat} (h:Many E xs Q T D) (hE:∀ y∈E,BzE y.1) (hX:∀ x∈xs,BzE x):∀ y∈lfs T,BzE y.1:=fun y hy=>by
 rcases List.mem_append.1 (h.prm.mem_iff.1 hy) with h1 | h1
 ·obtain ⟨j,hj,rfl⟩:=List.mem_map.1 h1
  refine hX _ ?_
  show xs.getD j ba0∈xs
  rw [List.getD_eq_getElem?_getD,List.getElem?_eq_getElem (h.lt j hj)]
  exact List.getElem_mem _
 ·exact hE y h1
theorem bz_ents {E:List Kv} {xs:List ByteArray} {ps:List PgS} {T:List (List AbN)} {nx:Int} {Q:List PuT} (h:Bz E xs ps T nx Q) (hE:∀ y∈E,BzE y.1) (hX:∀ x∈xs,BzE x):(∀ y∈E,y∈lfs T)∧(∀ y∈lfs T,BzE y.1)∧(∀ e∈allF ps 0,BzE e.1)∧((allF ps 0).map fun e=>e.1).Nodup:=by
 obtain ⟨d,D,h1,h2,h3,h4,h5⟩:=h
 have hl:=many_e h3 hE hX
 have ha:=h1.tr.all (by rw [h1.len]; omega)
 refine ⟨fun y hy=>h3.prm.mem_iff.2 (List.mem_append.2 (.inr hy)),hl,fun e he=>?_,?_⟩
 ·have h6:kv e∈lfs T:=by rw [← ha]; exact List.mem_map.2 ⟨e,he,rfl⟩
  exact hl _ h6
 ·refine List.pairwise_map.2 ((all_rises h1.tr (by rw [h1.len]; omega)).imp fun {a b} hab e=>?_)
  rw [e,lessF_irr] at hab; cases hab
/-- at the end -/
theorem bz_end {E:List Kv} {xs:List ByteArray} {ps:List PgS} {T:List (List AbN)} {nx:Int} {Q:List PuT} (h:Bz E xs ps T nx Q) (hd:∀ j,j < xs.length→(Q.getD j pu0).left=[]):(allF ps 0).length=E.length+xs.length∧∀ y∈E,y.1∈(allF ps 0).map fun e=>e.1:=by
 obtain ⟨d,D,h1,h2,h3,h4,h5⟩:=h
 have ha:=h1.tr.all (by rw [h1.len]; omega)
 refine ⟨?_,fun y hy=>?_⟩
 ·rw [← List.length_map (f:=kv),ha,(h3.done hd).length_eq,List.length_append,List.length_map]; omega
 ·have h6:y∈(allF ps 0).map kv:=by rw [ha]; exact h3.prm.mem_iff.2 (List.mem_append.2 (.inr hy))
  obtain ⟨e,he,rfl⟩:=List.mem_map.1 h6
  exact List.mem_map.2 ⟨e,he,rfl⟩
/-- an entry and the least one of a key -/
theorem less_key {k k':ByteArray} {p s:Int} (hp:0≤p∧p < 65536) (hs:0≤s∧s < 65536):lessF (entF k p s) (entF k' 0 0)=ltB k k':=by
 have e1:okF (entF k p s)=k:=by rw [okF]; exact if_neg (by rw [entF_size]; omega)|>.trans (pkF_ent ..)
 have e2:okF (entF k' 0 0)=k':=by rw [okF]; exact if_neg (by rw [entF_size]; omega)|>.trans (pkF_ent ..)
 have e3:opF (entF k' 0 0)=0:=by rw [opF,if_neg (by rw [entF_size]; omega),ppF_ent]; rfl
 have e4:osF (entF k' 0 0)=0:=by rw [osF,if_neg (by rw [entF_size]; omega),psF_ent]; rfl
 have h1:=ops_nn (entF k p s)
 rw [lessF,e1,e2,e3,e4]
 cases h:ltB k k' with
 | true=>rfl
 | false=>
   rw [if_neg (by decide)]
   split
   ·rfl
   ·rw [if_neg (by omega)]
    split
    ·rfl
    ·exact decide_eq_false (by omega)
/-- what the walk has told when it has ended -/
theorem bz_told {l:List Int} {x:Int} {T:List (List AbN)} {w:WkT} {told:List ByteArray} (h:Wz (entsG l l.length) (entF (keyF x) 0 0) T w told) (hf:w.fin=true) (hl:l.length≤90):∀ j,j < l.length→(ltB (keyF (l.getD j 0)) (keyF x)=true→entG l j∉told)∧(ltB (keyF (l.getD j 0)) (keyF x)=false→entG l j∈told):=fun j hj=>by
 have h1:lessF (entG l j) (entF (keyF x) 0 0)=ltB (keyF (l.getD j 0)) (keyF x):=by rw [entG]; exact less_key (by omega) (by omega)
 refine ⟨fun h2 hm=>?_,fun h2=>?_⟩
 ·have h3:=h.ge _ hm
  rw [h1,h2] at h3; cases h3
 ·exact h.all (entG l j, -1) (List.mem_map.2 ⟨j,List.mem_range.2 hj,rfl⟩) (h1.trans h2) (.inl hf)
end
section
open Go.RowKit
def bzP (l ms:List Int):Nat:=PM ((entsG l l.length).length+(bzX ms).length)
def BzS (l ms:List Int) (x:Int) (i:Nat) (ps:List PgS) (nx:Int) (Q:List PuT) (w:WkT) (mo:Bool) (told:List ByteArray):Prop:=∃ T,Bz (entsG l l.length) (bzX ms) ps T nx Q∧Q.length=ms.length∧Bud (bzP l ms) 438 T Q (fun j=>cntR (ms.length+1) j i)∧
 Wz (entsG l l.length) (entF (keyF x) 0 0) T w told∧(∀ t∈told,∃ v,(t,v)∈lfs T)∧(0≤w.st∧w.st≤(i:Int))∧(w.fin=true∨w.st+(om (bzP l ms) T w:Int)≤60)∧(mo=false→w.fin=true)∧(mo=false∨om (bzP l ms) T w+1+cntR (ms.length+1) ms.length i≤438)
theorem bs_start {l ms:List Int} {x:Int} (hl:l.length≤40) (hm:ms.length≤12):BzS l ms x 0 (grownF l) 30 (bzQ ms) ⟨0,0,entF (keyF x) 0 0,false⟩ true []:=by
 obtain ⟨T,h1,h2,h3⟩:=bz_start hl hm
 have h4:=(bz_check h1).2.1
 have h5:om (bzP l ms) T ⟨0,0,entF (keyF x) 0 0,false⟩≤60:=h3
 refine ⟨T,h1,bzQ_len ms,h2,Wz.start h4 (by rw [entF_size]; omega),(fun t ht=>nomatch ht),⟨Int.le_refl _,Int.le_refl _⟩, .inr (by show (0:Int)+ _≤60; omega),(fun h=>nomatch h), .inr ?_⟩
 show om _ _ _+1+0≤438
 omega
theorem bs_check {l ms:List Int} {x:Int} {i:Nat} {ps:List PgS} {nx:Int} {Q:List PuT} {w:WkT} {mo:Bool} {told:List ByteArray} (h:BzS l ms x i ps nx Q w mo told):checkF ps 0=0∧ps.length=60∧Q.length=ms.length∧0≤w.st∧w.st≤(i:Int):=by
 obtain ⟨T,h1,h2, _, _, _,h6, _⟩:=h
 exact ⟨(bz_check h1).1,(bz_check h1).2.2,h2,h6⟩
theorem bs_put {l ms:List Int} {x:Int} {i j:Nat} {ps:List PgS} {nx:Int} {Q:List PuT} {w:WkT} {mo:Bool} {told:List ByteArray} (h:BzS l ms x i ps nx Q w mo told) (hj:j < ms.length) (hs:i < 300∨i % (ms.length+1)=j) {R:PuT×GoT} (hR:stepF ps (Q.getD j pu0) nx=R):
  R.2.err=0∧BzS l ms x (i+1) (doB ps R.2.eds) (if R.2.used then nx+1 else nx) (Q.set j R.1) w mo told:=by
 obtain ⟨T,h1,h2,h3,h4,h5,h6,h7,h8,h9⟩:=h
 obtain ⟨g1,T',g2,g3,g4,g5,g6⟩:=bz_step h1 (by rw [bzX_len]; exact hj) hR
 have g7:om (bzP l ms) T' w≤om (bzP l ms) T w:=g5 w h4.pos
 refine ⟨g1,T',g2,by rw [List.length_set]; exact h2,g4 438 _ _ h3 fun k=>?_,h4.other g3,fun t ht=>?_,⟨h6.1,by omega⟩,h7.imp id fun h=>by omega,h8,h9.imp id fun h=>?_⟩
 ·rw [cntR_succ]
  by_cases e:k=j
  ·rw [if_pos e]; split<;>omega
  ·rw [if_neg e,if_neg (fun hh=>by omega)]
   exact Nat.le_refl _
 ·obtain ⟨v,hv⟩:=h5 t ht
  exact ⟨v,g6 _ hv⟩
 ·rw [cntR_succ,if_neg (fun hh=>by omega)]
  omega
theorem bud_walk {l ms:List Int} {i:Nat} {T:List (List AbN)} {Q:List PuT} (h3:Bud (bzP l ms) 438 T Q (fun j=>cntR (ms.length+1) j i)) (h2:Q.length=ms.length) (hs:i < 300∨i % (ms.length+1)=ms.length):Bud (bzP l ms) 438 T Q (fun j=>cntR (ms.length+1) j (i+1)):=fun k hk=>by
 rcases h3 k hk with h | h
 ·exact .inl h
 ·refine .inr ?_
  show mu _ _ _+cntR _ k (i+1)≤438
  rw [cntR_succ,if_neg (fun hh=>by omega)]
  exact h
theorem bs_walk {l ms:List Int} {x:Int} {i:Nat} {ps:List PgS} {nx:Int} {Q:List PuT} {w w1:WkT} {mo:Bool} {told:List ByteArray} {r:WkR} (h:BzS l ms x i ps nx Q w mo told) (hl:l.length≤40) (hm:ms.length≤12) (hs:i < 300∨i % (ms.length+1)=ms.length) (hR:wkN ps w=(w1,r)):match r with
  | .off=>BzS l ms x (i+1) ps nx Q w1 false told
  | .on=>BzS l ms x (i+1) ps nx Q w1 true told
  | .at n=>BzS l ms x (i+1) ps nx Q (wkL w1 n) true (told++(keepW w1.fm n.es).map fun e=>e.1):=by
 obtain ⟨T,h1,h2,h3,h4,h5,h6,h7,h8,h9⟩:=h
 have h3':=bud_walk h3 h2 hs
 have hc:cntR (ms.length+1) ms.length (i+1)≤cntR (ms.length+1) ms.length i+1:=by rw [cntR_succ]; split<;>omega
 have htr:=(bz_check h1).2.1
 cases hf:w.fin with
 | true=>
   rw [wk_done hf] at hR
   injection hR with e1 e2
   subst e1 e2
   exact ⟨T,h1,h2,h3',⟨h4.sz,(fun e=>nomatch e),h4.st0,h4.srt,h4.ge,(fun e=>nomatch e),fun y hy h10 _=>h4.all y hy h10 (.inl hf)⟩,h5,⟨by show 0≤w.st+1; omega,by show w.st+1≤((i+1:Nat):Int); omega⟩, .inl rfl,fun _=>rfl, .inl rfl⟩
 | false=>
   have h7:=h7.resolve_left (by rw [hf]; decide)
   have h9:=h9.resolve_left (fun e=>by rw [h8 e] at hf; cases hf)
   have hE:=bz_ents h1 (entsG_e (by omega)) (bzX_e hm)
   have hE4:∀ y∈entsG l l.length,4≤y.1.size:=fun y hy=>(entsG_e (by omega) y hy).parts.2.2.1
   have hd:=htr.dist
   have hom:∀ w:WkT,w.fin=false→om (bzP l ms) T w=rkF T w.pos+2*(bzP l ms - (pgsA T).length):=fun w hw=>by rw [om,hw]; rfl
   rcases wz_step htr hE.1 hE4 (by rw [entF_size]; omega) h4 hf (by omega) with ⟨w2,g1,g2,g3,g4,g5⟩ | ⟨w2,n,g1,g2,g3,g4,g5,g6,g7⟩
   ·rw [g1] at hR
    injection hR with e1 e2
    subst e1 e2
    have h10:=g5.rk hd
    rw [hom w hf] at h7 h9
    refine ⟨T,h1,h2,h3',g2,h5,by omega, .inr (by rw [hom w2 g3]; omega),(fun e=>nomatch e), .inr (by rw [hom w2 g3]; omega)⟩
   ·rw [g1] at hR
    injection hR with e1 e2
    subst e1 e2
    have hst:(wkL w2 n).st=w2.st:=rfl
    refine ⟨T,h1,h2,h3',g4,fun t ht=>?_,by rw [hst]; omega,?_,(fun e=>nomatch e), .inr ?_⟩
    ·rcases List.mem_append.1 ht with ht | ht
     ·exact h5 t ht
     ·obtain ⟨e,he,rfl⟩:=List.mem_map.1 ht
      exact ⟨_,g6 e (keep_mem.1 he).1⟩
    ·cases hf2:(wkL w2 n).fin with
     | true=>exact .inl rfl
     | false=>
       have h10:=(g5.resolve_left (by rw [hf2]; decide)).rk hd
       rw [hom w hf] at h7
       exact .inr (by rw [hom _ hf2,hst]; omega)
    ·rw [hom w hf] at h9
     have hrk:1≤rkF T w.pos:=rk_pos hd (h4.pos hf)
     cases hf2:(wkL w2 n).fin with
     | true=>rw [om,hf2]; show 0+1+ _≤438; omega
     | false=>
       have h10:=(g5.resolve_left (by rw [hf2]; decide)).rk hd
       rw [hom _ hf2]; omega
/-- behind all rounds -/
theorem bs_end {l ms:List Int} {x:Int} {ps:List PgS} {nx:Int} {Q:List PuT} {w:WkT} {mo:Bool} {told:List ByteArray} (h:BzS l ms x 6000 ps nx Q w mo told) (hl:l.length≤40) (hm:ms.length≤12):
  mo=false∧(∀ j,j < ms.length→(Q.getD j pu0).left=[])∧(allF ps 0).length=l.length+ms.length∧(∀ j,j < l.length→entG l j∈(allF ps 0).map fun e=>e.1)∧told.Pairwise (fun a b=>lessF a b=true)∧
   (∀ j,j < l.length→(ltB (keyF (l.getD j 0)) (keyF x)=true→entG l j∉told)∧(ltB (keyF (l.getD j 0)) (keyF x)=false→entG l j∈told)):=by
 obtain ⟨T,h1,h2,h3,h4,h5,h6,h7,h8,h9⟩:=h
 have hmo:mo=false:=by
  rcases h9 with h9 | h9
  ·exact h9
  ·have:=cntR_end (m:=ms.length+1) (j:=ms.length) (by omega) (by omega) (by omega); omega
 have hd:∀ j,j < ms.length→(Q.getD j pu0).left=[]:=fun j hj=>by
  rcases h3 j (by omega) with h | h
  ·exact h
  ·have h10:=cntR_end (m:=ms.length+1) (j:=j) (by omega) (by omega) (by omega)
   have h:mu (bzP l ms) T (Q.getD j pu0)+cntR (ms.length+1) j 6000≤438:=h
   by_cases e:(Q.getD j pu0).left=[]
   ·exact e
   ·exfalso
    obtain ⟨d,D,k1,k2, _⟩:=h1
    obtain ⟨t,l2,e2⟩:=List.exists_cons_of_ne_nil e
    have hpo:=(k2 _ (getD_memp (by omega:j < Q.length))).pos t l2 e2
    have hr:=rk_pos k1.tr.dist hpo
    rw [mu,if_neg e] at h
    omega
 have he:=bz_end h1 (fun j hj=>hd j (by rw [bzX_len] at hj; exact hj))
 rw [ents_len,bzX_len] at he
 exact ⟨hmo,hd,he.1,fun j hj=>he.2 (entG l j, -1) (List.mem_map.2 ⟨j,List.mem_range.2 hj,rfl⟩),h4.srt,bz_told h4 (h8 hmo) (by omega)⟩
theorem sub_lenB {l m:List ByteArray} (h:l.Nodup) (hs:∀ x∈l,x∈m):l.length≤m.length:=by
 classical
 exact @sub_len ByteArray (fun a b=>Classical.propDecidable _) l m h hs
/-- at any time: what the tree holds and what is told look like entries -/
theorem bs_ent {l ms:List Int} {x:Int} {i:Nat} {ps:List PgS} {nx:Int} {Q:List PuT} {w:WkT} {mo:Bool} {told:List ByteArray} (h:BzS l ms x i ps nx Q w mo told) (hl:l.length≤40) (hm:ms.length≤12):(∀ e∈allF ps 0,BzE e.1)∧((allF ps 0).map fun e=>e.1).Nodup∧(∀ t∈told,BzE t)∧told.length≤52:=by
 obtain ⟨T,h1,h2,h3,h4,h5,h6,h7,h8,h9⟩:=h
 have hE:=bz_ents h1 (entsG_e (by omega)) (bzX_e hm)
 refine ⟨hE.2.2.1,hE.2.2.2,fun t ht=>?_,?_⟩
 ·obtain ⟨v,hv⟩:=h5 t ht
  exact hE.2.1 _ hv
 ·obtain ⟨d,D,k1,k2,k3,k4,k5⟩:=h1
  have h10:=k3.size
  rw [ents_len,bzX_len] at h10
  have h11:told.Nodup:=h4.srt.imp fun {a b} hab e=>by subst e; rw [lessF_irr] at hab; cases hab
  have h12:told.length≤((lfs T).map Prod.fst).length:=sub_lenB h11 fun t ht=>by
   obtain ⟨v,hv⟩:=h5 t ht
   exact List.mem_map.2 ⟨_,hv,rfl⟩
  rw [List.length_map] at h12
  omega
end
section
open Go.RowKit
theorem tkK_one (l:List TaT):∀ u∈l.flatMap tkK,Value.oneCell' u=true:=fun u hu=>by
 obtain ⟨p, _,hp⟩:=List.mem_flatMap.1 hu
 simp only [tkK,List.mem_cons,List.not_mem_nil,or_false] at hp
 rcases hp with rfl | rfl | rfl | rfl<;>rfl
theorem tkK_snoc (l:List TaT) (t:TaT):l.flatMap tkK++tkK t=(l++[t]).flatMap tkK:=by simp
theorem Try.infoTkK:(Try.prog.info? 106).map (fun i=>(i.zero,i.size,i.bytes))=some (some (.agg #[.string ByteArray.empty, .int .i64 0, .int .i64 0, .int .i64 0]),4,40):=by kernel_rfl
def TkPost (l:List TaT) (w:World) (e:Ending) (w':World):Prop:=∃ A c,e= .returned (.slice A l.length c)∧w'.ownsRow w.heap.size 106 4 (.slice A l.length c) l.length (l.flatMap tkK)∧Ext w w'
/-- a split: the block of the insertion, its pending entries, the edits -/
def CkPost (b:Nat) (cells:Option Addr→Nat→Array Value) (l:List TaT) (eds:List EdT) (w:World) (e:Ending) (w':World):Prop:=∃ A c LA lc,e= .returned (.slice A eds.length c)∧St w [b] [eB b 109 (cells LA lc),eO 106 4 (.slice LA l.length lc) l.length (l.flatMap tkK),eO 99 3 (.slice A eds.length c) eds.length (eds.flatMap edC)] w'
theorem kclone_any (la:Addr) (ln lc:Nat) (lf:List TaT) (w:World) (hL:At w (some la) (lf.flatMap tkK)) (hln:lf.length=ln) (hlnb:ln≤10000):
  Calls Try.prog 84 #[.slice ((some la)) ln lc] w (TkPost lf w):=by
 go_enter Try.func84,Try.ntmps84
 have hst0:=St.start w
 refine wp_seq (sqr (sqp [.k 2 (.slice none 0 0)] ?_))
 refine then_normal (wp_seq (wp_seq (sqr (sqp [.m 3 0, .k 4 (.bool false)] ?_))))
 refine then_normal (wcf rfl (wp_skip (then_normal (wp_seq (sqr ?_)))))
 refine sqli 106 4 0 [] hst0 (@fun ρ β W X cx=>by simp [go_sem]) fun B5_4 W4 hst4=>?_
 refine sqp [.m 6 0] ?_
 refine sqap ln (lf.flatMap tkK) 0 hst4 Try.infoTkK (fun cx=>(hL.ext cx.upd.to_ext)) (hl:=by rw [flatLen tkK_len,hln]) (h1:=tkK_one _) fun A7_6 c7_6 W6 hst6=>?_
 refine sqp [.m 2 7] ?_
 refine then_normal (wp_ret ?_)
 refine bpr (.slice A7_6 ln c7_6) (results_1 Try.results84 rpt) ?_
 have ho_:=hst6.own' 0 rfl
 rw [← hln] at ho_ ⊢
 exact ⟨_, _,rfl,ho_,hst6.ext⟩
theorem kcut_any (b:Nat) (root pos leaf fro to:Int) (spl:Bool) (la:Addr) (ln lc:Nat) (nd:NoD) (np pg:Int) (EA:Option Addr) (ec:Nat) (lf:List TaT) (w:World) (hb:Blk w b 109 #[.int .i64 root, .int .i64 pos, .int .i64 leaf, .slice ((some la)) ln lc, .int .i64 fro, .int .i64 to, .bool spl]) (hE:∀ W,Upd [b] w W→At W EA (nd.es.flatMap enC)) (hez:∀ e∈nd.es,e.1.size≤1000000) (hnb:nd.es.length≤1000) (hlv:0≤nd.lv∧nd.lv≤255) (hpg:0≤pg∧pg≤1000000) (hes:0 < nd.es.length) (hec:nd.es.length≤ec) (hrt: -1≤nd.right∧nd.right≤1000000) (hhi:nd.high.size≤1000000) (hdd:nd.dead=false) (hL:∀ W,Upd [b] w W→At W (some la) (lf.flatMap tkK)) (hln:lf.length=ln) (hlnb:ln≤10000):
  Calls Try.prog 53 #[.pointer (some ⟨b,0,none⟩), .agg #[.int .i64 np, .int .i64 nd.lv, .int .i64 nd.right, .string nd.high, .bool nd.dead, .slice EA nd.es.length ec, .int .i64 ((nd.free:Int))], .int .i64 pg] w (CkPost b (fun LA' lc'=>#[.int .i64 root, .int .i64 pos, .int .i64 leaf, .slice (LA') ((ln+1)) (lc'), .int .i64 ((if nd.lv=0 then np else fro)), .int .i64 ((if nd.lv=0 then pg else to)), .bool ((if nd.lv=0 then true else spl))]) (lf++[(midE nd,nd.lv+1,pg)]) (cutE np nd pg) w):=by
 obtain ⟨hf,hhf⟩:∃ k:Nat,nd.es.length / 2=k:=⟨_,rfl⟩
 have hcl_:=clearE_len np (nd.es.drop hf)
 have hfl_:=freshE_len pg nd.lv nd.right nd.high (nd.es.drop hf)
 have hdl_:(nd.es.drop hf).length=nd.es.length - hf:=List.length_drop
 rw [hdl_] at hcl_ hfl_
 have hez2:∀ e∈nd.es.drop hf,e.1.size≤1000000:=fun e he=>hez e (List.mem_of_mem_drop he)
 have hmz:=getD_size hez2 0
 have st0:=St.lend (E:=eB b 109 #[.int .i64 root, .int .i64 pos, .int .i64 leaf, .slice ((some la)) ln lc, .int .i64 fro, .int .i64 to, .bool spl]) hb (eB_loc _ _ _) (fun k hk=>by simp [eB] at hk; subst hk; exact hb.lt)
 go_enter Try.func53,Try.ntmps53
 have hst0:=st0
 refine wp_seq (sqr ?_)
 refine sqbx #[vi np,vi nd.lv,vi nd.right, .string nd.high, .bool nd.dead, .slice EA nd.es.length ec,vi ((nd.free:Int))] hst0 fun B4_1 W1 hst1=>?_
 refine sqp [.k 6 (.slice none 0 0)] ?_
 refine then_normal (wp_seq (sqr (sqp [.k 10 (.pointer (some ⟨B4_1,5,none⟩))] ?_)))
 refine sqld 1 hst1 ?_
 refine sqp [.k 12 (vi ((nd.es.length:Int))),sQu 13 .i64 (nd.es.length:Int) 2 ((nd.es.length:Int) / 2) (by rw [Int.tdiv_eq_ediv_of_nonneg (by omega)]; exact IntWalk.i64_in _ (by omega)), .m 7 13] ?_
 refine then_normal (wp_seq ?_)
 obtain ⟨z8_,hN_z8_⟩:∃ z,(nd.es.length:Int) / 2=z:=⟨_,rfl⟩
 rw [hN_z8_]
 obtain rfl:z8_=(hf:Int):=by omega
 refine sqr (sqp [.k 14 (.pointer (some ⟨B4_1,5,none⟩))] ?_)
 refine sqld 1 hst1 ?_
 refine sqp [.m 16 7] ?_
 refine sql (.slice ((if ec=hf then EA else EA.map (·.add (hf*3)))) ((nd.es.length - hf)) ((ec - hf))) hst1 (fun cx=>run_sliceL_lo (e:=104) (sz:=3) (l:=hf) rfl (by kernel_rfl) (by kernel_rfl) (cx.ou 15) (cx.ou 16) (by omega) (by omega)) ?_
 refine sqp [.m 8 17] ?_
 refine then_normal (wp_seq (sqr (sqp [.m 18 2, .k 19 (.pointer (some ⟨B4_1,1,none⟩))] ?_)))
 refine sqld 1 hst1 ?_
 refine sqp [.k 21 (.pointer (some ⟨B4_1,2,none⟩))] ?_
 refine sqld 1 hst1 ?_
 refine sqp [.k 23 (.pointer (some ⟨B4_1,3,none⟩))] ?_
 refine sqld 1 hst1 ?_
 refine sqp [.m 25 8, .k 26 (.agg #[vi 0,vi nd.lv,vi nd.right, .string nd.high, .bool false, .slice ((if ec=hf then EA else EA.map (·.add (hf*3)))) ((nd.es.length - hf)) ((ec - hf)),vi 0])] ?_
 refine sqk2 (fun A27_23 c27_23=> .slice A27_23 ((freshE pg nd.lv nd.right nd.high (nd.es.drop hf)).length) c27_23) (fun A27_23 c27_23=>eO 99 3 (.slice A27_23 ((freshE pg nd.lv nd.right nd.high (nd.es.drop hf)).length) c27_23) ((freshE pg nd.lv nd.right nd.high (nd.es.drop hf)).length) ((freshE pg nd.lv nd.right nd.high (nd.es.drop hf)).flatMap edC)) hst1 (fun cx=>⟨_,(kfresh_any pg 0 nd.lv nd.right 0 nd.high _ _ _ (nd.es.drop hf) _ (At.dropF (ts:=nd.es) enC_len (hE _ cx.upd) hf ec hec) hdl_ hez2 (by omega) (by omega) (by omega) (by omega)).mono (by rintro e W1 ⟨A4,c4,rfl,ho_,hx⟩; exact ⟨_, _,rfl,St.one hx (eO_new (n:=(freshE pg nd.lv nd.right nd.high (nd.es.drop hf)).length) (xs:=(freshE pg nd.lv nd.right nd.high (nd.es.drop hf)).flatMap edC) ho_)⟩),(map2 (cx.ou 18) (cx.ou 26))⟩) fun A27_23 c27_23 W23 hst23=>?_
 refine sqp [.m 9 27] ?_
 refine then_normal (wp_seq (wp_region_Y [0,0,2,6,14,1,33,127,255] [[],[],[],[],[],[],[1],[],[3]] [[],[],[],[],[],[],[3],[],[4]] [[],[],[],[],[],[],[1],[],[3]] [.k 28 (vi pg), .k 29 (.slice ((if ec=hf then EA else EA.map (·.add (hf*3)))) ((nd.es.length - hf)) ((ec - hf))), .c 30 (.pointer (some ((ad ((if ec=hf then EA else EA.map (·.add (hf*3))))).add (0*3)))), .c 31 (.pointer (some ((ad ((if ec=hf then EA else EA.map (·.add (hf*3))))).add (0*3+0)))), .c 32 (.string (((nd.es.drop hf).getD 0 en0).1)), .k 33 (.pointer (some ⟨B4_1,2,none⟩)), .n, .k 34 (.pointer (some ⟨B4_1,3,none⟩)), .n] (fun ix σ β X=>match ix with | 0=>True | 1=>True | 2=>True | 3=>True | 4=>True | 5=>True | 6=>X 3=eB B4_1 116 #[vi np,vi nd.lv,vi pg, .string nd.high, .bool nd.dead, .slice EA nd.es.length ec,vi ((nd.free:Int))] | 7=>True | 8=>X 4=eB B4_1 116 #[vi np,vi nd.lv,vi pg, .string (((nd.es.drop hf).getD 0 en0).1), .bool nd.dead, .slice EA nd.es.length ec,vi ((nd.free:Int))] | _=>True) [0,2,4] [2,3,4,6,8] [(28,0,8,35)] hst23 ?_ ?_ ?_))
 ·exact fun ix _ _ _ _ _ _ hs hb hx h=>match ix,h with
  | 6,h=>by dsimp only; rw [← hx 3 rfl]; exact h
  | 8,h=>by dsimp only; rw [← hx 4 rfl]; exact h
  | 0, _ | 1, _ | 2, _ | 3, _ | 4, _ | 5, _ | 7, _ | _+9, _=>trivial
 ·refine ⟨?_,?_,?_,?_,?_,trivial⟩
  ·exact xs4 rfl id fun cx=>run_indexSlM (e:=104) (m:=0) (sz:=3) rfl (by kernel_rfl) (by kernel_rfl) (cx.an 1) (cx.co _) (by omega) (by omega) (At.dropF (ts:=nd.es) enC_len (hE _ cx.upd) hf ec hec) (flatPos (sz:=3) enC_len (by decide) (by omega))
  ·exact xs4 rfl id fun cx=>run_fieldAd rfl (by kernel_rfl) (cx.an 2)
  ·exact xs4 rfl id fun cx=>run_load1 rfl (by kernel_rfl) (cx.an 3) (At.eltc (f:=enC) (k:=0) enC_len (At.dropF (ts:=nd.es) enC_len (hE _ cx.upd) hf ec hec) (en_get (by rw [List.length_drop]; omega)) rfl)
  ·refine svA fun ρ β W X cx=>?_
   exact dv_store (n:=1) rfl (cx.an 5) (cx.an 0) (by kernel_rfl) (by kernel_rfl) (by kernel_rfl) cx (cx.init 1 _ rfl) rfl (nle rfl) (by kernel_rfl) rfl rfl rfl (fun σ β' X' hs hb hx=>hx)
  ·refine svA fun ρ β W X cx=>?_
   exact dv_store (n:=1) rfl (cx.an 7) (cx.an 4) (by kernel_rfl) (by kernel_rfl) (by kernel_rfl) cx (dTn (cx.an 6)) rfl (nle rfl) (by kernel_rfl) rfl rfl rfl (fun σ β' X' hs hb hx=>hx)
 intro σ β X W25 hD hst25 fr hfr
 simp only [exq 4 ((dTn (hD 8 lq)))] at hst25
 clear hD; subst hfr; clear σ β X
 refine then_normal (wp_seq (wp_region_Y [0,0,2,0,8,30,62,127,255] [[],[],[2],[2],[],[],[],[3,1]] [[],[],[],[],[],[],[3],[4]] [[],[],[],[],[],[],[],[1]] [.k 35 (.slice A27_23 ((freshE pg nd.lv nd.right nd.high (nd.es.drop hf)).length) c27_23), .k 36 (vp B4_1), .c 37 (vi np), .c 38 (.agg #[vi np,vi nd.lv,vi pg, .string (((nd.es.drop hf).getD 0 en0).1), .bool nd.dead, .slice EA nd.es.length ec,vi ((nd.free:Int))]), .c 39 (.string (hdB nd.lv pg nd.dead (((nd.es.drop hf).getD 0 en0).1))), .k 40 (.agg #[vi np,vi 0, .string (hdB nd.lv pg nd.dead (((nd.es.drop hf).getD 0 en0).1))]), .a 41, .a 42, .a 9] (fun ix σ β X=>match ix with | 0=>True | 1=>True | 2=>True | 3=>True | 4=>True | 5=>True | 6=>σ 41= .slice ((some ⟨(pb' (β 41)),0,none⟩)) 1 1∧X 3=eO 99 3 (.slice ((some ⟨(pb' (β 41)),0,none⟩)) 1 1) 1 (edC (np,0,hdB nd.lv pg nd.dead (((nd.es.drop hf).getD 0 en0).1))) | 7=>σ 42= .slice (sA (β 42)) ((freshE pg nd.lv nd.right nd.high (nd.es.drop hf)).length+1) (sC (β 42))∧X 4=eO 99 3 (.slice (sA (β 42)) ((freshE pg nd.lv nd.right nd.high (nd.es.drop hf)).length+1) (sC (β 42))) ((freshE pg nd.lv nd.right nd.high (nd.es.drop hf)).length+1) (((freshE pg nd.lv nd.right nd.high (nd.es.drop hf))++[(np,0,hdB nd.lv pg nd.dead (((nd.es.drop hf).getD 0 en0).1))]).flatMap edC) | 8=>σ 9= .slice (sA (β 42)) ((freshE pg nd.lv nd.right nd.high (nd.es.drop hf)).length+1) (sC (β 42)) | _=>True) [0,2,3,4] [2,3,4,6,7,8] [(9,8,1,10),(25,0,8,33)] hst25 ?_ ?_ ?_))
 ·exact fun ix _ _ _ _ _ _ hs hb hx h=>match ix,h with
  | 6,h=>by dsimp only; rw [← hs 41 rfl,← hb 41 rfl,← hx 3 rfl]; exact h
  | 7,h=>by dsimp only; rw [← hs 42 rfl,← hb 42 rfl,← hx 4 rfl]; exact h
  | 8,h=>by dsimp only; rw [← hs 9 rfl,← hb 42 rfl]; exact h
  | 0, _ | 1, _ | 2, _ | 3, _ | 4, _ | 5, _ | _+9, _=>trivial
 ·refine ⟨?_,?_,?_,?_,?_,?_,trivial⟩
  ·exact xs4 rfl id fun cx=>run_load1 rfl (by kernel_rfl) (cx.an 1) ((cx.bi 2 rfl).cell 0)
  ·exact xs4 rfl id fun cx=>run_loadB (n:=7) rfl (by kernel_rfl) (by kernel_rfl) (cx.ou 4) (cx.bi 2 rfl) (nle rfl) rfl
  ·exact xsc rfl id rfl rfl fun cx=>⟨_,khead_le np nd.lv pg (nd.free:Int) (((nd.es.drop hf).getD 0 en0).1) nd.dead _ _ _ _ (by omega) (by omega) (by first | omega | decide),(map1 (cx.an 3))⟩
  ·refine svA fun ρ β W X cx=>?_
   have fF40:ρ (.tmp 40)= .agg #[vi np,vi 0, .string (hdB nd.lv pg nd.dead (((nd.es.drop hf).getD 0 en0).1))]:=(cx.an 5)
   exact dv_litN (e:=99) (sz:=3) (xs:=[vi np,vi 0, .string (hdB nd.lv pg nd.dead (((nd.es.drop hf).getD 0 en0).1))]) rfl (by simp [go_sem,fF40]) rfl (by decide) rfl rfl (fun σ β' X' hs hb hv hx=>⟨hv,hx⟩)
  ·refine svA fun ρ β W X cx=>?_
   obtain ⟨i0,hi0,hz0,hz1,hz2⟩:=info_parts Try.infoEdit
   refine dv_appendN (n:=(freshE pg nd.lv nd.right nd.high (nd.es.drop hf)).length) (m:=1) (nm:=(freshE pg nd.lv nd.right nd.high (nd.es.drop hf)).length+1) (sz:=3) (xs:=(freshE pg nd.lv nd.right nd.high (nd.es.drop hf)).flatMap edC) (news:=edC (np,0,hdB nd.lv pg nd.dead (((nd.es.drop hf).getD 0 en0).1))) (xs':=((freshE pg nd.lv nd.right nd.high (nd.es.drop hf))++[(np,0,hdB nd.lv pg nd.dead (((nd.es.drop hf).getD 0 en0).1))]).flatMap edC) rfl (ty:=34) rfl (by kernel_rfl) hi0 hz0 hz1 hz2 rfl (by decide) (cx.an 0) cx (cx.init 1 _ rfl) rfl (dTn (cx.an 6)).1 (by rfl) (At.of_ownN (cx.row (dTn (cx.an 6)).2 rfl)) (by simp [edC,tkK,Value.oneCell']) (by simp only [maxLen]; omega) (by omega) rfl rfl rfl (by omega) (ed_snoc _ _) (fun σ β' X' hs hb hv hx=>?_)
   exact ⟨hv,hx⟩
  ·exact sv rfl rfl rfl rfl rfl _ (fun _ _ _ h=>h) (fun β β' h=>by rw [h 42 (by decide)]) fun ρ β W X cx=>run_assign' rfl (dTn (cx.an 7)).1
 intro σ β X W26 hD hst26 fr hfr
 obtain ⟨B41_26,hu_B41_26⟩:∃ z,pb' (β 41)=z:=⟨_,rfl⟩
 obtain ⟨A42_26,hu_A42_26⟩:∃ z,sA (β 42)=z:=⟨_,rfl⟩
 obtain ⟨c42_26,hu_c42_26⟩:∃ z,sC (β 42)=z:=⟨_,rfl⟩
 simp only [exq 3 ((dTn (hD 6 lq)).2),exq 4 ((dTn (hD 7 lq)).2),hu_B41_26,hu_A42_26,hu_c42_26] at hst26
 simp only [ed 41 ((dTn (hD 6 lq)).1),ed 42 ((dTn (hD 7 lq)).1),ed 9 ((dTn (hD 8 lq))),hu_B41_26,hu_A42_26,hu_c42_26] at hfr
 clear hD hu_B41_26 hu_A42_26 hu_c42_26; subst hfr; clear σ β X
 refine then_normal (wp_seq (wp_region_Y [0,0,2,6,14,30,0,64,192,448,0,1984,0,4096,12288,32704,65472,131070,262143,524287,1048575] [[],[],[],[],[0],[],[],[],[],[],[],[],[],[1],[],[],[],[5,4],[],[],[0]] [[],[],[],[],[],[4],[],[],[],[],[],[],[],[],[],[],[5],[6],[],[],[7]] [[],[],[],[],[],[],[],[],[],[],[],[],[],[],[],[],[],[4],[],[],[0]] [.k 43 (vp b), .k 44 (vp b), .k 45 (vp b), .k 46 (.pointer (some ⟨b,3,none⟩)), .c 47 (.slice ((some la)) ln lc), .a 48, .k 49 (.slice ((if ec=hf then EA else EA.map (·.add (hf*3)))) ((nd.es.length - hf)) ((ec - hf))), .c 50 (.pointer (some ((ad ((if ec=hf then EA else EA.map (·.add (hf*3))))).add (0*3)))), .c 51 (.pointer (some ((ad ((if ec=hf then EA else EA.map (·.add (hf*3))))).add (0*3+0)))), .c 52 (.string (((nd.es.drop hf).getD 0 en0).1)), .k 53 (vi pg), .k 54 (.agg #[.string (((nd.es.drop hf).getD 0 en0).1),vi 0,vi pg]), .k 55 (.pointer (some ⟨B4_1,1,none⟩)), .c 56 (vi nd.lv),tI 57 (nd.lv+1) (by omega), .k 58 (.agg #[.string (((nd.es.drop hf).getD 0 en0).1),vi 0,vi pg,vi (nd.lv+1)]), .a 59, .a 60, .k 61 (vp b), .k 62 (.pointer (some ⟨b,3,none⟩)), .n] (fun ix σ β X=>match ix with | 0=>True | 1=>True | 2=>True | 3=>True | 4=>True | 5=>σ 48= .slice (sA (β 48)) lf.length (sC (β 48))∧X 4=eO 106 4 (.slice (sA (β 48)) lf.length (sC (β 48))) lf.length (lf.flatMap tkK) | 6=>True | 7=>True | 8=>True | 9=>True | 10=>True | 11=>True | 12=>True | 13=>True | 14=>True | 15=>True | 16=>σ 59= .slice ((some ⟨(pb' (β 59)),0,none⟩)) 1 1∧X 5=eO 106 4 (.slice ((some ⟨(pb' (β 59)),0,none⟩)) 1 1) 1 (tkK (((nd.es.drop hf).getD 0 en0).1,nd.lv+1,pg)) | 17=>σ 60= .slice (sA (β 60)) (lf.length+1) (sC (β 60))∧X 6=eO 106 4 (.slice (sA (β 60)) (lf.length+1) (sC (β 60))) (lf.length+1) ((lf++[(((nd.es.drop hf).getD 0 en0).1,nd.lv+1,pg)]).flatMap tkK) | 18=>True | 19=>True | 20=>X 7=eB b 109 #[vi root,vi pos,vi leaf, .slice (sA (β 60)) (lf.length+1) (sC (β 60)),vi fro,vi to, .bool spl] | _=>True) [1,2,3,5,6,7] [4,5,7,8,9,13,16,17,20] [(43,0,20,63)] hst26 ?_ ?_ ?_))
 ·exact fun ix _ _ _ _ _ _ hs hb hx h=>match ix,h with
  | 5,h=>by dsimp only; rw [← hs 48 rfl,← hb 48 rfl,← hx 4 rfl]; exact h
  | 16,h=>by dsimp only; rw [← hs 59 rfl,← hb 59 rfl,← hx 5 rfl]; exact h
  | 17,h=>by dsimp only; rw [← hs 60 rfl,← hb 60 rfl,← hx 6 rfl]; exact h
  | 20,h=>by dsimp only; rw [← hb 60 rfl,← hx 7 rfl]; exact h
  | 0, _ | 1, _ | 2, _ | 3, _ | 4, _ | 6, _ | 7, _ | 8, _ | 9, _ | 10, _ | 11, _ | 12, _ | 13, _ | 14, _ | 15, _ | 18, _ | 19, _ | _+21, _=>trivial
 ·refine ⟨?_,?_,?_,?_,?_,?_,?_,?_,?_,trivial⟩
  ·exact xs4 rfl id fun cx=>run_load1 rfl (by kernel_rfl) (cx.an 3) ((cx.bi 0 rfl).cell 3)
  ·refine svA fun ρ β W X cx=>?_
   refine DoesU.call (run_callF (args:=#[.slice ((some la)) ln lc]) rfl cx.sees rfl (by kernel_rfl) (map1 (cx.an 4))) ?_
   refine (kclone_any la ln lc lf _ (hL _ cx.upd) hln hlnb).mono ?_
   rintro e W1 ⟨A4,c4,rfl,ho_,hx⟩
   refine ⟨_,rfl,post_call [eO 106 4 (.slice A4 lf.length c4) lf.length (lf.flatMap tkK)] rfl rfl hx (one_new (eO_new (n:=lf.length) (xs:=lf.flatMap tkK) ho_)) (List.pairwise_singleton _ _) (fun σ β' X' hs hb hv hN=>?_)⟩
   have hv1:=(hv 48 rfl).1; have hv2:=(hv 48 rfl).2
   exact ⟨hv1.trans (by rw [hv2]; rfl),(by rw [hv2]; exact (List.cons.inj hN).1)⟩
  ·exact xs4 rfl id fun cx=>run_indexSlM (e:=104) (m:=0) (sz:=3) rfl (by kernel_rfl) (by kernel_rfl) (cx.an 6) (cx.co _) (by omega) (by omega) (At.dropF (ts:=nd.es) enC_len (hE _ cx.upd) hf ec hec) (flatPos (sz:=3) enC_len (by decide) (by omega))
  ·exact xs4 rfl id fun cx=>run_fieldAd rfl (by kernel_rfl) (cx.an 7)
  ·exact xs4 rfl id fun cx=>run_load1 rfl (by kernel_rfl) (cx.an 8) (At.eltc (f:=enC) (k:=0) enC_len (At.dropF (ts:=nd.es) enC_len (hE _ cx.upd) hf ec hec) (en_get (by rw [List.length_drop]; omega)) rfl)
  ·exact xs4 rfl id fun cx=>run_load1 rfl (by kernel_rfl) (cx.an 12) ((cx.bi 1 rfl).cell 1)
  ·refine svA fun ρ β W X cx=>?_
   have fF58:ρ (.tmp 58)= .agg #[.string (((nd.es.drop hf).getD 0 en0).1),vi 0,vi pg,vi (nd.lv+1)]:=(cx.an 15)
   exact dv_litN (e:=106) (sz:=4) (xs:=[.string (((nd.es.drop hf).getD 0 en0).1),vi 0,vi pg,vi (nd.lv+1)]) rfl (by simp [go_sem,fF58]) rfl (by decide) rfl rfl (fun σ β' X' hs hb hv hx=>⟨hv,hx⟩)
  ·refine svA fun ρ β W X cx=>?_
   obtain ⟨i0,hi0,hz0,hz1,hz2⟩:=info_parts Try.infoTkK
   refine dv_appendN (n:=lf.length) (m:=1) (nm:=lf.length+1) (sz:=4) (xs:=lf.flatMap tkK) (news:=tkK (((nd.es.drop hf).getD 0 en0).1,nd.lv+1,pg)) (xs':=(lf++[(((nd.es.drop hf).getD 0 en0).1,nd.lv+1,pg)]).flatMap tkK) rfl (ty:=107) rfl (by kernel_rfl) hi0 hz0 hz1 hz2 rfl (by decide) (dTn (cx.an 5)).1 cx (dTn (cx.an 5)).2 rfl (dTn (cx.an 16)).1 (by rfl) (At.of_ownN (cx.row (dTn (cx.an 16)).2 rfl)) (by simp [edC,tkK,Value.oneCell']) (by simp only [maxLen]; omega) (by omega) rfl rfl rfl (by omega) (tkK_snoc _ _) (fun σ β' X' hs hb hv hx=>?_)
   exact ⟨hv,hx⟩
  ·refine svA fun ρ β W X cx=>?_
   exact dv_store (n:=1) rfl (cx.an 19) (dTn (cx.an 17)).1 (by kernel_rfl) (by kernel_rfl) (by kernel_rfl) cx (cx.init 0 _ rfl) rfl (nle rfl) (by kernel_rfl) rfl rfl rfl (fun σ β' X' hs hb hx=>by rw [hb 60]; exact hx)
 intro σ β X W27 hD hst27 fr hfr
 obtain ⟨A48_27,hu_A48_27⟩:∃ z,sA (β 48)=z:=⟨_,rfl⟩
 obtain ⟨c48_27,hu_c48_27⟩:∃ z,sC (β 48)=z:=⟨_,rfl⟩
 obtain ⟨B59_27,hu_B59_27⟩:∃ z,pb' (β 59)=z:=⟨_,rfl⟩
 obtain ⟨A60_27,hu_A60_27⟩:∃ z,sA (β 60)=z:=⟨_,rfl⟩
 obtain ⟨c60_27,hu_c60_27⟩:∃ z,sC (β 60)=z:=⟨_,rfl⟩
 simp only [exq 5 ((dTn (hD 16 lq)).2),exq 6 ((dTn (hD 17 lq)).2),exq 7 ((dTn (hD 20 lq))),hu_A48_27,hu_c48_27,hu_B59_27,hu_A60_27,hu_c60_27] at hst27
 simp only [ed 48 ((dTn (hD 5 lq)).1),ed 59 ((dTn (hD 16 lq)).1),ed 60 ((dTn (hD 17 lq)).1),hu_A48_27,hu_c48_27,hu_B59_27,hu_A60_27,hu_c60_27] at hfr
 clear hD hu_A48_27 hu_c48_27 hu_B59_27 hu_A60_27 hu_c60_27; subst hfr; clear σ β X
 refine then_normal (wp_seq (wp_seq (sqr (sqp [.k 63 (.pointer (some ⟨B4_1,1,none⟩))] ?_))))
 refine sqld 0 hst27 ?_
 refine sqp [.k 65 (.bool (nd.lv==0))] ?_
 refine then_normal (wbs (fun hs31=>?_) fun hs31=>?_)
 ·have hs31p:=beq_iff_eq.1 hs31
  refine sqr (sqp [.m 66 0, .m 67 0, .m 68 0, .k 69 (vp B4_1)] ?_)
  refine sqld 0 hst27 ?_
  refine sqp [.m 71 2, .k 72 (vp b), .k 73 (.pointer (some ⟨b,4,none⟩))] ?_
  refine sqst (n:=1) 5 #[vi root,vi pos,vi leaf, .slice A60_27 (lf.length+1) c60_27,vi np,vi to, .bool spl] hst27 fun W40 hst40=>?_
  refine sqp [.k 74 (vp b), .k 75 (.pointer (some ⟨b,5,none⟩))] ?_
  refine sqst (n:=1) 5 #[vi root,vi pos,vi leaf, .slice A60_27 (lf.length+1) c60_27,vi np,vi pg, .bool spl] hst40 fun W43 hst43=>?_
  refine sqp [.k 76 (vp b), .k 77 (.pointer (some ⟨b,6,none⟩))] ?_
  refine sqst (n:=1) 5 #[vi root,vi pos,vi leaf, .slice A60_27 (lf.length+1) c60_27,vi np,vi pg, .bool true] hst43 fun W46 hst46=>?_
  refine then_normal (wp_seq (sqr (sqp [.m 78 9, .k 79 (vp B4_1)] ?_)))
  refine sqld 0 hst46 ?_
  refine sqp [.m 81 8] ?_
  refine sqk2 (fun G82_51 c82_51=> .slice ((some ⟨G82_51,0,none⟩)) ((clearE np (nd.es.drop hf)).length) c82_51) (fun G82_51 c82_51=>eO 99 3 (.slice ((some ⟨G82_51,0,none⟩)) ((clearE np (nd.es.drop hf)).length) c82_51) ((clearE np (nd.es.drop hf)).length) ((clearE np (nd.es.drop hf)).flatMap edC)) hst46 (fun cx=>⟨_,(ed_some (by omega) (kclear_any np _ _ _ (nd.es.drop hf) _ (At.dropF (ts:=nd.es) enC_len (hE _ cx.upd) hf ec hec) hdl_ (by omega))).mono (by rintro e W1 ⟨G4,c4,rfl,ho_,hx⟩; exact ⟨_, _,rfl,St.one hx (eO_new (n:=(clearE np (nd.es.drop hf)).length) (xs:=(clearE np (nd.es.drop hf)).flatMap edC) ho_)⟩),(map2 (cx.ou 80) (cx.ou 81))⟩) fun G82_51 c82_51 W51 hst51=>?_
  refine sqap ((freshE pg nd.lv nd.right nd.high (nd.es.drop hf)).length+1+(clearE np (nd.es.drop hf)).length) ((((freshE pg nd.lv nd.right nd.high (nd.es.drop hf))++[(np,0,hdB nd.lv pg nd.dead (((nd.es.drop hf).getD 0 en0).1))])++(clearE np (nd.es.drop hf))).flatMap edC) 2 hst51 Try.infoEdit (fun cx=>(At.of_ownN (cx.ri 6 rfl))) (hl:=by rw [flatLen edC_len]) (h1:=edC_one _) (hxs:=ed_join _ _) fun A83_52 c83_52 W52 hst52=>?_
  refine sqp [.m 6 83] ?_
  refine then_normal (wp_ret ?_)
  refine bpr (.slice A83_52 ((freshE pg nd.lv nd.right nd.high (nd.es.drop hf)).length+1+(clearE np (nd.es.drop hf)).length) c83_52) (results_1 Try.results53 rpt) ?_
  have hmd:midE nd=((nd.es.drop hf).getD 0 en0).1:=by rw [midE,hhf,getD_drop]; rfl
  have hfin:(((freshE pg nd.lv nd.right nd.high (nd.es.drop hf))++[(np,0,hdB nd.lv pg nd.dead (((nd.es.drop hf).getD 0 en0).1))])++(clearE np (nd.es.drop hf)))=cutE np nd pg:=by rw [cutE,halfE,hhf,hmd,hdd]; try rfl
  have hfl:(freshE pg nd.lv nd.right nd.high (nd.es.drop hf)).length+1+(clearE np (nd.es.drop hf)).length=(cutE np nd pg).length:=by rw [← hfin]; simp only [List.length_append,List.length_cons,List.length_nil]; try omega
  have htl0:nd.lv=0:=by have h_:=hs31; simpa using h_
  have hpk_:=hst52.pick [5,4,2] (by decide) rfl
  rw [hfin,hfl] at hpk_
  have hll:(lf++[(midE nd,nd.lv+1,pg)]).length=lf.length+1:=by rw [List.length_append]; rfl
  rw [hfl,if_pos htl0,if_pos htl0,if_pos htl0]
  exact ⟨_, _, _, _,rfl,by rw [hll,hmd,← hln]; exact hpk_⟩
 have hs31p:=beq_eq_false_iff_ne.1 hs31
 refine wp_skip (then_normal (wp_seq (sqr (sqp [.m 78 9, .k 79 (vp B4_1)] ?_))))
 refine sqld 0 hst27 ?_
 refine sqp [.m 81 8] ?_
 refine sqk2 (fun G82_58 c82_58=> .slice ((some ⟨G82_58,0,none⟩)) ((clearE np (nd.es.drop hf)).length) c82_58) (fun G82_58 c82_58=>eO 99 3 (.slice ((some ⟨G82_58,0,none⟩)) ((clearE np (nd.es.drop hf)).length) c82_58) ((clearE np (nd.es.drop hf)).length) ((clearE np (nd.es.drop hf)).flatMap edC)) hst27 (fun cx=>⟨_,(ed_some (by omega) (kclear_any np _ _ _ (nd.es.drop hf) _ (At.dropF (ts:=nd.es) enC_len (hE _ cx.upd) hf ec hec) hdl_ (by omega))).mono (by rintro e W1 ⟨G4,c4,rfl,ho_,hx⟩; exact ⟨_, _,rfl,St.one hx (eO_new (n:=(clearE np (nd.es.drop hf)).length) (xs:=(clearE np (nd.es.drop hf)).flatMap edC) ho_)⟩),(map2 (cx.ou 80) (cx.ou 81))⟩) fun G82_58 c82_58 W58 hst58=>?_
 refine sqap ((freshE pg nd.lv nd.right nd.high (nd.es.drop hf)).length+1+(clearE np (nd.es.drop hf)).length) ((((freshE pg nd.lv nd.right nd.high (nd.es.drop hf))++[(np,0,hdB nd.lv pg nd.dead (((nd.es.drop hf).getD 0 en0).1))])++(clearE np (nd.es.drop hf))).flatMap edC) 2 hst58 Try.infoEdit (fun cx=>(At.of_ownN (cx.ri 6 rfl))) (hl:=by rw [flatLen edC_len]) (h1:=edC_one _) (hxs:=ed_join _ _) fun A83_59 c83_59 W59 hst59=>?_
 refine sqp [.m 6 83] ?_
 refine then_normal (wp_ret ?_)
 refine bpr (.slice A83_59 ((freshE pg nd.lv nd.right nd.high (nd.es.drop hf)).length+1+(clearE np (nd.es.drop hf)).length) c83_59) (results_1 Try.results53 rpt) ?_
 have hmd:midE nd=((nd.es.drop hf).getD 0 en0).1:=by rw [midE,hhf,getD_drop]; rfl
 have hfin:(((freshE pg nd.lv nd.right nd.high (nd.es.drop hf))++[(np,0,hdB nd.lv pg nd.dead (((nd.es.drop hf).getD 0 en0).1))])++(clearE np (nd.es.drop hf)))=cutE np nd pg:=by rw [cutE,halfE,hhf,hmd,hdd]; try rfl
 have hfl:(freshE pg nd.lv nd.right nd.high (nd.es.drop hf)).length+1+(clearE np (nd.es.drop hf)).length=(cutE np nd pg).length:=by rw [← hfin]; simp only [List.length_append,List.length_cons,List.length_nil]; try omega
 have htl0:¬ nd.lv=0:=by have h_:=hs31; simpa using h_
 have hpk_:=hst59.pick [5,4,2] (by decide) rfl
 rw [hfin,hfl] at hpk_
 have hll:(lf++[(midE nd,nd.lv+1,pg)]).length=lf.length+1:=by rw [List.length_append]; rfl
 rw [hfl,if_neg htl0,if_neg htl0,if_neg htl0]
 exact ⟨_, _, _, _,rfl,by rw [hll,hmd,← hln]; exact hpk_⟩
end
section
open Go.RowKit
theorem b8_cases (nd:NoD) (x:ByteArray):nd.es.length < 8∨(¬ nd.es.length < 8∧hasE nd.es x=false)∨(¬ nd.es.length < 8∧hasE nd.es x=true):=by
 by_cases h:nd.es.length < 8
 ·exact .inl h
 ·cases hasE nd.es x with
  | false=>exact .inr (.inl ⟨h,rfl⟩)
  | true=>exact .inr (.inr ⟨h,rfl⟩)
/-- a split, its insertion as an entry -/
def CqPost (b:Nat) (p:PuT) (L:List EdT) (w:World) (e:Ending) (w':World):Prop:=∃ A c fp,e= .returned (.slice A L.length c)∧St w [b] [ePk b p fp,eO 99 3 (.slice A L.length c) L.length (L.flatMap edC)] w'
theorem kcut_pk (b:Nat) (root pos leaf:Int) (la:Addr) (ln lc:Nat) (nd:NoD) (np pg:Int) (EA:Option Addr) (ec:Nat) (lf:List TaT) (w:World) (hb:Blk w b 109 #[.int .i64 root, .int .i64 pos, .int .i64 leaf, .slice (some la) ln lc, .int .i64 0, .int .i64 0, .bool false])
  (hE:∀ W,Upd [b] w W→At W EA (nd.es.flatMap enC)) (hez:∀ e∈nd.es,e.1.size≤1000000) (hnb:nd.es.length≤1000) (hlv:0≤nd.lv∧nd.lv≤255) (hpg:0≤pg∧pg≤1000000) (hes:0 < nd.es.length) (hec:nd.es.length≤ec) (hrt: -1≤nd.right∧nd.right≤1000000) (hhi:nd.high.size≤1000000) (hdd:nd.dead=false) (hL:∀ W,Upd [b] w W→At W (some la) (lf.flatMap tkK)) (hln:lf.length=ln) (hlnb:ln≤10000):
  Calls Try.prog 53 #[.pointer (some ⟨b,0,none⟩), .agg #[.int .i64 np, .int .i64 nd.lv, .int .i64 nd.right, .string nd.high, .bool nd.dead, .slice EA nd.es.length ec, .int .i64 (nd.free:Int)], .int .i64 pg] w
   (CqPost b ⟨root,pos,leaf,lf++[(midE nd,nd.lv+1,pg)],if nd.lv=0 then np else 0,if nd.lv=0 then pg else 0,if nd.lv=0 then true else false⟩ (cutE np nd pg) w):=by
 refine (kcut_any b root pos leaf 0 0 false la ln lc nd np pg EA ec lf w hb hE hez hnb hlv hpg hes hec hrt hhi hdd hL hln hlnb).mono fun e w' h=>?_
 obtain ⟨A,c,LA,lc',h1,h2⟩:=h
 have hll:ln+1=(lf++[(midE nd,nd.lv+1,pg)]).length:=by rw [List.length_append,hln]; rfl
 have h3:=h2
 dsimp only at h3
 rw [hll] at h3
 obtain ⟨fp,h4⟩:=pk_new (p:=⟨root,pos,leaf,lf++[(midE nd,nd.lv+1,pg)],if nd.lv=0 then np else 0,if nd.lv=0 then pg else 0,if nd.lv=0 then true else false⟩) (g:=[]) h3 rfl
 exact ⟨A,c,fp,h1,h4⟩
theorem kstep_g (b:Nat) (tt:TypeId) (tv:Value) (root pos leaf fro to:Int) (spl:Bool) (la:Addr) (ln lc:Nat) (te:ByteArray) (tl tk:Int) (lf:List TaT) (ps:List PgS) (fresh:Int) (fp g:List Nat) (w:World) (hb:Blk w b 109 #[.int .i64 root, .int .i64 pos, .int .i64 leaf, .slice ((some la)) ln lc, .int .i64 fro, .int .i64 to, .bool spl]) (hL:∀ W,Upd [b] w W→At W (some la) (((te,tl,tk)::lf).flatMap tkK)) (hln:((te,tl,tk)::lf).length=ln) (hlc:((te,tl,tk)::lf).length≤lc) (hlnb:ln≤10000) (hS:∀ W,Upd [b] w W→PgsOk W tt tv ps) (hok:OkS ps) (hoc:OkC ps) (hfp:fp=b::g) (hbg:b∉g) (hlt:∀ k∈g,k < w.heap.size) (hla:la.block∈g) (hte:te.size≤900000) (htl:0≤tl∧tl≤90000) (hfr: -1≤fresh∧fresh≤1000000):
  Calls Try.prog 16 #[.pointer (some ⟨b,0,none⟩), .iface tt (tv), .int .i64 fresh] w (KtPost b (stepF ps ⟨root,pos,leaf,(te,tl,tk)::lf,fro,to,spl⟩ fresh) fp w):=by
 have st0:=St.lend (E:=eB b 109 #[.int .i64 root, .int .i64 pos, .int .i64 leaf, .slice ((some la)) ln lc, .int .i64 fro, .int .i64 to, .bool spl]) hb (eB_loc _ _ _) (fun k hk=>by simp [eB] at hk; subst hk; exact hb.lt)
 have hln1:1≤ln:=by rw [← hln]; simp
 have hlc1:lf.length+1≤lc:=hlc
 have hln2:lf.length+1=ln:=hln
 go_enter Try.func16,Try.ntmps16
 have hst0:=st0
 refine wp_seq (sqr (sqp [.k 6 (.slice none 0 0), .k 7 (.bool false), .k 8 (vi 0)] ?_))
 refine then_normal (wp_seq (wp_seq (sqr (sqp [.m 14 0] ?_))))
 refine sqv (.bool false) hst0 (by
   exact sv0 rfl rfl rfl rfl rfl (fun _ _ _ h=>h) fun ρ β W X cx=>by
    have fF14:ρ (.tmp 14)=vp b:=(cx.ou 14)
    simp [go_sem,cx.sees.const,fF14]) fun W5 hst5=>?_
 refine then_normal (wcf rfl (wp_skip (then_normal (wp_seq (sqr (sqp [.m 16 0, .m 17 0, .m 18 0, .k 19 (vp b), .k 20 (.pointer (some ⟨b,4,none⟩))] ?_))))))
 refine sqst (n:=1) 0 #[vi root,vi pos,vi leaf, .slice ((some la)) ln lc,vi 0,vi to, .bool spl] hst5 fun W11 hst11=>?_
 refine sqp [.k 21 (vp b), .k 22 (.pointer (some ⟨b,5,none⟩))] ?_
 refine sqst (n:=1) 0 #[vi root,vi pos,vi leaf, .slice ((some la)) ln lc,vi 0,vi 0, .bool spl] hst11 fun W14 hst14=>?_
 refine sqp [.k 23 (vp b), .k 24 (.pointer (some ⟨b,6,none⟩))] ?_
 refine sqst (n:=1) 0 #[vi root,vi pos,vi leaf, .slice ((some la)) ln lc,vi 0,vi 0, .bool false] hst14 fun W17 hst17=>?_
 refine then_normal (wp_seq (wp_seq (sqr (sqp [.m 25 0, .k 26 (vp b), .k 27 (.pointer (some ⟨b,3,none⟩))] ?_))))
 refine sqld 0 hst17 ?_
 have hd24:((ln:Int)==0)=false:=(by rw [beq_eq_false_iff_ne]; omega)
 refine sqp [.k 29 (vi ((ln:Int))), .e 30 (.bool ((ln:Int)==0)) (.bool false) (congrArg Value.bool hd24)] ?_
 refine then_normal (wcf rfl (wp_skip (then_normal (wp_seq (sqr (sqp [.m 31 0, .k 32 (vp b), .k 33 (.pointer (some ⟨b,3,none⟩))] ?_))))))
 refine sqld 0 hst17 ?_
 refine sql (.pointer (some ((ad ((some la))).add (0*4)))) hst17 (fun cx=>run_indexSlM (e:=106) (m:=0) (sz:=4) rfl (by kernel_rfl) (by kernel_rfl) (cx.ou 34) (cx.co _) (by omega) (by omega) (hL _ cx.upd) (flatPos (sz:=4) tkK_len (by decide) (by omega))) ?_
 refine sql (.agg #[.string te,vi 0,vi tk,vi tl]) hst17 (fun cx=>run_loadElt (f:=tkK) (m:=0) (sz:=4) (off:=0) (n:=4) rfl (by kernel_rfl) (by kernel_rfl) (cx.ou 35) rfl tkK_len (hL _ cx.upd) rfl (fun k hk=>match k,hk with | 0, _=>rfl | 1, _=>rfl | 2, _=>rfl | 3, _=>rfl | k+4,hk=>absurd hk (by omega))) ?_
 refine sqal #[.string ByteArray.empty,vi 0,vi 0,vi 0] hst17 fun B9_31 W31 hst31=>?_
 refine sqst (n:=4) 1 #[.string te,vi 0,vi tk,vi tl] hst31 fun W32 hst32=>?_
 refine then_normal (wp_seq ?_)
 rcases hnd:ndAt ps pos with _ | nd
 ·refine wp_region_Y [0,0,2,6,14,31,63,127,127,0,767,2047] [[],[],[],[],[0],[],[],[],[],[],[2]] [[],[],[],[],[],[],[],[],[],[2],[3]] [[],[],[],[],[],[],[],[],[],[],[2]] [.k 38 (.iface tt (tv)), .k 39 (vp b), .k 40 (vp b), .k 41 (.pointer (some ⟨b,1,none⟩)), .c 42 (vi pos), .a 43, .a 37, .a 44, .c 45 (.bool false), .a 10, .n, .k 11 (.bool false)] (fun ix σ β X=>match ix with | 0=>True | 1=>True | 2=>True | 3=>True | 4=>True | 5=>σ 43= .tuple #[.agg #[vi (iv (tg (tg (β 43) 0) 0)),vi 0,vi 0, .string ((⟨#[]⟩:ByteArray)), .bool false, .slice none 0 0,vi 0], .bool false] | 6=>σ 37= .tuple #[.agg #[vi (iv (tg (tg (β 43) 0) 0)),vi 0,vi 0, .string ((⟨#[]⟩:ByteArray)), .bool false, .slice none 0 0,vi 0], .bool false] | 7=>σ 44= .agg #[vi (iv (tg (tg (β 43) 0) 0)),vi 0,vi 0, .string ((⟨#[]⟩:ByteArray)), .bool false, .slice none 0 0,vi 0] | 8=>True | 9=>σ 10=vp (pb (β 10))∧X 2=eB (pb (β 10)) 116 #[vi 0,vi 0,vi 0, .string ByteArray.empty, .bool false, .slice none 0 0,vi 0] | 10=>X 3=eB (pb (β 10)) 116 #[vi (iv (tg (tg (β 43) 0) 0)),vi 0,vi 0, .string ((⟨#[]⟩:ByteArray)), .bool false, .slice none 0 0,vi 0] | _=>True) [0,1,3] [4,5,6,7,8,9,10] [(10,9,3,12),(25,6,1,26),(0,0,6,6),(0,7,2,2)] hst32 ?_ ?_ ?_
  ·exact fun ix _ _ _ _ _ _ hs hb hx h=>match ix,h with
   | 5,h=>by dsimp only; rw [← hs 43 rfl,← hb 43 rfl]; exact h
   | 6,h=>by dsimp only; rw [← hs 37 rfl,← hb 43 rfl]; exact h
   | 7,h=>by dsimp only; rw [← hs 44 rfl,← hb 43 rfl]; exact h
   | 9,h=>by dsimp only; rw [← hs 10 rfl,← hb 10 rfl,← hx 2 rfl]; exact h
   | 10,h=>by dsimp only; rw [← hb 10 rfl,← hb 43 rfl,← hx 3 rfl]; exact h
   | 0, _ | 1, _ | 2, _ | 3, _ | 4, _ | 8, _ | _+11, _=>trivial
  ·refine ⟨?_,?_,?_,?_,?_,?_,?_,trivial⟩
   ·exact xs4 rfl id fun cx=>run_load1 rfl (by kernel_rfl) (cx.an 3) ((cx.bi 0 rfl).cell 1)
   ·refine svA fun ρ β W X cx=>?_
    refine DoesU.call (run_callF (args:=#[.iface tt (tv),vi pos]) rfl cx.sees rfl (by kernel_rfl) (map2 (cx.an 0) (cx.an 4))) ?_
    refine (kd_no hnd (kat_any _ _ ps pos _ (hS _ cx.upd) hok hoc)).mono ?_
    rintro e W1 ⟨p4,rfl,hx⟩
    refine ⟨_,rfl,post_call [] rfl rfl hx (by simp) List.Pairwise.nil (fun σ β' X' hs hb hv hN=>?_)⟩
    have hv1:=(hv 43 rfl).1; have hv2:=(hv 43 rfl).2
    exact hv1.trans (by rw [hv2]; rfl)
   ·exact sv rfl rfl rfl rfl rfl _ (fun _ _ _ h=>h) (fun β β' h=>by rw [h 43 (by decide)]) fun ρ β W X cx=>run_move' rfl (dTn (cx.an 5))
   ·exact sv rfl rfl rfl rfl rfl _ (fun _ _ _ h=>h) (fun β β' h=>by rw [h 43 (by decide)]) fun ρ β W X cx=>run_extract' rfl (dTn (cx.an 6)) rfl
   ·exact xs4 rfl id fun cx=>run_extract' rfl (dTn (cx.an 6)) rfl
   ·refine svA fun ρ β W X cx=>?_
    exact dv_alloc (cs:=#[vi 0,vi 0,vi 0, .string ByteArray.empty, .bool false, .slice none 0 0,vi 0]) rfl (by kernel_rfl) rfl rfl (fun σ β' X' hs hb hv hx=>⟨hv,hx⟩)
   ·refine svA fun ρ β W X cx=>?_
    exact dv_store (n:=7) rfl (dTn (cx.an 9)).1 (dTn (cx.an 7)) (by kernel_rfl) (by kernel_rfl) (by kernel_rfl) cx (dTn (cx.an 9)).2 rfl (nle rfl) (by kernel_rfl) rfl rfl rfl (fun σ β' X' hs hb hx=>by rw [hb 10,hb 43]; exact hx)
  intro σ β X W33 hD hst33 fr hfr
  obtain ⟨pg43_33,hu_pg43_33⟩:∃ z,iv (tg (tg (β 43) 0) 0)=z:=⟨_,rfl⟩
  obtain ⟨B10_33,hu_B10_33⟩:∃ z,pb (β 10)=z:=⟨_,rfl⟩
  simp only [exq 3 ((dTn (hD 10 lq))),hu_pg43_33,hu_B10_33] at hst33
  simp only [ed 43 ((dTn (hD 5 lq))),ed 37 ((dTn (hD 6 lq))),ed 44 ((dTn (hD 7 lq))),ed 10 ((dTn (hD 9 lq)).1),hu_pg43_33,hu_B10_33] at hfr
  clear hD hu_pg43_33 hu_B10_33; subst hfr; clear σ β X
  refine then_normal (wp_seq (sqr ?_))
  refine sqv (.func (.func 48) #[] #[vp B9_31]) hst33 (by
    exact sv0 rfl rfl rfl rfl rfl (fun _ _ _ h=>h) fun ρ β W X cx=>by
     have fF9:ρ (.tmp 9)=vp B9_31:=(cx.ou 9)
     simp [go_sem,Instr.makeFunc,fF9]) fun W34 hst34=>?_
  refine sqp [.m 12 46] ?_
  refine then_normal (wp_seq (wp_block (wp_seq (sqr (sqp [.k 48 (.bool false), .k 49 (.bool true), .k 47 (.bool true)] ?_)))))
  refine then_normal (wct rfl (wp_seq (sqr (sqp [.k 6 (.slice none 0 0), .k 7 (.bool false), .k 8 (vi 22)] ?_))))
  refine then_normal (wp_ret (blk_ret (then_ret ?_)))
  refine bpr (.tuple #[.slice none 0 0, .bool false,vi 22]) (results_3 Try.results16 rpt rpt rpt) ?_
  rw [st_none hnd]
  have hn42:=nilrowN hst34 99 3
  simp only [List.cons_append,List.nil_append] at hn42
  have hup_:=hn42.upd
  have hpk_:=hn42.pick [0,3] (by decide) rfl
  subst hln
  exact ⟨_, _,rfl,pk_old hpk_ hfp hbg hlt hlc (hL _ hup_) (fun ad e _=>by rw [← Option.some.inj e]; exact hla)⟩
 ·have hN0:=nd_ok hok hnd
  have hN:NdQ nd:=⟨hN0.lv,fun e he=>Nat.le_trans (hN0.es e he) (by decide)⟩
  have hN1:=hN0.len
  have hN2:=hN0.rt
  have hN3:=hN0.hi
  have hN4:=hN0.lv
  have hN5:=hN0.fr
  have hN7:=hN0.es
  refine sqr (sqp [.m 38 1, .m 39 0, .k 40 (vp b), .k 41 (.pointer (some ⟨b,1,none⟩))] ?_)
  refine sqld 0 hst32 ?_
  refine sqk2 (fun EA43_48 ec43_48=> .tuple #[.agg #[vi pos,vi nd.lv,vi nd.right, .string nd.high, .bool nd.dead, .slice EA43_48 nd.es.length ec43_48,vi ((nd.free:Int))], .bool true]) (fun EA43_48 ec43_48=>eO 104 3 (.slice EA43_48 nd.es.length ec43_48) nd.es.length (nd.es.flatMap enC)) hst32 (fun cx=>⟨_,(kd_yes hnd (kat_any _ _ ps pos _ (hS _ cx.upd) hok hoc)).mono (by rintro e W1 ⟨EA4,ec4,rfl,hs4⟩; exact ⟨_, _,rfl,hs4⟩),(map2 (cx.ou 38) (cx.ou 42))⟩) fun EA43_48 ec43_48 W48 hst48=>?_
  refine sqp [.m 37 43, .k 44 (.agg #[vi pos,vi nd.lv,vi nd.right, .string nd.high, .bool nd.dead, .slice EA43_48 nd.es.length ec43_48,vi ((nd.free:Int))]), .k 45 (.bool true)] ?_
  refine sqal #[vi 0,vi 0,vi 0, .string ByteArray.empty, .bool false, .slice none 0 0,vi 0] hst48 fun B10_52 W52 hst52=>?_
  refine sqst (n:=7) 3 #[vi pos,vi nd.lv,vi nd.right, .string nd.high, .bool nd.dead, .slice EA43_48 nd.es.length ec43_48,vi ((nd.free:Int))] hst52 fun W53 hst53=>?_
  refine sqp [.k 11 (.bool true)] ?_
  refine then_normal (wp_seq (sqr ?_))
  refine sqv (.func (.func 48) #[] #[vp B9_31]) hst53 (by
    exact sv0 rfl rfl rfl rfl rfl (fun _ _ _ h=>h) fun ρ β W X cx=>by
     have fF9:ρ (.tmp 9)=vp B9_31:=(cx.ou 9)
     simp [go_sem,Instr.makeFunc,fF9]) fun W55 hst55=>?_
  refine sqp [.m 12 46] ?_
  refine then_normal (wp_seq (wp_block (wp_seq (sqr (sqp [.k 48 (.bool true), .k 49 (.bool false), .k 47 (.bool false)] ?_)))))
  refine then_normal (wcf rfl (wp_seq (sqr ?_)))
  refine sqlb 3 7 hst55 ?_
  refine sqp [.k 52 (vp B9_31), .k 53 (vp B9_31)] ?_
  refine sqld 1 hst55 ?_
  refine sqk (.bool (sndB nd.dead nd.high te)) hst55 (fun cx=>⟨_,ksends_any pos nd.lv nd.right (nd.free:Int) nd.high nd.dead _ _ _ te _ (by omega) (by omega),(map2 (cx.ou 51) (cx.ou 54))⟩) fun W64 hst64=>?_
  refine sqp [.m 50 55] ?_
  refine then_normal (wbs (fun hs66=>?_) fun hs66=>?_)
  ·refine wp_seq (wp_seq (sqr (sqp [.k 56 (.pointer (some ⟨B10_52,2,none⟩))] ?_)))
   refine sqld 3 hst64 ?_
   refine sqp [.k 58 (.bool (decide (nd.right < 0)))] ?_
   refine then_normal (wds (fun hs70 hs70p=>?_) fun hs70 hs70p=>?_)
   ·refine wp_seq (sqr (sqp [.k 6 (.slice none 0 0), .k 7 (.bool false), .k 8 (vi 11)] ?_))
    refine then_normal (wp_ret (then_ret (blk_ret (then_ret ?_))))
    refine bpr (.tuple #[.slice none 0 0, .bool false,vi 11]) (results_3 Try.results16 rpt rpt rpt) ?_
    rw [st_lost hnd hs66 (by omega)]
    have hn74:=nilrowN hst64 99 3
    simp only [List.cons_append,List.nil_append] at hn74
    have hup_:=hn74.upd
    have hpk_:=hn74.pick [0,4] (by decide) rfl
    subst hln
    exact ⟨_, _,rfl,pk_old hpk_ hfp hbg hlt hlc (hL _ hup_) (fun ad e _=>by rw [← Option.some.inj e]; exact hla)⟩
   refine wp_skip (then_normal (wp_seq (sqr (sqp [.m 59 0, .k 60 (.pointer (some ⟨B10_52,2,none⟩))] ?_))))
   refine sqld 3 hst64 ?_
   refine sqp [.k 62 (vp b), .k 63 (.pointer (some ⟨b,1,none⟩))] ?_
   refine sqst (n:=1) 0 #[vi root,vi nd.right,vi leaf, .slice ((some la)) ln lc,vi 0,vi 0, .bool false] hst64 fun W80 hst80=>?_
   refine then_normal (wp_seq (sqr (sqp [.k 6 (.slice none 0 0), .k 7 (.bool false), .k 8 (vi 0)] ?_)))
   refine then_normal (wp_ret (blk_ret (then_ret ?_)))
   refine bpr (.tuple #[.slice none 0 0, .bool false,vi 0]) (results_3 Try.results16 rpt rpt rpt) ?_
   rw [st_right hnd hs66 (by omega)]
   have hn84:=nilrowN hst80 99 3
   simp only [List.cons_append,List.nil_append] at hn84
   have hup_:=hn84.upd
   have hpk_:=hn84.pick [0,4] (by decide) rfl
   subst hln
   exact ⟨_, _,rfl,pk_old hpk_ hfp hbg hlt hlc (hL _ hup_) (fun ad e _=>by rw [← Option.some.inj e]; exact hla)⟩
  refine wp_seq (sqr (sqp [.k 65 (.pointer (some ⟨B10_52,1,none⟩))] ?_))
  refine sqld 3 hst64 ?_
  refine sqp [.k 67 (.pointer (some ⟨B9_31,3,none⟩))] ?_
  refine sqld 1 hst64 ?_
  refine sqp [.k 69 (.bool (decide (tl < nd.lv))), .m 64 69] ?_
  refine then_normal (wds (fun hs91 hs91p=>?_) fun hs91 hs91p=>?_)
  ·refine wp_seq (sqr (sqp [.m 70 0] ?_))
   refine sqlb 3 7 hst64 ?_
   refine sqp [.k 72 (vp B9_31), .k 73 (vp B9_31)] ?_
   refine sqld 1 hst64 ?_
   refine sqk (vi (downF te nd.es (-1))) hst64 (fun cx=>⟨_,kdown_any _ _ _ _ _ _ _ _ _ _ nd.es _ (At.of_ownN (cx.ri 2 rfl)) rfl hN.es6 (by omega) (by omega),(map2 (cx.ou 71) (cx.ou 74))⟩) fun W97 hst97=>?_
   refine sqp [.k 76 (vp b), .k 77 (.pointer (some ⟨b,1,none⟩))] ?_
   refine sqst (n:=1) 0 #[vi root,vi (downF te nd.es (-1)),vi leaf, .slice ((some la)) ln lc,vi 0,vi 0, .bool false] hst97 fun W100 hst100=>?_
   refine then_normal (wp_seq (sqr (sqp [.k 6 (.slice none 0 0), .k 7 (.bool false), .k 8 (vi 0)] ?_)))
   refine then_normal (wp_ret (blk_ret (then_ret ?_)))
   refine bpr (.tuple #[.slice none 0 0, .bool false,vi 0]) (results_3 Try.results16 rpt rpt rpt) ?_
   rw [st_down hnd hs66 (by omega)]
   have hn104:=nilrowN hst100 99 3
   simp only [List.cons_append,List.nil_append] at hn104
   have hup_:=hn104.upd
   have hpk_:=hn104.pick [0,4] (by decide) rfl
   subst hln
   exact ⟨_, _,rfl,pk_old hpk_ hfp hbg hlt hlc (hL _ hup_) (fun ad e _=>by rw [← Option.some.inj e]; exact hla)⟩
  refine wp_seq (sqr (sqp [.k 79 (.pointer (some ⟨B10_52,1,none⟩))] ?_))
  refine sqld 3 hst64 ?_
  refine sqp [.k 81 (.pointer (some ⟨B9_31,3,none⟩))] ?_
  refine sqld 1 hst64 ?_
  refine sqp [.k 83 (.bool (decide (nd.lv < tl))), .m 78 83] ?_
  refine then_normal (wds (fun hs111 hs111p=>?_) fun hs111 hs111p=>?_)
  ·refine wp_seq (sqr (sqp [.k 6 (.slice none 0 0), .k 7 (.bool false), .k 8 (vi 11)] ?_))
   refine then_normal (wp_ret (blk_ret (then_ret ?_)))
   refine bpr (.tuple #[.slice none 0 0, .bool false,vi 11]) (results_3 Try.results16 rpt rpt rpt) ?_
   rw [st_form hnd hs66 (by omega) (by omega)]
   have hn115:=nilrowN hst64 99 3
   simp only [List.cons_append,List.nil_append] at hn115
   have hup_:=hn115.upd
   have hpk_:=hn115.pick [0,4] (by decide) rfl
   subst hln
   exact ⟨_, _,rfl,pk_old hpk_ hfp hbg hlt hlc (hL _ hup_) (fun ad e _=>by rw [← Option.some.inj e]; exact hla)⟩
  refine wp_seq ?_
  rcases b8_cases nd te with hn8 | ⟨hn8,hq⟩ | ⟨hn8,hq⟩
  ·refine sqr (sqp [.k 85 (.pointer (some ⟨B10_52,5,none⟩))] ?_)
   refine sqld 3 hst64 ?_
   refine sqp [.k 87 (vi ((nd.es.length:Int))), .e 88 (.bool (decide ((nd.es.length:Int) < 8))) (.bool true) (congrArg Value.bool (decide_eq_true (by omega))), .k 89 (.bool true)] ?_
   refine sqgn 89 [90,91,92,93] rfl rfl ?_
   refine sqp [.k 94 (.bool true), .k 84 (.bool true)] ?_
   refine then_normal (wct rfl (wp_seq ?_))
   rcases hq:hasE nd.es te with _ | _
   ·refine wp_region_Y [0,0,0,7,15,31,63] [[],[3],[1],[0,2]] [[],[],[],[4,5]] [[],[],[],[0]] [.k 95 (vp b), .c 96 (.agg #[vi pos,vi nd.lv,vi nd.right, .string nd.high, .bool nd.dead, .slice EA43_48 nd.es.length ec43_48,vi ((nd.free:Int))]), .c 97 (.agg #[.string te,vi 0,vi tk,vi tl]), .a 98, .a 6, .k 7 (.bool false), .k 8 (vi 0)] (fun ix σ β X=>match ix with | 0=>True | 1=>True | 2=>True | 3=>σ 98= .slice (sA (β 98)) 1 (sC (β 98))∧X 4=eB b 109 #[vi root,vi root,vi ((if tl=0 then pos else leaf)), .slice ((if lc=1 then some la else (some la).map (·.add (1*4)))) ((ln - 1)) ((lc - 1)),vi 0,vi 0, .bool false]∧X 5=eO 99 3 (.slice (sA (β 98)) 1 (sC (β 98))) 1 ([(pos,(nd.free:Int),itB nd.lv tk te)].flatMap edC) | 4=>σ 6= .slice (sA (β 98)) 1 (sC (β 98)) | _=>True) [1,2,3,4,5] [1,2,3,4] [(6,4,3,9),(86,0,4,90)] hst64 ?_ ?_ ?_
    ·exact fun ix _ _ _ _ _ _ hs hb hx h=>match ix,h with
     | 3,h=>by dsimp only; rw [← hs 98 rfl,← hb 98 rfl,← hx 4 rfl,← hx 5 rfl]; exact h
     | 4,h=>by dsimp only; rw [← hs 6 rfl,← hb 98 rfl]; exact h
     | 0, _ | 1, _ | 2, _ | _+5, _=>trivial
    ·refine ⟨?_,?_,?_,?_,trivial⟩
     ·exact xs4 rfl id fun cx=>run_loadB (n:=7) rfl (by kernel_rfl) (by kernel_rfl) (cx.ou 10) (cx.bi 3 rfl) (nle rfl) rfl
     ·exact xs4 rfl id fun cx=>run_loadB (n:=4) rfl (by kernel_rfl) (by kernel_rfl) (cx.ou 9) (cx.bi 1 rfl) (nle rfl) rfl
     ·refine svA fun ρ β W X cx=>?_
      refine DoesU.call (run_callF (args:=#[vp b, .agg #[vi pos,vi nd.lv,vi nd.right, .string nd.high, .bool nd.dead, .slice EA43_48 nd.es.length ec43_48,vi ((nd.free:Int))], .agg #[.string te,vi 0,vi tk,vi tl]]) rfl cx.sees rfl (by kernel_rfl) (map3 (cx.an 0) (cx.an 1) (cx.an 2))) ?_
      refine (kput_any _ _ _ _ _ _ _ _ _ _ nd pos _ _ te 0 tk tl false _ (cx.bi 0 rfl) (CtxV.keepAt cx (cx.init 2 _ rfl) (cx.init 0 _ rfl) rfl rfl (by decide)) (by omega) (by omega) (by omega) (by omega) hq).mono ?_
      rintro e W1 ⟨A4,c4,rfl,hs4⟩
      refine ⟨_,rfl,post_obj (E:=eB b 109 #[vi root,vi pos,vi leaf, .slice ((some la)) ln lc,vi 0,vi 0, .bool false]) [eB b 109 #[vi root,vi root,vi ((if tl=0 then pos else leaf)), .slice ((if lc=1 then some la else (some la).map (·.add (1*4)))) ((ln - 1)) ((lc - 1)),vi 0,vi 0, .bool false],eO 99 3 (.slice A4 1 c4) 1 ([(pos,(nd.free:Int),itB nd.lv tk te)].flatMap edC)] (cx.init 0 _ rfl) rfl rfl hs4 (fun σ β' X' hs hb hv hN=>?_)⟩
      have hv1:=(hv 98 rfl).1; have hv2:=(hv 98 rfl).2
      exact ⟨hv1.trans (by rw [hv2]; rfl),(List.cons.inj hN).1,(by rw [hv2]; exact (List.cons.inj (List.cons.inj hN).2).1)⟩
     ·exact sv rfl rfl rfl rfl rfl _ (fun _ _ _ h=>h) (fun β β' h=>by rw [h 98 (by decide)]) fun ρ β W X cx=>run_assign' rfl (dTn (cx.an 3)).1
    intro σ β X W123 hD hst123 fr hfr
    obtain ⟨A98_123,hu_A98_123⟩:∃ z,sA (β 98)=z:=⟨_,rfl⟩
    obtain ⟨c98_123,hu_c98_123⟩:∃ z,sC (β 98)=z:=⟨_,rfl⟩
    simp only [exq 4 ((dTn (hD 3 lq)).2.1),exq 5 ((dTn (hD 3 lq)).2.2),hu_A98_123,hu_c98_123] at hst123
    simp only [ed 98 ((dTn (hD 3 lq)).1),ed 6 ((dTn (hD 4 lq))),hu_A98_123,hu_c98_123] at hfr
    clear hD hu_A98_123 hu_c98_123; subst hfr; clear σ β X
    refine then_normal (wp_ret (blk_ret (then_ret ?_)))
    refine bpr (.tuple #[.slice A98_123 1 c98_123, .bool false,vi 0]) (results_3 Try.results16 rpt rpt rpt) ?_
    rw [st_put hnd hs66 (by omega) (by omega) hq hn8]
    have hup_:=hst123.upd
    have hpk_:=hst123.pick [3,4] (by decide) rfl
    have hl1_:ln - 1=lf.length:=by omega
    have hlv_:nd.lv=tl:=by omega
    rw [hl1_,hlv_] at hpk_
    exact ⟨_, _,rfl,pk_old hpk_ hfp hbg hlt (by show lf.length≤lc - 1; omega) (At.dropF (ts:=(te,tl,tk)::lf) tkK_len (hL _ hup_) 1 lc hlc) (fun ad e _=>by rw [tail_blk4 e]; exact hla)⟩
   ·refine wp_region_Y [0,0,0,7,15,31,63] [[],[3],[1],[0,2]] [[],[],[],[4,5]] [[],[],[],[0]] [.k 95 (vp b), .c 96 (.agg #[vi pos,vi nd.lv,vi nd.right, .string nd.high, .bool nd.dead, .slice EA43_48 nd.es.length ec43_48,vi ((nd.free:Int))]), .c 97 (.agg #[.string te,vi 0,vi tk,vi tl]), .a 98, .a 6, .k 7 (.bool false), .k 8 (vi 0)] (fun ix σ β X=>match ix with | 0=>True | 1=>True | 2=>True | 3=>σ 98= .slice (sA (β 98)) 0 (sC (β 98))∧X 4=eB b 109 #[vi root,vi root,vi ((if tl=0 then pos else leaf)), .slice ((if lc=1 then some la else (some la).map (·.add (1*4)))) ((ln - 1)) ((lc - 1)),vi 0,vi 0, .bool false]∧X 5=eO 99 3 (.slice (sA (β 98)) 0 (sC (β 98))) 0 (([]:List EdT).flatMap edC) | 4=>σ 6= .slice (sA (β 98)) 0 (sC (β 98)) | _=>True) [1,2,3,4,5] [1,2,3,4] [(6,4,3,9),(86,0,4,90)] hst64 ?_ ?_ ?_
    ·exact fun ix _ _ _ _ _ _ hs hb hx h=>match ix,h with
     | 3,h=>by dsimp only; rw [← hs 98 rfl,← hb 98 rfl,← hx 4 rfl,← hx 5 rfl]; exact h
     | 4,h=>by dsimp only; rw [← hs 6 rfl,← hb 98 rfl]; exact h
     | 0, _ | 1, _ | 2, _ | _+5, _=>trivial
    ·refine ⟨?_,?_,?_,?_,trivial⟩
     ·exact xs4 rfl id fun cx=>run_loadB (n:=7) rfl (by kernel_rfl) (by kernel_rfl) (cx.ou 10) (cx.bi 3 rfl) (nle rfl) rfl
     ·exact xs4 rfl id fun cx=>run_loadB (n:=4) rfl (by kernel_rfl) (by kernel_rfl) (cx.ou 9) (cx.bi 1 rfl) (nle rfl) rfl
     ·refine svA fun ρ β W X cx=>?_
      refine DoesU.call (run_callF (args:=#[vp b, .agg #[vi pos,vi nd.lv,vi nd.right, .string nd.high, .bool nd.dead, .slice EA43_48 nd.es.length ec43_48,vi ((nd.free:Int))], .agg #[.string te,vi 0,vi tk,vi tl]]) rfl cx.sees rfl (by kernel_rfl) (map3 (cx.an 0) (cx.an 1) (cx.an 2))) ?_
      refine (kput_any _ _ _ _ _ _ _ _ _ _ nd pos _ _ te 0 tk tl true _ (cx.bi 0 rfl) (CtxV.keepAt cx (cx.init 2 _ rfl) (cx.init 0 _ rfl) rfl rfl (by decide)) (by omega) (by omega) (by omega) (by omega) hq).mono ?_
      rintro e W1 ⟨A4,c4,rfl,hs4⟩
      refine ⟨_,rfl,post_obj (E:=eB b 109 #[vi root,vi pos,vi leaf, .slice ((some la)) ln lc,vi 0,vi 0, .bool false]) [eB b 109 #[vi root,vi root,vi ((if tl=0 then pos else leaf)), .slice ((if lc=1 then some la else (some la).map (·.add (1*4)))) ((ln - 1)) ((lc - 1)),vi 0,vi 0, .bool false],eO 99 3 (.slice A4 0 c4) 0 (([]:List EdT).flatMap edC)] (cx.init 0 _ rfl) rfl rfl hs4 (fun σ β' X' hs hb hv hN=>?_)⟩
      have hv1:=(hv 98 rfl).1; have hv2:=(hv 98 rfl).2
      exact ⟨hv1.trans (by rw [hv2]; rfl),(List.cons.inj hN).1,(by rw [hv2]; exact (List.cons.inj (List.cons.inj hN).2).1)⟩
     ·exact sv rfl rfl rfl rfl rfl _ (fun _ _ _ h=>h) (fun β β' h=>by rw [h 98 (by decide)]) fun ρ β W X cx=>run_assign' rfl (dTn (cx.an 3)).1
    intro σ β X W124 hD hst124 fr hfr
    obtain ⟨A98_124,hu_A98_124⟩:∃ z,sA (β 98)=z:=⟨_,rfl⟩
    obtain ⟨c98_124,hu_c98_124⟩:∃ z,sC (β 98)=z:=⟨_,rfl⟩
    simp only [exq 4 ((dTn (hD 3 lq)).2.1),exq 5 ((dTn (hD 3 lq)).2.2),hu_A98_124,hu_c98_124] at hst124
    simp only [ed 98 ((dTn (hD 3 lq)).1),ed 6 ((dTn (hD 4 lq))),hu_A98_124,hu_c98_124] at hfr
    clear hD hu_A98_124 hu_c98_124; subst hfr; clear σ β X
    refine then_normal (wp_ret (blk_ret (then_ret ?_)))
    refine bpr (.tuple #[.slice A98_124 0 c98_124, .bool false,vi 0]) (results_3 Try.results16 rpt rpt rpt) ?_
    rw [st_there hnd hs66 (by omega) (by omega) hq]
    have hup_:=hst124.upd
    have hpk_:=hst124.pick [3,4] (by decide) rfl
    have hl1_:ln - 1=lf.length:=by omega
    have hlv_:nd.lv=tl:=by omega
    rw [hl1_] at hpk_
    exact ⟨_, _,rfl,pk_old hpk_ hfp hbg hlt (by show lf.length≤lc - 1; omega) (At.dropF (ts:=(te,tl,tk)::lf) tkK_len (hL _ hup_) 1 lc hlc) (fun ad e _=>by rw [tail_blk4 e]; exact hla)⟩
  ·refine sqr (sqp [.k 85 (.pointer (some ⟨B10_52,5,none⟩))] ?_)
   refine sqld 3 hst64 ?_
   refine sqp [.k 87 (vi ((nd.es.length:Int))), .e 88 (.bool (decide ((nd.es.length:Int) < 8))) (.bool false) (congrArg Value.bool (decide_eq_false (by omega))), .k 89 (.bool false)] ?_
   refine sqgy 89 [90,91,92,93] rfl rfl ?_
   refine sqp [.k 90 (.pointer (some ⟨B10_52,5,none⟩))] ?_
   refine sqld 3 hst64 ?_
   refine sqp [.m 92 12] ?_
   refine sqv (.bool false) hst64 (sv_call rfl rfl rfl rfl rfl (fun _ _ _ h=>h.trans (congrArg Value.bool hq)) fun ρ β W X cx=>⟨_, _,run_callF (args:=#[.slice EA43_48 nd.es.length ec43_48, .func (.func 48) #[] #[vp B9_31]]) rfl cx.sees rfl (by kernel_rfl) (map2 (cx.ou 91) (cx.ou 92)),kstep1_con (At.of_ownN (cx.ri 2 rfl)) (by omega) (cx.bi 1 rfl)⟩) fun W133 hst133=>?_
   refine sqp [.k 94 (.bool false), .k 84 (.bool false)] ?_
   refine then_normal (wcf rfl (wp_seq (sqr (sqp [.m 100 2, .k 101 (.bool (decide (fresh < 0))), .m 99 101] ?_))))
   refine then_normal (wds (fun hs139 hs139p=>?_) fun hs139 hs139p=>?_)
   ·refine wp_seq (sqr (sqp [.k 6 (.slice none 0 0), .k 7 (.bool false), .k 8 (vi 23)] ?_))
    refine then_normal (wp_ret (blk_ret (then_ret ?_)))
    refine bpr (.tuple #[.slice none 0 0, .bool false,vi 23]) (results_3 Try.results16 rpt rpt rpt) ?_
    rw [st_full hnd hs66 (by omega) (by omega) hq hn8 (by omega)]
    have hn143:=nilrowN hst133 99 3
    simp only [List.cons_append,List.nil_append] at hn143
    have hup_:=hn143.upd
    have hpk_:=hn143.pick [0,4] (by decide) rfl
    subst hln
    exact ⟨_, _,rfl,pk_old hpk_ hfp hbg hlt hlc (hL _ hup_) (fun ad e _=>by rw [← Option.some.inj e]; exact hla)⟩
   refine wp_skip (blk_normal (then_normal (wp_seq ?_)))
   have hec:=eown_capN ((hst133.get 2 rfl).holds:World.ownsRow _ 0 104 3 (.slice EA43_48 nd.es.length ec43_48) nd.es.length (nd.es.flatMap enC))
   have hdd:nd.dead=false:=by have h_:=hs66; unfold sndB at h_; rw [Bool.or_eq_false_iff] at h_; exact h_.1
   refine sqr (sqp [.m 102 0] ?_)
   refine sqv (.func (.func 53) #[vp b] #[]) hst133 (by
     exact sv0 rfl rfl rfl rfl rfl (fun _ _ _ h=>h) fun ρ β W X cx=>by
      have fF102:ρ (.tmp 102)=vp b:=(cx.ou 102)
      simp [go_sem,Instr.makeFunc,fF102]) fun W145 hst145=>?_
   refine sqp [.m 13 103] ?_
   refine then_normal (wp_seq (wp_seq (wp_region_Z [0,1,3,7,0,16,48,112,255] [[],[],[],[0],[],[],[],[0]] [.k 104 (vp b), .k 105 (vp b), .k 106 (.pointer (some ⟨b,1,none⟩)), .c 107 (vi pos), .k 108 (vp b), .k 109 (vp b), .k 110 (vp b), .c 111 (vi root), .k 112 (.bool (pos==root))] [0,1,2,3] [3,7] [(104,0,9,113)] hst145 ?_ fun W147 hst147=>?_)))
   ·refine ⟨?_,?_,trivial⟩
    ·exact xs4 rfl id fun cx=>run_load1 rfl (by kernel_rfl) (cx.an 2) ((cx.bi 0 rfl).cell 1)
    ·exact xs4 rfl id fun cx=>run_load1 rfl (by kernel_rfl) (cx.an 6) ((cx.bi 0 rfl).cell 0)
   refine then_normal (wbs (fun hs148=>?_) fun hs148=>?_)
   ·have hs148p:=beq_iff_eq.1 hs148
    refine sqr (sqp [.m 113 0] ?_)
    refine sqv (.func (.func 54) #[vp b] #[]) hst147 (by
      exact sv0 rfl rfl rfl rfl rfl (fun _ _ _ h=>h) fun ρ β W X cx=>by
       have fF113:ρ (.tmp 113)=vp b:=(cx.ou 113)
       simp [go_sem,Instr.makeFunc,fF113]) fun W150 hst150=>?_
    refine sqp [.m 13 114] ?_
    refine then_normal (wp_seq (wp_region_Y [0,0,0,7,15,31,63] [[],[3],[],[0,2]] [[],[],[],[4,5]] [[],[],[],[0]] [.k 115 (.func (.func 54) #[vp b] #[]), .c 116 (.agg #[vi pos,vi nd.lv,vi nd.right, .string nd.high, .bool nd.dead, .slice EA43_48 nd.es.length ec43_48,vi ((nd.free:Int))]), .k 117 (vi fresh), .a 118, .a 6, .k 7 (.bool true), .k 8 (vi 0)] (fun ix σ β X=>match ix with | 0=>True | 1=>True | 2=>True | 3=>σ 118= .slice (sA (β 118)) ((growE root nd fresh).length) (sC (β 118))∧X 4=eB b 109 #[vi root,vi fresh,vi leaf, .slice ((some la)) ln lc,vi 0,vi 0, .bool false]∧X 5=eO 99 3 (.slice (sA (β 118)) ((growE root nd fresh).length) (sC (β 118))) ((growE root nd fresh).length) ((growE root nd fresh).flatMap edC) | 4=>σ 6= .slice (sA (β 118)) ((growE root nd fresh).length) (sC (β 118)) | _=>True) [1,2,3,4,5] [1,3,4] [(6,4,3,9),(106,0,4,110)] hst150 ?_ ?_ ?_))
    ·exact fun ix _ _ _ _ _ _ hs hb hx h=>match ix,h with
     | 3,h=>by dsimp only; rw [← hs 118 rfl,← hb 118 rfl,← hx 4 rfl,← hx 5 rfl]; exact h
     | 4,h=>by dsimp only; rw [← hs 6 rfl,← hb 118 rfl]; exact h
     | 0, _ | 1, _ | 2, _ | _+5, _=>trivial
    ·refine ⟨?_,?_,?_,trivial⟩
     ·exact xs4 rfl id fun cx=>run_loadB (n:=7) rfl (by kernel_rfl) (by kernel_rfl) (cx.ou 10) (cx.bi 3 rfl) (nle rfl) rfl
     ·refine svA fun ρ β W X cx=>?_
      refine DoesU.call (run_callV (f:=54) (args:=#[.agg #[vi pos,vi nd.lv,vi nd.right, .string nd.high, .bool nd.dead, .slice EA43_48 nd.es.length ec43_48,vi ((nd.free:Int))],vi fresh]) (args':=#[vp b, .agg #[vi pos,vi nd.lv,vi nd.right, .string nd.high, .bool nd.dead, .slice EA43_48 nd.es.length ec43_48,vi ((nd.free:Int))],vi fresh]) rfl rfl (cx.an 0) (by kernel_rfl) (map2 (cx.an 1) (cx.an 2)) rfl) ?_
      refine (kgrow_any _ _ _ _ _ _ _ _ _ _ nd pos fresh _ _ _ (cx.bi 0 rfl) (CtxV.keepAt cx (cx.init 2 _ rfl) (cx.init 0 _ rfl) rfl rfl (by decide)) hN.es6 (by omega) (by omega) (by omega) (by omega)).mono ?_
      rintro e W1 ⟨A4,c4,rfl,hs4⟩
      refine ⟨_,rfl,post_obj (E:=eB b 109 #[vi root,vi pos,vi leaf, .slice ((some la)) ln lc,vi 0,vi 0, .bool false]) [eB b 109 #[vi root,vi fresh,vi leaf, .slice ((some la)) ln lc,vi 0,vi 0, .bool false],eO 99 3 (.slice A4 (growE root nd fresh).length c4) (growE root nd fresh).length ((growE root nd fresh).flatMap edC)] (cx.init 0 _ rfl) rfl rfl hs4 (fun σ β' X' hs hb hv hN=>?_)⟩
      have hv1:=(hv 118 rfl).1; have hv2:=(hv 118 rfl).2
      exact ⟨hv1.trans (by rw [hv2]; rfl),(List.cons.inj hN).1,(by rw [hv2]; exact (List.cons.inj (List.cons.inj hN).2).1)⟩
     ·exact sv rfl rfl rfl rfl rfl _ (fun _ _ _ h=>h) (fun β β' h=>by rw [h 118 (by decide)]) fun ρ β W X cx=>run_assign' rfl (dTn (cx.an 3)).1
    intro σ β X W152 hD hst152 fr hfr
    obtain ⟨A118_152,hu_A118_152⟩:∃ z,sA (β 118)=z:=⟨_,rfl⟩
    obtain ⟨c118_152,hu_c118_152⟩:∃ z,sC (β 118)=z:=⟨_,rfl⟩
    simp only [exq 4 ((dTn (hD 3 lq)).2.1),exq 5 ((dTn (hD 3 lq)).2.2),hu_A118_152,hu_c118_152] at hst152
    simp only [ed 118 ((dTn (hD 3 lq)).1),ed 6 ((dTn (hD 4 lq))),hu_A118_152,hu_c118_152] at hfr
    clear hD hu_A118_152 hu_c118_152; subst hfr; clear σ β X
    refine then_normal (wp_ret ?_)
    refine bpr (.tuple #[.slice A118_152 ((growE root nd fresh).length) c118_152, .bool true,vi 0]) (results_3 Try.results16 rpt rpt rpt) ?_
    rw [st_grow hnd hs66 (by omega) (by omega) hq hn8 (by omega) (by omega)]
    have hup_:=hst152.upd
    have hpk_:=hst152.pick [3,4] (by decide) rfl
    subst hln
    exact ⟨_, _,rfl,pk_old hpk_ hfp hbg hlt hlc (hL _ hup_) (fun ad e _=>by rw [← Option.some.inj e]; exact hla)⟩
   have hs148p:=beq_eq_false_iff_ne.1 hs148
   refine wp_skip (then_normal (wp_seq (wp_region_Y [0,0,0,7,15,31,63] [[],[3],[],[0,2]] [[],[],[],[4,5]] [[],[],[],[0]] [.k 115 (.func (.func 53) #[vp b] #[]), .c 116 (.agg #[vi pos,vi nd.lv,vi nd.right, .string nd.high, .bool nd.dead, .slice EA43_48 nd.es.length ec43_48,vi ((nd.free:Int))]), .k 117 (vi fresh), .a 118, .a 6, .k 7 (.bool true), .k 8 (vi 0)] (fun ix σ β X=>match ix with | 0=>True | 1=>True | 2=>True | 3=>σ 118= .slice (sA (β 118)) ((cutE pos nd fresh).length) (sC (β 118))∧X 4=ePk b ⟨root,pos,leaf,(te,tl,tk)::lf++[(midE nd,nd.lv+1,fresh)],if nd.lv=0 then pos else 0,if nd.lv=0 then fresh else 0,if nd.lv=0 then true else false⟩ ((X 4).fp)∧X 5=eO 99 3 (.slice (sA (β 118)) ((cutE pos nd fresh).length) (sC (β 118))) ((cutE pos nd fresh).length) ((cutE pos nd fresh).flatMap edC) | 4=>σ 6= .slice (sA (β 118)) ((cutE pos nd fresh).length) (sC (β 118)) | _=>True) [1,2,3,4,5] [1,3,4] [(6,4,3,9),(106,0,4,110)] hst147 ?_ ?_ ?_)))
   ·exact fun ix _ _ _ _ _ _ hs hb hx h=>match ix,h with
    | 3,h=>by dsimp only; rw [← hs 118 rfl,← hb 118 rfl,← hx 4 rfl,← hx 5 rfl]; exact h
    | 4,h=>by dsimp only; rw [← hs 6 rfl,← hb 118 rfl]; exact h
    | 0, _ | 1, _ | 2, _ | _+5, _=>trivial
   ·refine ⟨?_,?_,?_,trivial⟩
    ·exact xs4 rfl id fun cx=>run_loadB (n:=7) rfl (by kernel_rfl) (by kernel_rfl) (cx.ou 10) (cx.bi 3 rfl) (nle rfl) rfl
    ·refine svA fun ρ β W X cx=>?_
     refine DoesU.call (run_callV (f:=53) (args:=#[.agg #[vi pos,vi nd.lv,vi nd.right, .string nd.high, .bool nd.dead, .slice EA43_48 nd.es.length ec43_48,vi ((nd.free:Int))],vi fresh]) (args':=#[vp b, .agg #[vi pos,vi nd.lv,vi nd.right, .string nd.high, .bool nd.dead, .slice EA43_48 nd.es.length ec43_48,vi ((nd.free:Int))],vi fresh]) rfl rfl (cx.an 0) (by kernel_rfl) (map2 (cx.an 1) (cx.an 2)) rfl) ?_
     refine (kcut_pk _ _ _ _ _ _ _ nd pos fresh _ _ ((te,tl,tk)::lf) _ (cx.bi 0 rfl) (CtxV.keepAt cx (cx.init 2 _ rfl) (cx.init 0 _ rfl) rfl rfl (by decide)) hN.es6 (by omega) (by omega) (by omega) (by omega) hec (by omega) (by omega) hdd (fun W' hu=>hL W' (cx.upd.join hu (fun i hi=> .inl hi))) hln (by omega)).mono ?_
     rintro e W1 ⟨A4,c4,fp4,rfl,hs4⟩
     refine ⟨_,rfl,post_obj (E:=eB b 109 #[vi root,vi pos,vi leaf, .slice ((some la)) ln lc,vi 0,vi 0, .bool false]) [ePk b ⟨root,pos,leaf,(te,tl,tk)::lf++[(midE nd,nd.lv+1,fresh)],if nd.lv=0 then pos else 0,if nd.lv=0 then fresh else 0,if nd.lv=0 then true else false⟩ fp4,eO 99 3 (.slice A4 (cutE pos nd fresh).length c4) (cutE pos nd fresh).length ((cutE pos nd fresh).flatMap edC)] (cx.init 0 _ rfl) rfl rfl hs4 (fun σ β' X' hs hb hv hN=>?_)⟩
     have hv1:=(hv 118 rfl).1; have hv2:=(hv 118 rfl).2
     exact ⟨hv1.trans (by rw [hv2]; rfl),ePk_self ((List.cons.inj hN).1),(by rw [hv2]; exact (List.cons.inj (List.cons.inj hN).2).1)⟩
    ·exact sv rfl rfl rfl rfl rfl _ (fun _ _ _ h=>h) (fun β β' h=>by rw [h 118 (by decide)]) fun ρ β W X cx=>run_assign' rfl (dTn (cx.an 3)).1
   intro σ β X W153 hD hst153 fr hfr
   obtain ⟨A118_153,hu_A118_153⟩:∃ z,sA (β 118)=z:=⟨_,rfl⟩
   obtain ⟨c118_153,hu_c118_153⟩:∃ z,sC (β 118)=z:=⟨_,rfl⟩
   have xX4:X 4= _:=(dTn (hD 3 lq)).2.1
   obtain ⟨r4_153,hu_r4_153⟩:∃ z,(X 4).fp=z:=⟨_,rfl⟩
   rw [hu_r4_153] at xX4
   clear hu_r4_153
   simp only [xX4,exq 5 ((dTn (hD 3 lq)).2.2),hu_A118_153,hu_c118_153] at hst153
   simp only [ed 118 ((dTn (hD 3 lq)).1),ed 6 ((dTn (hD 4 lq))),hu_A118_153,hu_c118_153] at hfr
   clear hD xX4 hu_A118_153 hu_c118_153; subst hfr; clear σ β X
   refine then_normal (wp_ret ?_)
   refine bpr (.tuple #[.slice A118_153 ((cutE pos nd fresh).length) c118_153, .bool true,vi 0]) (results_3 Try.results16 rpt rpt rpt) ?_
   rw [st_cut hnd hs66 (by omega) (by omega) hq hn8 (by omega) (by omega)]
   have hlv_:nd.lv=tl:=by omega
   have hpk_:=hst153.pick [3,4] (by decide) rfl
   rw [hlv_] at hpk_
   exact ⟨_, _,rfl, _,St.monoB hpk_ (by rw [hfp]; simp [eB])⟩
  ·refine sqr (sqp [.k 85 (.pointer (some ⟨B10_52,5,none⟩))] ?_)
   refine sqld 3 hst64 ?_
   refine sqp [.k 87 (vi ((nd.es.length:Int))), .e 88 (.bool (decide ((nd.es.length:Int) < 8))) (.bool false) (congrArg Value.bool (decide_eq_false (by omega))), .k 89 (.bool false)] ?_
   refine sqgy 89 [90,91,92,93] rfl rfl ?_
   refine sqp [.k 90 (.pointer (some ⟨B10_52,5,none⟩))] ?_
   refine sqld 3 hst64 ?_
   refine sqp [.m 92 12] ?_
   refine sqv (.bool true) hst64 (sv_call rfl rfl rfl rfl rfl (fun _ _ _ h=>h.trans (congrArg Value.bool hq)) fun ρ β W X cx=>⟨_, _,run_callF (args:=#[.slice EA43_48 nd.es.length ec43_48, .func (.func 48) #[] #[vp B9_31]]) rfl cx.sees rfl (by kernel_rfl) (map2 (cx.ou 91) (cx.ou 92)),kstep1_con (At.of_ownN (cx.ri 2 rfl)) (by omega) (cx.bi 1 rfl)⟩) fun W162 hst162=>?_
   refine sqp [.k 94 (.bool true), .k 84 (.bool true)] ?_
   refine then_normal (wct rfl (wp_seq (wp_region_Y [0,0,0,7,15,31,63] [[],[3],[1],[0,2]] [[],[],[],[4,5]] [[],[],[],[0]] [.k 95 (vp b), .c 96 (.agg #[vi pos,vi nd.lv,vi nd.right, .string nd.high, .bool nd.dead, .slice EA43_48 nd.es.length ec43_48,vi ((nd.free:Int))]), .c 97 (.agg #[.string te,vi 0,vi tk,vi tl]), .a 98, .a 6, .k 7 (.bool false), .k 8 (vi 0)] (fun ix σ β X=>match ix with | 0=>True | 1=>True | 2=>True | 3=>σ 98= .slice (sA (β 98)) 0 (sC (β 98))∧X 4=eB b 109 #[vi root,vi root,vi ((if tl=0 then pos else leaf)), .slice ((if lc=1 then some la else (some la).map (·.add (1*4)))) ((ln - 1)) ((lc - 1)),vi 0,vi 0, .bool false]∧X 5=eO 99 3 (.slice (sA (β 98)) 0 (sC (β 98))) 0 (([]:List EdT).flatMap edC) | 4=>σ 6= .slice (sA (β 98)) 0 (sC (β 98)) | _=>True) [1,2,3,4,5] [1,2,3,4] [(6,4,3,9),(86,0,4,90)] hst162 ?_ ?_ ?_)))
   ·exact fun ix _ _ _ _ _ _ hs hb hx h=>match ix,h with
    | 3,h=>by dsimp only; rw [← hs 98 rfl,← hb 98 rfl,← hx 4 rfl,← hx 5 rfl]; exact h
    | 4,h=>by dsimp only; rw [← hs 6 rfl,← hb 98 rfl]; exact h
    | 0, _ | 1, _ | 2, _ | _+5, _=>trivial
   ·refine ⟨?_,?_,?_,?_,trivial⟩
    ·exact xs4 rfl id fun cx=>run_loadB (n:=7) rfl (by kernel_rfl) (by kernel_rfl) (cx.ou 10) (cx.bi 3 rfl) (nle rfl) rfl
    ·exact xs4 rfl id fun cx=>run_loadB (n:=4) rfl (by kernel_rfl) (by kernel_rfl) (cx.ou 9) (cx.bi 1 rfl) (nle rfl) rfl
    ·refine svA fun ρ β W X cx=>?_
     refine DoesU.call (run_callF (args:=#[vp b, .agg #[vi pos,vi nd.lv,vi nd.right, .string nd.high, .bool nd.dead, .slice EA43_48 nd.es.length ec43_48,vi ((nd.free:Int))], .agg #[.string te,vi 0,vi tk,vi tl]]) rfl cx.sees rfl (by kernel_rfl) (map3 (cx.an 0) (cx.an 1) (cx.an 2))) ?_
     refine (kput_any _ _ _ _ _ _ _ _ _ _ nd pos _ _ te 0 tk tl true _ (cx.bi 0 rfl) (CtxV.keepAt cx (cx.init 2 _ rfl) (cx.init 0 _ rfl) rfl rfl (by decide)) (by omega) (by omega) (by omega) (by omega) hq).mono ?_
     rintro e W1 ⟨A4,c4,rfl,hs4⟩
     refine ⟨_,rfl,post_obj (E:=eB b 109 #[vi root,vi pos,vi leaf, .slice ((some la)) ln lc,vi 0,vi 0, .bool false]) [eB b 109 #[vi root,vi root,vi ((if tl=0 then pos else leaf)), .slice ((if lc=1 then some la else (some la).map (·.add (1*4)))) ((ln - 1)) ((lc - 1)),vi 0,vi 0, .bool false],eO 99 3 (.slice A4 0 c4) 0 (([]:List EdT).flatMap edC)] (cx.init 0 _ rfl) rfl rfl hs4 (fun σ β' X' hs hb hv hN=>?_)⟩
     have hv1:=(hv 98 rfl).1; have hv2:=(hv 98 rfl).2
     exact ⟨hv1.trans (by rw [hv2]; rfl),(List.cons.inj hN).1,(by rw [hv2]; exact (List.cons.inj (List.cons.inj hN).2).1)⟩
    ·exact sv rfl rfl rfl rfl rfl _ (fun _ _ _ h=>h) (fun β β' h=>by rw [h 98 (by decide)]) fun ρ β W X cx=>run_assign' rfl (dTn (cx.an 3)).1
   intro σ β X W165 hD hst165 fr hfr
   obtain ⟨A98_165,hu_A98_165⟩:∃ z,sA (β 98)=z:=⟨_,rfl⟩
   obtain ⟨c98_165,hu_c98_165⟩:∃ z,sC (β 98)=z:=⟨_,rfl⟩
   simp only [exq 4 ((dTn (hD 3 lq)).2.1),exq 5 ((dTn (hD 3 lq)).2.2),hu_A98_165,hu_c98_165] at hst165
   simp only [ed 98 ((dTn (hD 3 lq)).1),ed 6 ((dTn (hD 4 lq))),hu_A98_165,hu_c98_165] at hfr
   clear hD hu_A98_165 hu_c98_165; subst hfr; clear σ β X
   refine then_normal (wp_ret (blk_ret (then_ret ?_)))
   refine bpr (.tuple #[.slice A98_165 0 c98_165, .bool false,vi 0]) (results_3 Try.results16 rpt rpt rpt) ?_
   rw [st_there hnd hs66 (by omega) (by omega) hq]
   have hup_:=hst165.upd
   have hpk_:=hst165.pick [3,4] (by decide) rfl
   have hl1_:ln - 1=lf.length:=by omega
   have hlv_:nd.lv=tl:=by omega
   rw [hl1_] at hpk_
   exact ⟨_, _,rfl,pk_old hpk_ hfp hbg hlt (by show lf.length≤lc - 1; omega) (At.dropF (ts:=(te,tl,tk)::lf) tkK_len (hL _ hup_) 1 lc hlc) (fun ad e _=>by rw [tail_blk4 e]; exact hla)⟩
end
section
open Go.RowKit
theorem book_ok {b:Nat} {ps:List PgS} {w:World} (h:BkAt w b ps) (hl:ps.length≤1000):PgsOk w 24 (.pointer (some ⟨b,0,none⟩)) ps:=
 ⟨⟨58, _,fun W=>by kernel_rfl,by kernel_rfl,fun x=>rpage_any b ps x w h hl⟩⟩
theorem kstep_pk {b bk:Nat} {ps:List PgS} {p:PuT} {fresh:Int} {fp:List Nat} {w:World} (h:(ePk b p fp).holds w) (hB:BkU fp w bk ps) (hne:p.left≠[]) (hok:OkS ps) (hoc:OkC ps) (h10:p.left.length≤10000) (hte:∀ t∈p.left,t.1.size≤900000∧0≤t.2.1∧t.2.1≤90000) (h8:∀ nd,ndAt ps p.pos=some nd→nd.es.length < 8):
  Calls Try.prog 16 #[.pointer (some ⟨b,0,none⟩), .iface 24 (.pointer (some ⟨bk,0,none⟩)), .int .i64 fresh] w (KtPost b (stepF ps p fresh) fp w):=by
 obtain ⟨A,c,g,hfp,hbg,hc,hAg,hlt,hb,hA⟩:=h
 obtain ⟨root,pos,leaf,left,fro,to,spl⟩:=p
 cases left with
 | nil=>exact absurd rfl hne
 | cons t lf=>
   obtain ⟨te,tl,tk⟩:=t
   obtain ⟨la,rfl, _, _⟩:=hA 0 (.string te) rfl
   have hg:=hAg la rfl (by simp)
   have ht:=hte (te,tl,tk) (by simp)
   obtain ⟨LA,lcc,Ps,h1,h2⟩:=hB
   refine kstep_s b _ _ root pos leaf fro to spl la _ c te tl tk lf ps fresh fp g w hb (fun W hW=>?_) rfl hc h10 (fun W hW=>book_ok ⟨LA,lcc,Ps,h1,h2 W (hW.mono fun k _ hk=>by rw [hfp,List.mem_singleton.1 hk]; simp)⟩ hok.len) hok hoc hfp hbg hlt hg ht.1 ht.2 h8
   refine at_blocks hA fun ad e _=>?_
   rw [← Option.some.inj e]
   exact hW.block _ (hlt _ hg) (fun hm=>hbg (by rw [List.mem_singleton] at hm; exact hm ▸ hg))
theorem kdone_t {b:Nat} {p:PuT} {fp:List Nat} {w:World} (h:(ePk b p fp).holds w) (h0:p.left=[]):Calls Try.prog 21 #[.pointer (some ⟨b,0,none⟩)] w (Ret (.bool true) w):=by
 have h1:=kdone_pk h
 rw [h0] at h1
 exact h1
/-- the book of the example -/
def sanB:List PgS:=doB (blankF 4) (begF 3)
def sanK:ByteArray:=⟨#[97,98]⟩
def sanX:ByteArray:=⟨#[97,98,0,1,0,2]⟩
theorem sanB_eq:sanB=[(2,0,[⟨#[0,0,0,0]⟩]),(0,0,[]),(0,0,[]),(2,0,[⟨#[0,0,0,0]⟩])]:=by kernel_rfl
theorem sanB_ok:OkS sanB:=by
 rw [sanB_eq]
 refine ⟨by decide,fun p hp=>?_,fun p hp s hs=>?_⟩
 ·simp only [List.mem_cons,List.not_mem_nil,or_false] at hp
  rcases hp with rfl | rfl | rfl | rfl<;>decide
 ·simp only [List.mem_cons,List.not_mem_nil,or_false] at hp
  rcases hp with rfl | rfl | rfl | rfl<;>simp at hs<;>subst hs<;>decide
theorem sanB_c:OkC sanB:=by
 rw [sanB_eq]
 intro p hp
 simp only [List.mem_cons,List.not_mem_nil,or_false] at hp
 rcases hp with rfl | rfl | rfl | rfl<;>decide
def sanN:NoD:=⟨0, -1,⟨#[]⟩,false,[],1⟩
theorem sanB_nd:ndAt sanB 3=some sanN:=by kernel_rfl
def sanP:PuT:=⟨3,3,3,[],0,0,false⟩
theorem san_step:stepF sanB (putT 3 sanK 1 2) (-1)=(sanP,⟨[(3,1,sanX)],false,0⟩):=by kernel_rfl
theorem san_ck:checkF sanB 3=0:=by rw [sanB_eq]; kernel_rfl
theorem san_ret {v v':Value} {f:FuncId} {args:Array Value} {w:World} (h:v=v') (hc:Calls Try.prog f args w (Ret v w)):Calls Try.prog f args w (Ret v' w):=h ▸ hc
theorem kt_to {P:Program} {f:FuncId} {args:Array Value} {w:World} {b:Nat} {fp:List Nat} {R R':PuT×GoT} (hR:R=R') (hc:Calls P f args w (KtPost b R fp w)):Calls P f args w (KtPost b R' fp w):=hR ▸ hc
theorem at_to {w:World} {A:Option Addr} {xs ys:List Value} (h:At w A xs) (e:xs=ys):At w A ys:=e ▸ h
theorem sanity10_any (w:World):
  Calls Try.prog 10 #[] w (Ret (.bool true) w):=by
 go_enter Try.func10,Try.ntmps10
 have hst0:=St.start w
 refine wp_seq (sqr (sqp [.k 0 (.bool false)] ?_))
 refine then_normal (wp_seq (sqr ?_))
 refine sqk1s (fun B9_2=>vp B9_2) (fun B9_2 r0_2=>eBk B9_2 (blankF 4) r0_2) hst0 (fun cx=>⟨_,(rblank_any 4 _ (by decide)).mono (by rintro e W1 ⟨B4,fp4,rfl,hs4⟩; exact ⟨_, _,rfl,hs4⟩),(map1 (cx.co _))⟩) fun B9_2 r0_2 W2 hst2=>?_
 refine sqp [.m 1 9] ?_
 refine then_normal (wp_seq (wp_region_Y [0,0,2,6,0,16,48,126,255,511] [[],[],[2],[],[],[3],[],[],[1,4]] [[1],[2],[],[],[3],[],[],[4]] [] [.a 10, .a 11, .c 12 (.string (strOfNums ([2]))), .k 13 (.agg #[vi 3,vi (-1), .string (strOfNums ([2]))]), .a 14, .c 15 (.string (strOfNums ([0,0,0,0]))), .k 16 (.agg #[vi 3,vi 0, .string (strOfNums ([0,0,0,0]))]), .a 17, .c 18 (.bool true), .k 2 (.bool true)] (fun ix σ β X=>match ix with | 0=>σ 10= .slice (sA (β 10)) 2 (sC (β 10))∧X 1=eO 99 3 (.slice (sA (β 10)) 2 (sC (β 10))) 2 ((begF 3).flatMap edC) | 1=>σ 11= .slice (sA (β 11)) 1 1∧X 2=eO 5 1 (.slice (sA (β 11)) 1 1) 1 ([.int .u8 2]) | 2=>True | 3=>True | 4=>σ 14= .slice (sA (β 14)) 4 4∧X 3=eO 5 1 (.slice (sA (β 14)) 4 4) 4 ([.int .u8 0, .int .u8 0, .int .u8 0, .int .u8 0]) | 5=>True | 6=>True | 7=>σ 17= .slice ((some ⟨(pb' (β 17)),0,none⟩)) 2 2∧X 4=eO 99 3 (.slice ((some ⟨(pb' (β 17)),0,none⟩)) 2 2) 2 ([vi 3,vi (-1), .string (strOfNums ([2])),vi 3,vi 0, .string (strOfNums ([0,0,0,0]))]) | _=>True) [0,1,2,3,4] [0,1,2,4,5,7,8] [(2,9,1,3),(7,0,9,16)] hst2 ?_ ?_ ?_))
 ·exact fun ix _ _ _ _ _ _ hs hb hx h=>match ix,h with
  | 0,h=>by dsimp only; rw [← hs 10 rfl,← hb 10 rfl,← hx 1 rfl]; exact h
  | 1,h=>by dsimp only; rw [← hs 11 rfl,← hb 11 rfl,← hx 2 rfl]; exact h
  | 4,h=>by dsimp only; rw [← hs 14 rfl,← hb 14 rfl,← hx 3 rfl]; exact h
  | 7,h=>by dsimp only; rw [← hs 17 rfl,← hb 17 rfl,← hx 4 rfl]; exact h
  | 2, _ | 3, _ | 5, _ | 6, _ | _+8, _=>trivial
 ·refine ⟨?_,?_,?_,?_,?_,?_,?_,trivial⟩
  ·refine svA fun ρ β W X cx=>?_
   refine DoesU.call (run_callF (args:=#[vi 3]) rfl cx.sees rfl (by kernel_rfl) (map1 (cx.co _))) ?_
   refine (kbegin_any 3 _).mono ?_
   rintro e W1 ⟨A4,c4,rfl,ho_,hx⟩
   refine ⟨_,rfl,post_call [eO 99 3 (.slice A4 2 c4) 2 ((begF 3).flatMap edC)] rfl rfl hx (one_new (eO_new (n:=2) (xs:=(begF 3).flatMap edC) ho_)) (List.pairwise_singleton _ _) (fun σ β' X' hs hb hv hN=>?_)⟩
   have hv1:=(hv 10 rfl).1; have hv2:=(hv 10 rfl).2
   exact ⟨hv1.trans (by rw [hv2]; rfl),(by rw [hv2]; exact (List.cons.inj hN).1)⟩
  ·refine svA fun ρ β W X cx=>?_
   exact dv_lit (e:=5) (xs:=[.int .u8 2]) rfl (by simp [go_sem,cx.sees.const]) rfl (by decide) rfl rfl (fun σ β' X' hs hb hv hx=>⟨hv,hx⟩)
  ·exact xs4 rfl id fun cx=>run_convB (e:=5) rfl (by kernel_rfl) (by kernel_rfl) (by kernel_rfl) (dTn (cx.an 1)).1 (cx.row (dTn (cx.an 1)).2 rfl)
  ·refine svA fun ρ β W X cx=>?_
   exact dv_lit (e:=5) (xs:=[.int .u8 0, .int .u8 0, .int .u8 0, .int .u8 0]) rfl (by simp [go_sem,cx.sees.const]) rfl (by decide) rfl rfl (fun σ β' X' hs hb hv hx=>⟨hv,hx⟩)
  ·exact xs4 rfl id fun cx=>run_convB (e:=5) rfl (by kernel_rfl) (by kernel_rfl) (by kernel_rfl) (dTn (cx.an 4)).1 (cx.row (dTn (cx.an 4)).2 rfl)
  ·refine svA fun ρ β W X cx=>?_
   have fF13:ρ (.tmp 13)= .agg #[vi 3,vi (-1), .string (strOfNums ([2]))]:=(cx.an 3)
   have fF16:ρ (.tmp 16)= .agg #[vi 3,vi 0, .string (strOfNums ([0,0,0,0]))]:=(cx.an 6)
   exact dv_litN (e:=99) (sz:=3) (xs:=[vi 3,vi (-1), .string (strOfNums ([2])),vi 3,vi 0, .string (strOfNums ([0,0,0,0]))]) rfl (by simp [go_sem,fF13,fF16]) rfl (by decide) rfl rfl (fun σ β' X' hs hb hv hx=>⟨hv,hx⟩)
  ·exact xsc rfl id rfl rfl fun cx=>⟨_,rsame_any _ _ _ _ (begF 3) _ (at_to (At.of_ownN (cx.row (dTn (cx.an 0)).2 rfl)) (by kernel_rfl)) (at_to (At.of_ownN (cx.row (dTn (cx.an 7)).2 rfl)) (by kernel_rfl)) (by decide),(map2 (dTn (cx.an 0)).1 (dTn (cx.an 7)).1)⟩
 intro σ β X W4 hD hst4 fr hfr
 obtain ⟨A10_4,hu_A10_4⟩:∃ z,sA (β 10)=z:=⟨_,rfl⟩
 obtain ⟨c10_4,hu_c10_4⟩:∃ z,sC (β 10)=z:=⟨_,rfl⟩
 obtain ⟨A11_4,hu_A11_4⟩:∃ z,sA (β 11)=z:=⟨_,rfl⟩
 obtain ⟨A14_4,hu_A14_4⟩:∃ z,sA (β 14)=z:=⟨_,rfl⟩
 obtain ⟨B17_4,hu_B17_4⟩:∃ z,pb' (β 17)=z:=⟨_,rfl⟩
 simp only [exq 1 ((dTn (hD 0 lq)).2),exq 2 ((dTn (hD 1 lq)).2),exq 3 ((dTn (hD 4 lq)).2),exq 4 ((dTn (hD 7 lq)).2),hu_A10_4,hu_c10_4,hu_A11_4,hu_A14_4,hu_B17_4] at hst4
 simp only [ed 10 ((dTn (hD 0 lq)).1),ed 11 ((dTn (hD 1 lq)).1),ed 14 ((dTn (hD 4 lq)).1),ed 17 ((dTn (hD 7 lq)).1),hu_A10_4,hu_c10_4,hu_A11_4,hu_A14_4,hu_B17_4] at hfr
 clear hD hu_A10_4 hu_c10_4 hu_A11_4 hu_A14_4 hu_B17_4; subst hfr; clear σ β X
 refine then_normal (wp_seq (sqr (sqp [.m 19 1] ?_)))
 refine sqk2 (fun A20_6 c20_6=> .slice A20_6 2 c20_6) (fun A20_6 c20_6=>eO 99 3 (.slice A20_6 2 c20_6) 2 ((begF 3).flatMap edC)) hst4 (fun cx=>⟨_,(kbegin_any 3 _).mono (by rintro e W1 ⟨A4,c4,rfl,ho_,hx⟩; exact ⟨_, _,rfl,St.one hx (eO_new (n:=2) (xs:=(begF 3).flatMap edC) ho_)⟩),(map1 (cx.co _))⟩) fun A20_6 c20_6 W6 hst6=>?_
 refine sqc0s (fun X_=>X_.fp) (.tuple #[]) (fun r6_7=>eBk B9_2 (doB (blankF 4) (begF 3)) r6_7) 0 hst6 (by
   refine svA fun ρ β W X cx=>?_
   refine DoesU.call (run_callF (args:=#[vp B9_2, .slice A20_6 2 c20_6]) rfl cx.sees rfl (by kernel_rfl) (map2 (cx.ou 19) (cx.ou 20))) ?_
   refine (rdo_any B9_2 (blankF 4) _ 4 _ _ (begF 3) _ (CtxV.holdF cx (cx.init 0 _ rfl) rfl) (CtxV.ltF cx (cx.init 0 _ rfl) rfl) (CtxV.keepAt cx (cx.init 5 _ rfl) (cx.init 0 _ rfl) rfl rfl (by decide)) (by decide) (blank_sz 4).2 (by decide) (blank_sz 4).1.its).mono ?_
   rintro e W1 ⟨rfl,fp4,hs4⟩
   refine ⟨_,rfl,post_obj (E:=eBk B9_2 (blankF 4) r0_2) [eBk B9_2 (doB (blankF 4) (begF 3)) fp4] (cx.init 0 _ rfl) rfl rfl hs4 (fun σ β' X' hs hb hv hN=>?_)⟩
   have hv1:=(hv 21 rfl).1; have hv2:=(hv 21 rfl).2
   exact ⟨hv1.trans rfl,eBk_self ((List.cons.inj hN).1)⟩) fun r6_7 W7 hst7=>?_
 refine then_normal (wp_seq ?_)
 have hsb_:doB (blankF 4) (begF 3)=sanB:=rfl
 rw [hsb_] at hst7
 refine sqr (sqp [.k 22 (.agg #[vi 1,vi 2])] ?_)
 refine sqk1s (fun B23_9=>vp B23_9) (fun B23_9 r6_9=>ePk B23_9 (putT 3 (⟨#[97,98]⟩:ByteArray) 1 2) r6_9) hst7 (fun cx=>⟨_,(kgrowN_any 3 (⟨#[97,98]⟩:ByteArray) 1 2 _ (by decide)).mono (by rintro e W1 ⟨B4,fp4,rfl,hs4⟩; exact ⟨_, _,rfl,hs4⟩),(map3 (cx.co _) (cx.co _) (cx.ou 22))⟩) fun B23_9 r6_9 W9 hst9=>?_
 refine sqp [.m 3 23] ?_
 refine then_normal (wp_seq (wp_seq (sqr (sqp [.m 24 3] ?_))))
 refine sqv (.bool false) hst9 (by
   exact sv0 rfl rfl rfl rfl rfl (fun _ _ _ h=>h) fun ρ β W X cx=>by
    have fF24:ρ (.tmp 24)=vp B23_9:=(cx.ou 24)
    simp [go_sem,cx.sees.const,fF24]) fun W12 hst12=>?_
 refine then_normal (wcf rfl (wp_skip (then_normal (wp_seq (wp_region_Y [0,0,2,7,15,31,31,31,63,383,1023] [[],[],[],[6,0]] [[],[],[],[7,8]] [[],[],[],[6]] [.k 27 (vp B23_9), .k 28 (vp B9_2), .c 29 (.iface 24 (vp B9_2)), .a 30, .a 26, .a 31, .c 32 (.bool false), .c 33 (vi 0), .a 4, .k 5 (.bool false), .k 6 (vi 0)] (fun ix σ β X=>match ix with | 0=>True | 1=>True | 2=>True | 3=>σ 30= .tuple #[.slice (sA (tg (β 30) 0)) 1 (sC (tg (β 30) 0)), .bool false,vi 0]∧X 7=ePk B23_9 sanP ((X 7).fp)∧X 8=eO 99 3 (.slice (sA (tg (β 30) 0)) 1 (sC (tg (β 30) 0))) 1 ([(3,1,sanX)].flatMap edC) | 4=>σ 26= .tuple #[.slice (sA (tg (β 30) 0)) 1 (sC (tg (β 30) 0)), .bool false,vi 0] | 5=>σ 31= .slice (sA (tg (β 30) 0)) 1 (sC (tg (β 30) 0)) | 6=>True | 7=>True | 8=>σ 4= .slice (sA (tg (β 30) 0)) 1 (sC (tg (β 30) 0)) | _=>True) [0,1,2,3,4,5,7,8] [2,3,4,5,6,7,8] [(4,8,3,7),(19,4,1,20),(0,0,4,4),(0,5,3,3)] hst12 ?_ ?_ ?_)))))
 ·exact fun ix _ _ _ _ _ _ hs hb hx h=>match ix,h with
  | 3,h=>by dsimp only; rw [← hs 30 rfl,← hb 30 rfl,← hx 7 rfl,← hx 8 rfl]; exact h
  | 4,h=>by dsimp only; rw [← hs 26 rfl,← hb 30 rfl]; exact h
  | 5,h=>by dsimp only; rw [← hs 31 rfl,← hb 30 rfl]; exact h
  | 8,h=>by dsimp only; rw [← hs 4 rfl,← hb 30 rfl]; exact h
  | 0, _ | 1, _ | 2, _ | 6, _ | 7, _ | _+9, _=>trivial
 ·refine ⟨?_,?_,?_,?_,?_,?_,?_,trivial⟩
  ·exact sv0 rfl rfl rfl rfl rfl (fun _ _ _ h=>h) fun ρ β W X cx=>by
    have fF28:ρ (.tmp 28)=vp B9_2:=(cx.an 1)
    simp [go_sem,fF28]
  ·refine svA fun ρ β W X cx=>?_
   refine DoesU.call (run_callF (args:=#[vp B23_9, .iface 24 (vp B9_2),vi (-1)]) rfl cx.sees rfl (by kernel_rfl) (map3 (cx.an 0) (cx.an 2) (cx.co _))) ?_
   refine (kt_to san_step (kstep_pk (fresh:= -1) (CtxV.holdF cx (cx.init 6 _ rfl) rfl) (CtxV.bkU cx (cx.init 0 _ rfl) (cx.init 6 _ rfl) rfl rfl (by decide)) (by decide) sanB_ok sanB_c (by decide) (fun t ht=>by rw [putT,List.mem_singleton] at ht; subst ht; decide) (fun nd h=>by have h_:=sanB_nd.symm.trans h; rw [← Option.some.inj h_]; decide))).mono ?_
   rintro e W1 ⟨A4,c4,rfl,fp4,hs4⟩
   refine ⟨_,rfl,post_obj (E:=ePk B23_9 (putT 3 (⟨#[97,98]⟩:ByteArray) 1 2) r6_9) [ePk B23_9 sanP fp4,eO 99 3 (.slice A4 1 c4) 1 ([(3,1,sanX)].flatMap edC)] (cx.init 6 _ rfl) rfl rfl hs4 (fun σ β' X' hs hb hv hN=>?_)⟩
   have hv1:=(hv 30 rfl).1; have hv2:=(hv 30 rfl).2
   exact ⟨hv1.trans (by rw [hv2]; rfl),ePk_self ((List.cons.inj hN).1),(by rw [hv2]; exact (List.cons.inj (List.cons.inj hN).2).1)⟩
  ·exact sv rfl rfl rfl rfl rfl _ (fun _ _ _ h=>h) (fun β β' h=>by rw [h 30 (by decide)]) fun ρ β W X cx=>run_move' rfl (dTn (cx.an 3)).1
  ·exact sv rfl rfl rfl rfl rfl _ (fun _ _ _ h=>h) (fun β β' h=>by rw [h 30 (by decide)]) fun ρ β W X cx=>run_extract' rfl (dTn (cx.an 4)) rfl
  ·exact xs4 rfl id fun cx=>run_extract' rfl (dTn (cx.an 4)) rfl
  ·exact xs4 rfl id fun cx=>run_extract' rfl (dTn (cx.an 4)) rfl
  ·exact sv rfl rfl rfl rfl rfl _ (fun _ _ _ h=>h) (fun β β' h=>by rw [h 30 (by decide)]) fun ρ β W X cx=>run_assign' rfl (dTn (cx.an 5))
 intro σ β X W13 hD hst13 fr hfr
 obtain ⟨A30_13,hu_A30_13⟩:∃ z,sA (tg (β 30) 0)=z:=⟨_,rfl⟩
 obtain ⟨c30_13,hu_c30_13⟩:∃ z,sC (tg (β 30) 0)=z:=⟨_,rfl⟩
 have xX7:X 7= _:=(dTn (hD 3 lq)).2.1
 obtain ⟨r7_13,hu_r7_13⟩:∃ z,(X 7).fp=z:=⟨_,rfl⟩
 rw [hu_r7_13] at xX7
 clear hu_r7_13
 simp only [xX7,exq 8 ((dTn (hD 3 lq)).2.2),hu_A30_13,hu_c30_13] at hst13
 simp only [ed 30 ((dTn (hD 3 lq)).1),ed 26 ((dTn (hD 4 lq))),ed 31 ((dTn (hD 5 lq))),ed 4 ((dTn (hD 8 lq))),hu_A30_13,hu_c30_13] at hfr
 clear hD xX7 hu_A30_13 hu_c30_13; subst hfr; clear σ β X
 refine then_normal (wp_seq (sqr ?_))
 refine sqn1 (fun x_=>sA x_) (fun A34_14=> .slice A34_14 4 4) (fun A34_14=>eO 5 1 (.slice A34_14 4 4) 4 ([.int .u8 0, .int .u8 1, .int .u8 0, .int .u8 2])) hst13 (by
   refine svA fun ρ β W X cx=>?_
   exact dv_lit (e:=5) (xs:=[.int .u8 0, .int .u8 1, .int .u8 0, .int .u8 2]) rfl (by simp [go_sem,cx.sees.const]) rfl (by decide) rfl rfl (fun σ β' X' hs hb hv hx=>⟨hv,hx⟩)) fun A34_14 W14 hst14=>?_
 refine sql (.string (strOfNums ([0,1,0,2]))) hst14 (fun cx=>run_convB (e:=5) rfl (by kernel_rfl) (by kernel_rfl) (by kernel_rfl) (cx.ou 34) (cx.ri 8 rfl)) ?_
 refine sqp [sS 36 ((⟨#[97,98]⟩:ByteArray)) (strOfNums ([0,1,0,2])) (by rw [strOfNums_size]; decide), .m 7 36] ?_
 refine then_normal (wp_seq (sqr (sqp [.m 37 4, .m 38 7, .k 39 (.agg #[vi 3,vi 1, .string (((⟨#[97,98]⟩:ByteArray))++(strOfNums ([0,1,0,2])))])] ?_)))
 refine sqli 99 3 1 [vi 3,vi 1, .string (((⟨#[97,98]⟩:ByteArray))++(strOfNums ([0,1,0,2])))] hst14 (@fun ρ β W X cx=>by have fF39:ρ (.tmp 39)= .agg #[vi 3,vi 1, .string (((⟨#[97,98]⟩:ByteArray))++(strOfNums ([0,1,0,2])))]:=(cx.ou 39); simp [go_sem,fF39]) fun B40_21 W21 hst21=>?_
 refine sqk (.bool true) hst21 (fun cx=>⟨_,rsame_any _ _ _ _ [(3,1,sanX)] _ (at_to (At.of_ownN (cx.ri 7 rfl)) (by kernel_rfl)) (at_to (At.of_ownN (cx.ri 9 rfl)) (by kernel_rfl)) (by decide),(map2 (cx.ou 37) (cx.ou 40))⟩) fun W22 hst22=>?_
 refine sqp [.k 8 (.bool true)] ?_
 refine then_normal (wp_seq (sqr (sqp [.k 42 (.bool true), .k 43 (.bool true)] ?_)))
 refine sqgy 43 [44] rfl rfl ?_
 refine sqp [.k 44 (.bool true)] ?_
 refine sqp [.k 45 (.bool true), .k 46 (.bool true)] ?_
 refine sqgy 46 [47,48] rfl rfl ?_
 refine sqp [.k 47 (.bool false), .k 48 (.bool true)] ?_
 refine sqp [.k 49 (.bool true), .k 50 (.bool true)] ?_
 refine sqgy 50 [51,52] rfl rfl ?_
 refine sqp [.m 51 6, .k 52 (.bool true)] ?_
 refine sqp [.k 53 (.bool true), .k 54 (.bool true)] ?_
 refine sqgy 54 [55,56] rfl rfl ?_
 refine sqp [.m 55 3] ?_
 refine sqk (.bool true) hst22 (fun cx=>⟨_,kdone_t (CtxV.holdF cx (cx.init 6 _ rfl) rfl) rfl,(map1 (cx.ou 55))⟩) fun W38 hst38=>?_
 refine sqp [.k 57 (.bool true), .k 58 (.bool true)] ?_
 refine sqgy 58 [59,60,61] rfl rfl ?_
 refine sqp [.m 59 3] ?_
 refine sqk (vi 3) hst38 (fun cx=>⟨_,kleaf_pk (CtxV.holdF cx (cx.init 6 _ rfl) rfl),(map1 (cx.ou 59))⟩) fun W42 hst42=>?_
 refine sqp [.k 61 (.bool true)] ?_
 refine sqp [.k 62 (.bool true), .k 63 (.bool true)] ?_
 refine sqgy 63 [64,65,66,67] rfl rfl ?_
 refine sqp [.k 64 (.agg #[vi 1,vi 2])] ?_
 refine sqk (.string ((entF sanK 1 2))) hst42 (fun cx=>⟨_,kentry_any sanK 1 2 _ (by decide),(map2 (cx.co _) (cx.ou 64))⟩) fun W47 hst47=>?_
 have hd50:(((entF sanK 1 2)).toList==(((⟨#[97,98]⟩:ByteArray))++(strOfNums ([0,1,0,2]))).toList)=true:=(by kernel_rfl)
 refine sqp [.m 66 7, .e 67 (.bool (((entF sanK 1 2)).toList==(((⟨#[97,98]⟩:ByteArray))++(strOfNums ([0,1,0,2]))).toList)) (.bool true) (congrArg Value.bool hd50)] ?_
 refine sqp [.k 68 (.bool true), .k 69 (.bool true)] ?_
 refine sqgy 69 [70,71,72,73] rfl rfl ?_
 refine sqp [.m 70 1] ?_
 refine sqv (.iface 24 (vp B9_2)) hst47 (by
   exact sv0 rfl rfl rfl rfl rfl (fun _ _ _ h=>h) fun ρ β W X cx=>by
    have fF70:ρ (.tmp 70)=vp B9_2:=(cx.ou 70)
    simp [go_sem,fF70]) fun W54 hst54=>?_
 refine sqk (vi 0) hst54 (fun cx=>⟨_,san_ret (by rw [san_ck]) (kcheck_g _ _ 3 sanB _ (book_ok (eBk_at (CtxV.holdF cx (cx.init 0 _ rfl) rfl)) sanB_ok.len) sanB_ok sanB_c),(map2 (cx.ou 71) (cx.co _))⟩) fun W55 hst55=>?_
 refine sqp [.k 73 (.bool true)] ?_
 refine sqp [.k 74 (.bool true), .k 0 (.bool true)] ?_
 refine then_normal (wp_ret ?_)
 refine bpr (.bool true) (results_1 Try.results10 rpt) ?_
 exact Ret.of rfl hst55.ext
end
section
open Go.RowKit
theorem kstep_0 (b:Nat) (root pos leaf fro to:Int) (spl:Bool) (LA:Option Addr) (lc:Nat) (tt:TypeId) (tv:Value) (ps:List PgS) (fresh:Int) (fp g:List Nat) (w:World) (hb:Blk w b 109 #[.int .i64 root, .int .i64 pos, .int .i64 leaf, .slice LA 0 lc, .int .i64 fro, .int .i64 to, .bool spl]) (hfp:fp=b::g) (hbg:b∉g) (hlt:∀ k∈g,k < w.heap.size):
  Calls Try.prog 16 #[.pointer (some ⟨b,0,none⟩), .iface tt (tv), .int .i64 fresh] w (KtPost b (stepF ps ⟨root,pos,leaf,[],fro,to,spl⟩ fresh) fp w):=by
 have st0:=St.lend (E:=eB b 109 #[.int .i64 root, .int .i64 pos, .int .i64 leaf, .slice LA 0 lc, .int .i64 fro, .int .i64 to, .bool spl]) hb (eB_loc _ _ _) (fun k hk=>by simp [eB] at hk; subst hk; exact hb.lt)
 go_enter Try.func16,Try.ntmps16
 have hst0:=st0
 refine wp_seq (sqr (sqp [.k 6 (.slice none 0 0), .k 7 (.bool false), .k 8 (vi 0)] ?_))
 refine then_normal (wp_seq (wp_seq (sqr (sqp [.m 14 0] ?_))))
 refine sqv (.bool false) hst0 (by
   exact sv0 rfl rfl rfl rfl rfl (fun _ _ _ h=>h) fun ρ β W X cx=>by
    have fF14:ρ (.tmp 14)=vp b:=(cx.ou 14)
    simp [go_sem,cx.sees.const,fF14]) fun W5 hst5=>?_
 refine then_normal (wcf rfl (wp_skip (then_normal (wp_seq (sqr (sqp [.m 16 0, .m 17 0, .m 18 0, .k 19 (vp b), .k 20 (.pointer (some ⟨b,4,none⟩))] ?_))))))
 refine sqst (n:=1) 0 #[vi root,vi pos,vi leaf, .slice LA 0 lc,vi 0,vi to, .bool spl] hst5 fun W11 hst11=>?_
 refine sqp [.k 21 (vp b), .k 22 (.pointer (some ⟨b,5,none⟩))] ?_
 refine sqst (n:=1) 0 #[vi root,vi pos,vi leaf, .slice LA 0 lc,vi 0,vi 0, .bool spl] hst11 fun W14 hst14=>?_
 refine sqp [.k 23 (vp b), .k 24 (.pointer (some ⟨b,6,none⟩))] ?_
 refine sqst (n:=1) 0 #[vi root,vi pos,vi leaf, .slice LA 0 lc,vi 0,vi 0, .bool false] hst14 fun W17 hst17=>?_
 refine then_normal (wp_seq (wp_seq (sqr (sqp [.m 25 0, .k 26 (vp b), .k 27 (.pointer (some ⟨b,3,none⟩))] ?_))))
 refine sqld 0 hst17 ?_
 refine sqp [.k 29 (vi 0), .k 30 (.bool true)] ?_
 refine then_normal (wct rfl (wp_seq (sqr (sqp [.k 6 (.slice none 0 0), .k 7 (.bool false), .k 8 (vi 0)] ?_))))
 refine then_normal (wp_ret (then_ret ?_))
 refine bpr (.tuple #[.slice none 0 0, .bool false,vi 0]) (results_3 Try.results16 rpt rpt rpt) ?_
 have hn27:=nilrowN hst17 99 3
 simp only [List.cons_append,List.nil_append] at hn27
 have hpk_:=hn27.pick [0,1] (by decide) rfl
 exact ⟨_, _,rfl,pk_old (p:=⟨root,pos,leaf,[],0,0,false⟩) hpk_ hfp hbg hlt (Nat.zero_le _) (At.nil _ _) (fun ad e h=>absurd rfl h)⟩
theorem kstep_a {b bk:Nat} {ps:List PgS} {p:PuT} {fresh:Int} {fp:List Nat} {w:World} (h:(ePk b p fp).holds w) (hB:BkU fp w bk ps) (hok:OkS ps) (hoc:OkC ps) (h10:p.left.length≤10000) (hte:∀ t∈p.left,t.1.size≤900000∧0≤t.2.1∧t.2.1≤90000) (hfr: -1≤fresh∧fresh≤1000000):
  Calls Try.prog 16 #[.pointer (some ⟨b,0,none⟩), .iface 24 (.pointer (some ⟨bk,0,none⟩)), .int .i64 fresh] w (KtPost b (stepF ps p fresh) fp w):=by
 obtain ⟨A,c,g,hfp,hbg,hc,hAg,hlt,hb,hA⟩:=h
 obtain ⟨root,pos,leaf,left,fro,to,spl⟩:=p
 cases left with
 | nil=>exact kstep_0 b root pos leaf fro to spl A c _ _ ps fresh fp g w hb hfp hbg hlt
 | cons t lf=>
   obtain ⟨te,tl,tk⟩:=t
   obtain ⟨la,rfl, _, _⟩:=hA 0 (.string te) rfl
   have hg:=hAg la rfl (by simp)
   have ht:=hte (te,tl,tk) (by simp)
   obtain ⟨LA,lcc,Ps,h1,h2⟩:=hB
   refine kstep_g b _ _ root pos leaf fro to spl la _ c te tl tk lf ps fresh fp g w hb (fun W hW=>?_) rfl hc h10 (fun W hW=>book_ok ⟨LA,lcc,Ps,h1,h2 W (hW.mono fun k _ hk=>by rw [hfp,List.mem_singleton.1 hk]; simp)⟩ hok.len) hok hoc hfp hbg hlt hg ht.1 ht.2 hfr
   refine at_blocks hA fun ad e _=>?_
   rw [← Option.some.inj e]
   exact hW.block _ (hlt _ hg) (fun hm=>hbg (by rw [List.mem_singleton] at hm; exact hm ▸ hg))
end
section
open Go.RowKit
theorem lseed_any (A:Option Addr) (n c k:Nat) (w:World) (hc:n≤c):
  Calls Try.prog 34 #[.slice A n c, .int .i64 ((k:Int))] w (Ret (.slice A (min n k) c) w):=by
 go_enter Try.func34,Try.ntmps34
 have hst0:=St.start w
 refine wp_seq (sqr (sqp [.k 4 (.slice none 0 0)] ?_))
 refine then_normal (wp_seq (wp_seq (sqr (sqp [.m 5 0, .k 6 (vi ((n:Int))), .m 7 1, .k 8 (.bool (decide ((k:Int) < (n:Int))))] ?_))))
 refine then_normal (wds (fun hs6 hs6p=>?_) fun hs6 hs6p=>?_)
 ·refine wp_seq (sqr (sqp [.m 9 0, .m 10 1] ?_))
  refine sql (.slice A k c) hst0 (fun cx=>run_sliceL_hi (e:=3) (sz:=1) (m:=k) rfl (by kernel_rfl) (by kernel_rfl) (cx.ou 9) (cx.ou 10) (by omega) (by omega)) ?_
  refine sqp [.m 4 11] ?_
  refine then_normal (wp_ret (then_ret ?_))
  refine bpr (.slice A k c) (results_1 Try.results34 rpt) ?_
  exact Ret.of (by rw [show min n k=k by omega]) hst0.ext
 refine wp_skip (then_normal (wp_seq (sqr (sqp [.m 12 0, .m 4 12] ?_))))
 refine then_normal (wp_ret ?_)
 refine bpr (.slice A n c) (results_1 Try.results34 rpt) ?_
 exact Ret.of (by rw [show min n k=n by omega]) hst0.ext
end
end Go.Proofs.Ytjlcoglmjldjbaa

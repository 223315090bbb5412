/- TreePagesRow: part 4 of the proof. -/
import Derived.Test.YtjlcoglmjldjbaaGreatZ3

set_option linter.unusedVariables false
set_option linter.unusedSimpArgs false
set_option maxRecDepth 100000
set_option maxHeartbeats 16000000
namespace Go.Proofs.YtjlcoglmjldjbaaGreat
section
open Go.RowKit
def neB (a:ByteArray):Bool:=!(a.toList==(⟨#[]⟩:ByteArray).toList)
/-- an entry that is not in its place -/
def srS (hi lo:ByteArray) (es:List EnD) (i:Nat):Bool:=(neB lo&&lessF (es.getD i en0).1 lo)||(neB hi&&!(lessF (es.getD i en0).1 hi))||(decide (0 < (i:Int))&&((es.getD i en0).1.toList==(es.getD ((i:Int) - 1).toNat en0).1.toList))
def srF (hi lo:ByteArray) (es:List EnD):Bool:=(List.range es.length).all fun i=>!srS hi lo es i
theorem all_step {p:Nat→Bool} {i:Nat} (h:(List.range i).all p=true) (hp:p i=true):(List.range (i+1)).all p=true:=by
 rw [List.range_succ,List.all_append,h]; simp [hp]
theorem all_fail {p:Nat→Bool} {i n:Nat} (hi:i < n) (hp:p i=false):(List.range n).all p=false:=by
 rw [List.all_eq_false]
 exact ⟨i,List.mem_range.2 hi,by rw [hp]; simp⟩
theorem ksorted_g (pg lv rt fr:Int) (hg:ByteArray) (dd:Bool) (EA:Option Addr) (ec n:Nat) (es:List EnD) (lo:ByteArray) (w:World) (hE:At w EA (es.flatMap enC)) (hn:es.length=n) (hn1:n≤100) (hez:∀ e∈es,e.1.size≤1000000) (hgz:hg.size≤1000000) (hlz:lo.size≤1000000):
  Calls Tryz.prog 106 #[.agg #[.int .i64 pg, .int .i64 lv, .int .i64 rt, .string hg, .bool dd, .slice EA n ec, .int .i64 fr], .string lo] w (Ret (.bool (srF hg lo es)) w):=by
 go_enter Tryz.func106,Tryz.ntmps106
 have hst0:=St.start w
 refine wp_seq (sqr ?_)
 refine sqbx #[vi pg,vi lv,vi rt, .string hg, .bool dd, .slice EA n ec,vi fr] hst0 fun B2_1 W1 hst1=>?_
 refine sqp [.k 4 (.bool false)] ?_
 refine then_normal (wp_seq (wp_seq (sqr (sqp [.k 7 (.pointer (some ⟨B2_1,5,none⟩))] ?_))))
 refine sqld 0 hst1 ?_
 refine sqp [.k 9 (vi ((n:Int))), .k 10 (vi 0)] ?_
 refine then_normal (wp_block ?_)
 refine wp_loopT (fun t_ mz az W=>∃ i:Nat,i≤n∧(List.range i).all (fun i=>!srS hg lo es i)=true∧mz=n - i∧az=⟨(ovr (jv az) [(4,4,3,[]),(3,10,0,[vi ((i:Int))]),(0,11,42,[])] t_).toArray,[]⟩∧St w [] [eB B2_1 84 #[vi pg,vi lv,vi rt, .string hg, .bool dd, .slice EA n ec,vi fr]] W) (n - 0) ?_ ?_
 · -- the loop begins
   exact ⟨0,Nat.zero_le _,rfl,rfl,(by kernel_rfl),hst1.pk [0]⟩
 rintro n7 a7 W7 ⟨i,hi,hall,rfl,hj_,hst7⟩
 refine ovz hj_ fun u7_=>?_
 refine wp_seq (sqr (sqp [.k 11 (.bool (decide ((i:Int) < (n:Int))))] ?_))
 refine then_normal (wp_seq (wds (fun hs9 hs9p=>?_) fun hs9 hs9p=>?_))
 ·refine wp_skip (then_normal (wp_seq (wp_block (wp_seq (sqr (sqp [.m 12 10] ?_))))))
  refine sql (.pointer (some ((ad EA).add (i*3)))) hst7 (fun cx=>run_indexSlM (e:=89) (m:=i) (sz:=3) rfl (by kernel_rfl) (by kernel_rfl) (cx.ou 8) (cx.ou 10) (by omega) (by omega) (hE.ext cx.upd.to_ext) (flatPos (sz:=3) enC_len (by decide) (by omega))) ?_
  refine sql (.agg #[.string ((es.getD i en0).1),vi (((es.getD i en0).2.1:Int)),vi ((es.getD i en0).2.2)]) hst7 (fun cx=>run_loadElt (f:=enC) (m:=i) (sz:=3) (off:=0) (n:=3) rfl (by kernel_rfl) (by kernel_rfl) (cx.ou 13) rfl enC_len (hE.ext cx.upd.to_ext) (en_get (by omega)) (fun k hk=>match k,hk with | 0, _=>rfl | 1, _=>rfl | 2, _=>rfl | k+3,hk=>absurd hk (by omega))) ?_
  refine sqal #[.string ByteArray.empty,vi 0,vi 0] hst7 fun B6_13 W13 hst13=>?_
  refine sqp [.m 5 12] ?_
  refine sqst (n:=3) 1 #[.string ((es.getD i en0).1),vi (((es.getD i en0).2.1:Int)),vi ((es.getD i en0).2.2)] hst13 fun W15 hst15=>?_
  refine then_normal (wp_seq (wp_region_Z [0,1,3,7,15,7,63,127,255,511,1023,2047,4095,8191,16383,8191,40959,131071,262143,524287,1048575,2097151,4194303,8388607,16777215,33554431,67108863,33554431,167772159,33554431,570425343,2046820351,4194303999,8489271295,17179869183,34359738367,68719476735] [[],[],[],[],[1],[],[],[],[],[],[0],[],[],[],[1],[],[0],[],[],[],[],[],[],[],[],[],[1],[],[0]] [.k 15 (.string lo), .k 16 (.bool (!(lo.toList==((⟨#[]⟩:ByteArray)).toList))), .k 17 (.bool (!(lo.toList==((⟨#[]⟩:ByteArray)).toList))), .z 18 (!(lo.toList==((⟨#[]⟩:ByteArray)).toList)) (vp B6_13), .y 19 (!(lo.toList==((⟨#[]⟩:ByteArray)).toList)) (.string ((es.getD i en0).1)), .z 20 (!(lo.toList==((⟨#[]⟩:ByteArray)).toList)) (.string lo), .y 21 (!(lo.toList==((⟨#[]⟩:ByteArray)).toList)) (.bool (lessF ((es.getD i en0).1) lo)),tA 22 (!(lo.toList==((⟨#[]⟩:ByteArray)).toList)) (lessF ((es.getD i en0).1) lo), .k 23 (.bool ((!(lo.toList==((⟨#[]⟩:ByteArray)).toList))&&(lessF ((es.getD i en0).1) lo))), .z 24 (!((!(lo.toList==((⟨#[]⟩:ByteArray)).toList))&&(lessF ((es.getD i en0).1) lo))) (.pointer (some ⟨B2_1,3,none⟩)), .y 25 (!((!(lo.toList==((⟨#[]⟩:ByteArray)).toList))&&(lessF ((es.getD i en0).1) lo))) (.string hg), .y 26 (!((!(lo.toList==((⟨#[]⟩:ByteArray)).toList))&&(lessF ((es.getD i en0).1) lo))) (.bool (!(hg.toList==((⟨#[]⟩:ByteArray)).toList))), .z 27 (!((!(lo.toList==((⟨#[]⟩:ByteArray)).toList))&&(lessF ((es.getD i en0).1) lo))) (.bool (!(hg.toList==((⟨#[]⟩:ByteArray)).toList))), .z 28 ((!((!(lo.toList==((⟨#[]⟩:ByteArray)).toList))&&(lessF ((es.getD i en0).1) lo)))&&(!(hg.toList==((⟨#[]⟩:ByteArray)).toList))) (vp B6_13), .y 29 ((!((!(lo.toList==((⟨#[]⟩:ByteArray)).toList))&&(lessF ((es.getD i en0).1) lo)))&&(!(hg.toList==((⟨#[]⟩:ByteArray)).toList))) (.string ((es.getD i en0).1)), .z 30 ((!((!(lo.toList==((⟨#[]⟩:ByteArray)).toList))&&(lessF ((es.getD i en0).1) lo)))&&(!(hg.toList==((⟨#[]⟩:ByteArray)).toList))) (.pointer (some ⟨B2_1,3,none⟩)), .y 31 ((!((!(lo.toList==((⟨#[]⟩:ByteArray)).toList))&&(lessF ((es.getD i en0).1) lo)))&&(!(hg.toList==((⟨#[]⟩:ByteArray)).toList))) (.string hg), .y 32 ((!((!(lo.toList==((⟨#[]⟩:ByteArray)).toList))&&(lessF ((es.getD i en0).1) lo)))&&(!(hg.toList==((⟨#[]⟩:ByteArray)).toList))) (.bool (lessF ((es.getD i en0).1) hg)), .z 33 ((!((!(lo.toList==((⟨#[]⟩:ByteArray)).toList))&&(lessF ((es.getD i en0).1) lo)))&&(!(hg.toList==((⟨#[]⟩:ByteArray)).toList))) (.bool (!(lessF ((es.getD i en0).1) hg))), .y 34 (!((!(lo.toList==((⟨#[]⟩:ByteArray)).toList))&&(lessF ((es.getD i en0).1) lo))) (.bool ((!(hg.toList==((⟨#[]⟩:ByteArray)).toList))&&(!(lessF ((es.getD i en0).1) hg)))),tO 35 ((!(lo.toList==((⟨#[]⟩:ByteArray)).toList))&&(lessF ((es.getD i en0).1) lo)) ((!(hg.toList==((⟨#[]⟩:ByteArray)).toList))&&(!(lessF ((es.getD i en0).1) hg))), .k 36 (.bool (((!(lo.toList==((⟨#[]⟩:ByteArray)).toList))&&(lessF ((es.getD i en0).1) lo))||((!(hg.toList==((⟨#[]⟩:ByteArray)).toList))&&(!(lessF ((es.getD i en0).1) hg))))), .z 37 (!(((!(lo.toList==((⟨#[]⟩:ByteArray)).toList))&&(lessF ((es.getD i en0).1) lo))||((!(hg.toList==((⟨#[]⟩:ByteArray)).toList))&&(!(lessF ((es.getD i en0).1) hg))))) (vi ((i:Int))), .z 38 (!(((!(lo.toList==((⟨#[]⟩:ByteArray)).toList))&&(lessF ((es.getD i en0).1) lo))||((!(hg.toList==((⟨#[]⟩:ByteArray)).toList))&&(!(lessF ((es.getD i en0).1) hg))))) (.bool (decide (0 < (i:Int)))), .z 39 (!(((!(lo.toList==((⟨#[]⟩:ByteArray)).toList))&&(lessF ((es.getD i en0).1) lo))||((!(hg.toList==((⟨#[]⟩:ByteArray)).toList))&&(!(lessF ((es.getD i en0).1) hg))))) (.bool (decide (0 < (i:Int)))), .z 40 ((!(((!(lo.toList==((⟨#[]⟩:ByteArray)).toList))&&(lessF ((es.getD i en0).1) lo))||((!(hg.toList==((⟨#[]⟩:ByteArray)).toList))&&(!(lessF ((es.getD i en0).1) hg)))))&&(decide (0 < (i:Int)))) (vp B6_13), .y 41 ((!(((!(lo.toList==((⟨#[]⟩:ByteArray)).toList))&&(lessF ((es.getD i en0).1) lo))||((!(hg.toList==((⟨#[]⟩:ByteArray)).toList))&&(!(lessF ((es.getD i en0).1) hg)))))&&(decide (0 < (i:Int)))) (.string ((es.getD i en0).1)), .z 42 ((!(((!(lo.toList==((⟨#[]⟩:ByteArray)).toList))&&(lessF ((es.getD i en0).1) lo))||((!(hg.toList==((⟨#[]⟩:ByteArray)).toList))&&(!(lessF ((es.getD i en0).1) hg)))))&&(decide (0 < (i:Int)))) (.pointer (some ⟨B2_1,5,none⟩)), .y 43 ((!(((!(lo.toList==((⟨#[]⟩:ByteArray)).toList))&&(lessF ((es.getD i en0).1) lo))||((!(hg.toList==((⟨#[]⟩:ByteArray)).toList))&&(!(lessF ((es.getD i en0).1) hg)))))&&(decide (0 < (i:Int)))) (.slice EA n ec), .z 44 ((!(((!(lo.toList==((⟨#[]⟩:ByteArray)).toList))&&(lessF ((es.getD i en0).1) lo))||((!(hg.toList==((⟨#[]⟩:ByteArray)).toList))&&(!(lessF ((es.getD i en0).1) hg)))))&&(decide (0 < (i:Int)))) (vi ((i:Int))), .y 45 ((!(((!(lo.toList==((⟨#[]⟩:ByteArray)).toList))&&(lessF ((es.getD i en0).1) lo))||((!(hg.toList==((⟨#[]⟩:ByteArray)).toList))&&(!(lessF ((es.getD i en0).1) hg)))))&&(decide (0 < (i:Int)))) (vi ((i:Int) - 1)), .y 46 ((!(((!(lo.toList==((⟨#[]⟩:ByteArray)).toList))&&(lessF ((es.getD i en0).1) lo))||((!(hg.toList==((⟨#[]⟩:ByteArray)).toList))&&(!(lessF ((es.getD i en0).1) hg)))))&&(decide (0 < (i:Int)))) (.pointer (some ((ad EA).add ((((i:Int) - 1).toNat)*3)))), .y 47 ((!(((!(lo.toList==((⟨#[]⟩:ByteArray)).toList))&&(lessF ((es.getD i en0).1) lo))||((!(hg.toList==((⟨#[]⟩:ByteArray)).toList))&&(!(lessF ((es.getD i en0).1) hg)))))&&(decide (0 < (i:Int)))) (.pointer (some ((ad EA).add ((((i:Int) - 1).toNat)*3+0)))), .y 48 ((!(((!(lo.toList==((⟨#[]⟩:ByteArray)).toList))&&(lessF ((es.getD i en0).1) lo))||((!(hg.toList==((⟨#[]⟩:ByteArray)).toList))&&(!(lessF ((es.getD i en0).1) hg)))))&&(decide (0 < (i:Int)))) (.string ((es.getD (((i:Int) - 1).toNat) en0).1)), .y 49 ((!(((!(lo.toList==((⟨#[]⟩:ByteArray)).toList))&&(lessF ((es.getD i en0).1) lo))||((!(hg.toList==((⟨#[]⟩:ByteArray)).toList))&&(!(lessF ((es.getD i en0).1) hg)))))&&(decide (0 < (i:Int)))) (.bool (((es.getD i en0).1).toList==((es.getD (((i:Int) - 1).toNat) en0).1).toList)), .y 50 (!(((!(lo.toList==((⟨#[]⟩:ByteArray)).toList))&&(lessF ((es.getD i en0).1) lo))||((!(hg.toList==((⟨#[]⟩:ByteArray)).toList))&&(!(lessF ((es.getD i en0).1) hg))))) (.bool ((decide (0 < (i:Int)))&&(((es.getD i en0).1).toList==((es.getD (((i:Int) - 1).toNat) en0).1).toList))),tO 51 (((!(lo.toList==((⟨#[]⟩:ByteArray)).toList))&&(lessF ((es.getD i en0).1) lo))||((!(hg.toList==((⟨#[]⟩:ByteArray)).toList))&&(!(lessF ((es.getD i en0).1) hg)))) ((decide (0 < (i:Int)))&&(((es.getD i en0).1).toList==((es.getD (((i:Int) - 1).toNat) en0).1).toList))] [0,1] [4,6,10,11,14,16,17,19,26,28,30,31,32,33,34,35] [(15,0,37,52)] hst15 ?_ fun W16 hst16=>?_))
  ·refine ⟨?_,?_,?_,?_,?_,?_,?_,?_,?_,?_,?_,?_,?_,?_,?_,?_,trivial⟩
   ·exact m2 rfl (fun _ _ _ h=>h) (fun cx=>(cx.an 2)) fun cx hq=>run_load1 rfl (by kernel_rfl) (mbv (cx.an 3) hq) ((cx.bi 1 rfl).cell 0)
   ·exact m3 rfl (fun _ _ _ h=>h) (fun cx=>(cx.an 2)) fun cx hq=>⟨_, _,run_callF (args:=#[.string ((es.getD i en0).1), .string lo]) rfl cx.sees rfl (by kernel_rfl) (map2 (mbv (cx.an 4) hq) (mbv (cx.an 5) hq)),kless_any ((es.getD i en0).1) lo _ (getD_size hez _) (by omega)⟩
   ·exact m2 rfl (fun _ _ _ h=>h) (fun cx=>(cx.an 8)) fun cx hq=>run_load1 rfl (by kernel_rfl) (mbv (cx.an 9) hq) ((cx.bi 0 rfl).cell 3)
   ·exact m2 rfl (fun _ _ _ h=>h) (fun cx=>(cx.an 8)) fun cx hq=>run_strne rfl (mbv (cx.an 10) hq) (cx.co _)
   ·exact m0 rfl (fun _ _ _ h=>h) (fun cx=>(cx.an 12)) fun cx hq=>run_load1 rfl (by kernel_rfl) (mbv (cx.an 13) hq) ((cx.bi 1 rfl).cell 0)
   ·exact m0 rfl (fun _ _ _ h=>h) (fun cx=>(cx.an 12)) fun cx hq=>run_load1 rfl (by kernel_rfl) (mbv (cx.an 15) hq) ((cx.bi 0 rfl).cell 3)
   ·exact m1 rfl (fun _ _ _ h=>h) (fun cx=>(cx.an 12)) fun cx hq=>⟨_, _,run_callF (args:=#[.string ((es.getD i en0).1), .string hg]) rfl cx.sees rfl (by kernel_rfl) (map2 (mbv (cx.an 14) hq) (mbv (cx.an 16) hq)),kless_any ((es.getD i en0).1) hg _ (getD_size hez _) (by omega)⟩
   ·exact m2 rfl (fun _ _ _ h=>h) (fun cx=>(cx.an 8)) fun cx hq=>run_pick_and rfl (mbv (cx.an 12) hq) (cx.an 18) (fun e_=>by rw [hq,e_]; rfl) (cx.co _)
   ·exact m0 rfl (fun _ _ _ h=>h) (fun cx=>(cx.an 24)) fun cx hq=>run_load1 rfl (by kernel_rfl) (mbv (cx.an 25) hq) ((cx.bi 1 rfl).cell 0)
   ·exact m0 rfl (fun _ _ _ h=>h) (fun cx=>(cx.an 24)) fun cx hq=>run_load1 rfl (by kernel_rfl) (mbv (cx.an 27) hq) ((cx.bi 0 rfl).cell 5)
   ·exact m0 rfl (fun _ _ _ h=>h) (fun cx=>(cx.an 24)) fun cx hq=>run_bin rfl (mbv (cx.an 29) hq) (cx.co _) (congrArg (fun z=>some (Value.int .i64 z)) ((IntWalk.i64_in _ (by have hq_:=hq; simp only [zB] at hq_; omega)).trans (by have hq_:=hq; simp only [zB] at hq_; omega)))
   ·exact m0 rfl (fun _ _ _ h=>h) (fun cx=>(cx.an 24)) fun cx hq=>run_indexSlM (e:=89) (m:=((i:Int) - 1).toNat) (sz:=3) rfl (by kernel_rfl) (by kernel_rfl) (mbv (cx.an 28) hq) (mbv (cx.an 30) hq) (by have hq_:=hq; simp only [zB] at hq_; omega) (by have hq_:=hq; simp only [zB] at hq_; omega) (hE.ext cx.upd.to_ext) (flatPos (sz:=3) enC_len (by decide) (by have hq_:=hq; simp only [zB] at hq_; omega))
   ·exact m0 rfl (fun _ _ _ h=>h) (fun cx=>(cx.an 24)) fun cx hq=>run_fieldAd rfl (by kernel_rfl) (mbv (cx.an 31) hq)
   ·exact m0 rfl (fun _ _ _ h=>h) (fun cx=>(cx.an 24)) fun cx hq=>run_load1 rfl (by kernel_rfl) (mbv (cx.an 32) hq) (At.eltc (f:=enC) (k:=0) enC_len (hE.ext cx.upd.to_ext) (en_get (by have hq_:=hq; simp only [zB] at hq_; omega)) rfl)
   ·exact m0 rfl (fun _ _ _ h=>h) (fun cx=>(cx.an 24)) fun cx hq=>run_streq rfl (mbv (cx.an 26) hq) (mbv (cx.an 33) hq)
   ·exact m2 rfl (fun _ _ _ h=>h) (fun cx=>(cx.an 21)) fun cx hq=>run_pick_and rfl (mbv (cx.an 24) hq) (cx.an 34) (fun e_=>by rw [hq,e_]; rfl) (cx.co _)
  refine then_normal (wbs (fun hs17=>?_) fun hs17=>?_)
  ·have hs17p:=hs17
   simp only [zB] at hs17p
   refine wp_seq (sqr (sqp [.k 4 (.bool false)] ?_))
   refine then_normal (wp_ret (blk_ret (then_ret (then_ret (blk_ret (then_ret ?_))))))
   refine bpr (.bool false) (results_1 Tryz.results106 rpt) ?_
   exact Ret.bool (by rw [srF,hn]; exact (all_fail (i:=i) (by omega) (by rw [show srS hg lo es i=true from hs17]; rfl)).symm) hst16.ext
  have hs17p:=hs17
  simp only [zB] at hs17p
  obtain ⟨⟨hs17p1,hs17p2⟩,hs17p3⟩:=hs17p
  refine wp_skip (blk_normal (then_normal (sqr (sqp [sI 52 ((i:Int)+1) (by omega), .m 10 52] ?_))))
  refine then_normal ?_
  refine ⟨n - ((i+1)),by omega,?_⟩
  exact ⟨(i+1),by omega,all_step hall (by rw [show srS hg lo es i=false from hs17]; rfl),rfl,(by kernel_rfl),hst16.pk [0]⟩
 refine wp_exit (then_exit (then_exit (blk_eq (then_normal (wp_seq (sqr (sqp [.k 4 (.bool true)] ?_)))))))
 refine then_normal (wp_ret ?_)
 refine bpr (.bool true) (results_1 Tryz.results106 rpt) ?_
 exact Ret.bool (by rw [srF,hn,show n=i by omega]; exact hall.symm) hst7.ext
def yn0:YnD:=(nodZ,0,none,0)
theorem yn_get {l:List YnD} {k:Nat} (h:k < l.length):l[k]? =some (l.getD k yn0):=by rw [List.getD_eq_getElem?_getD,List.getElem?_eq_getElem h]; rfl
/-- the node that leads to it is there, with the entry that it should have -/
def ldW (L:List (Int×NoD)) (k:Int):ByteArray:=if 0 < k then (L.getD (k - 1).toNat (0,nodZ)).2.high else leastB
def ldI (L:List (Int×NoD)) (kid:Int):Int:=idxP (fun m=>m.1==kid) 0 L
def ldS (L:List (Int×NoD)) (e:EnD):Bool:=decide (ldI L e.2.2 < 0)||!(e.1.toList==(ldW L (ldI L e.2.2)).toList)
def ldF (L:List (Int×NoD)) (es:List EnD):Bool:=((List.range es.length).all fun i=>!ldS L (es.getD i en0))&&decide (0 < (es.length:Int))
theorem idxP_map {α β:Type} (f:α→β) (p:β→Bool):∀ (l:List α) (k:Int),idxP p k (l.map f)=idxP (fun x=>p (f x)) k l
 | [], _=>rfl
 | x::l,k=>by rw [List.map_cons,idxP,idxP,idxP_map f p l]
theorem idxP_lt {α:Type} (p:α→Bool):∀ (l:List α) (k:Int),0≤k→ -1≤idxP p k l∧idxP p k l < k+l.length
 | [],k,h=>⟨Int.le_refl _,by rw [idxP,List.length_nil]; omega⟩
 | x::l,k,h=>by
   rw [idxP,List.length_cons]
   split
   ·exact ⟨by omega,by omega⟩
   ·have:=idxP_lt p l (k+1) (by omega)
    exact ⟨this.1,by omega⟩
theorem getD_pgN (xs:List YnD) (k:Nat):(xs.map pgN).getD k (0,nodZ)=pgN (xs.getD k yn0):=by
 rw [List.getD_eq_getElem?_getD,List.getD_eq_getElem?_getD,List.getElem?_map]
 cases xs[k]? <;>rfl
theorem kleads1_any (y:YnD) (eb:Nat) (x:ByteArray) (s kid:Int) (w:World) (h1:Blk w eb 89 #[.string x, .int .i64 s, .int .i64 kid]):
  Calls Tryz.prog 127 #[.agg #[.int .i64 y.2.1, .int .i64 y.1.lv, .int .i64 y.1.right, .string y.1.high, .bool y.1.dead, .slice y.2.2.1 y.1.es.length y.2.2.2, .int .i64 ((y.1.free:Int))], .pointer (some ⟨eb,0,none⟩)] w (Ret (.bool (y.2.1==kid)) w):=by
 go_enter Tryz.func127,Tryz.ntmps127
 have hst0:=St.start w
 refine wp_seq (sqr ?_)
 refine sqbx #[vi y.2.1,vi y.1.lv,vi y.1.right, .string y.1.high, .bool y.1.dead, .slice y.2.2.1 y.1.es.length y.2.2.2,vi ((y.1.free:Int))] hst0 fun B2_1 W1 hst1=>?_
 refine sqp [.k 3 (.bool false)] ?_
 refine then_normal (wp_seq (sqr (sqp [.k 4 (vp B2_1)] ?_)))
 refine sqld 0 hst1 ?_
 refine sqp [.k 6 (.pointer (some ⟨eb,2,none⟩))] ?_
 refine sql (vi kid) hst1 (fun cx=>run_load1 rfl (by kernel_rfl) (cx.ou 6) ((Blk.ext h1 cx.upd.to_ext).cell 2)) ?_
 refine sqp [.k 8 (.bool (y.2.1==kid)), .m 3 8] ?_
 refine then_normal (wp_ret ?_)
 refine bpr (.bool (y.2.1==kid)) (results_1 Tryz.results127 rpt) ?_
 exact Ret.bool rfl hst1.ext
theorem kidxn_any (FA:Option Addr) (fc:Nat) (ks:List YnD) (f0:FuncId) (cap:Array Value) (p:YnD→Bool) (w:World) (hF:At w FA (ks.flatMap ynC)) (hl:ks.length≤100000) (hcf:callP Tryz.prog f0=true) (hf:∀ (W:World) (k:YnD),Ext w W→Calls Tryz.prog f0 (#[.agg #[.int .i64 k.2.1, .int .i64 k.1.lv, .int .i64 k.1.right, .string k.1.high, .bool k.1.dead, .slice k.2.2.1 k.1.es.length k.2.2.2, .int .i64 ((k.1.free:Int))]]++cap) W (Ret (.bool (p k)) W)):
  Calls Tryz.prog 126 #[.slice FA ks.length fc, .func (.func f0) #[] cap] w (Ret (.int .i64 (idxP p 0 ks)) w):=by
 go_enter Tryz.func126,Tryz.ntmps126
 have hst0:=St.start w
 refine wp_seq (sqr (sqp [.k 4 (vi 0)] ?_))
 refine then_normal (wp_seq (wp_seq (sqr (sqp [.m 6 0, .k 7 (vi ((ks.length:Int))), .k 8 (vi 0)] ?_))))
 refine then_normal (wp_block ?_)
 refine wp_loopT (fun t_ mz az W=>∃ k:Nat,k≤ks.length∧idxP p 0 ks=idxP p (k:Int) (ks.drop k)∧mz=ks.length - k∧az=⟨(ovr (jv az) [(4,4,2,[]),(2,8,0,[vi ((k:Int))]),(0,9,10,[])] t_).toArray,[]⟩∧St w [] [] W) (ks.length - 0) ?_ ?_
 · -- the loop begins
   exact ⟨0,Nat.zero_le _,rfl,rfl,(by kernel_rfl),hst0.pk []⟩
 rintro n5 a5 W5 ⟨k,hk,hkr,rfl,hj_,hst5⟩
 refine ovz hj_ fun u5_=>?_
 refine wp_seq (sqr (sqp [.k 9 (.bool (decide ((k:Int) < (ks.length:Int))))] ?_))
 refine then_normal (wp_seq (wds (fun hs7 hs7p=>?_) fun hs7 hs7p=>?_))
 ·refine wp_skip (then_normal (wp_seq (wp_block (wp_seq (sqr (sqp [.m 10 8, .m 5 10] ?_))))))
  refine then_normal (wp_seq (sqr (sqp [.m 11 1, .m 12 0, .m 13 5] ?_)))
  refine sql (.pointer (some ((ad FA).add (k*7)))) hst5 (fun cx=>run_indexSlM (e:=84) (m:=k) (sz:=7) rfl (by kernel_rfl) (by kernel_rfl) (cx.ou 12) (cx.ou 13) (by omega) (by omega) (hF.ext cx.upd.to_ext) (flatPos (sz:=7) ynC_len (by decide) (by omega))) ?_
  refine sql (.agg #[vi ((ks.getD k yn0).2.1),vi ((ks.getD k yn0).1.lv),vi ((ks.getD k yn0).1.right), .string ((ks.getD k yn0).1.high), .bool ((ks.getD k yn0).1.dead), .slice ((ks.getD k yn0).2.2.1) ((ks.getD k yn0).1.es.length) ((ks.getD k yn0).2.2.2),vi (((ks.getD k yn0).1.free:Int))]) hst5 (fun cx=>run_loadElt (f:=ynC) (m:=k) (sz:=7) (off:=0) (n:=7) rfl (by kernel_rfl) (by kernel_rfl) (cx.ou 14) rfl ynC_len (hF.ext cx.upd.to_ext) (yn_get (by omega)) (fun k hk=>match k,hk with | 0, _=>rfl | 1, _=>rfl | 2, _=>rfl | 3, _=>rfl | 4, _=>rfl | 5, _=>rfl | 6, _=>rfl | k+7,hk=>absurd hk (by omega))) ?_
  refine sqv (.bool ((p (ks.getD k yn0)))) hst5 (sv_call rfl rfl rfl rfl rfl (fun _ _ _ h=>h) fun ρ β W X cx=>⟨_, _,run_callV (f:=f0) (args:=#[.agg #[vi ((ks.getD k yn0).2.1),vi ((ks.getD k yn0).1.lv),vi ((ks.getD k yn0).1.right), .string ((ks.getD k yn0).1.high), .bool ((ks.getD k yn0).1.dead), .slice ((ks.getD k yn0).2.2.1) ((ks.getD k yn0).1.es.length) ((ks.getD k yn0).2.2.2),vi (((ks.getD k yn0).1.free:Int))]]) (args':=#[.agg #[vi ((ks.getD k yn0).2.1),vi ((ks.getD k yn0).1.lv),vi ((ks.getD k yn0).1.right), .string ((ks.getD k yn0).1.high), .bool ((ks.getD k yn0).1.dead), .slice ((ks.getD k yn0).2.2.1) ((ks.getD k yn0).1.es.length) ((ks.getD k yn0).2.2.2),vi (((ks.getD k yn0).1.free:Int))]]++cap) rfl rfl (cx.ou 11) hcf (map1 (cx.ou 15)) (by rw [Array.empty_append]),(by have h9:=hf W (ks.getD k yn0) cx.upd.to_ext; exact h9)⟩) fun W15 hst15=>?_
  refine then_normal (wbs (fun hs16=>?_) fun hs16=>?_)
  ·refine wp_seq (sqr (sqp [.m 17 5, .m 4 17] ?_))
   refine then_normal (wp_ret (blk_ret (then_ret (then_ret (blk_ret (then_ret ?_))))))
   refine bpr (vi ((k:Int))) (results_1 Tryz.results126 rpt) ?_
   exact Ret.of (by rw [hkr,idxP_at (yn_get (l:=ks) (k:=k) (by omega)),hs16]; rfl) hst15.ext
  refine wp_skip (blk_normal (then_normal (sqr (sqp [sI 18 ((k:Int)+1) (by omega), .m 8 18] ?_))))
  refine then_normal ?_
  refine ⟨ks.length - ((k+1)),by omega,?_⟩
  exact ⟨(k+1),by omega,by rw [hkr,idxP_at (yn_get (l:=ks) (k:=k) (by omega)),hs16]; rfl,rfl,(by kernel_rfl),hst15.pk []⟩
 refine wp_exit (then_exit (then_exit (blk_eq (then_normal (wp_seq (sqr (sqp [.k 4 (vi (-1))] ?_)))))))
 refine then_normal (wp_ret ?_)
 refine bpr (vi (-1)) (results_1 Tryz.results126 rpt) ?_
 exact Ret.of (by rw [hkr,List.drop_of_length_le (by omega)]; rfl) hst5.ext
theorem kidxn_kid {A:Option Addr} {c:Nat} {xs:List YnD} {w:World} {eb:Nat} {x:ByteArray} {s kid:Int} (hF:At w A (xs.flatMap ynC)) (hl:xs.length≤100000) (h1:Blk w eb 89 #[.string x, .int .i64 s, .int .i64 kid]):
  Calls Tryz.prog 126 #[.slice A xs.length c, .func (.func 127) #[] #[.pointer (some ⟨eb,0,none⟩)]] w (Ret (.int .i64 (ldI (xs.map pgN) kid)) w):=by
 rw [ldI,idxP_map]
 exact kidxn_any A c xs 127 #[.pointer (some ⟨eb,0,none⟩)] (fun y=>y.2.1==kid) w hF hl (by kernel_rfl) (fun W k hW=>kleads1_any k eb x s kid W (h1.ext hW))
theorem kleads_g (pg lv rt fr:Int) (hg:ByteArray) (dd:Bool) (EA:Option Addr) (ec n:Nat) (es:List EnD) (BA:Option Addr) (bc:Nat) (xs:List YnD) (w:World) (hE:At w EA (es.flatMap enC)) (hn:es.length=n) (hn1:n≤100) (hB:At w BA (xs.flatMap ynC)) (hbl:xs.length≤100000):
  Calls Tryz.prog 107 #[.agg #[.int .i64 pg, .int .i64 lv, .int .i64 rt, .string hg, .bool dd, .slice EA n ec, .int .i64 fr], .slice BA xs.length bc] w (Ret (.bool (ldF (xs.map pgN) es)) w):=by
 go_enter Tryz.func107,Tryz.ntmps107
 have hst0:=St.start w
 refine wp_seq (sqr ?_)
 refine sqbx #[vi pg,vi lv,vi rt, .string hg, .bool dd, .slice EA n ec,vi fr] hst0 fun B2_1 W1 hst1=>?_
 refine sqp [.k 4 (.bool false)] ?_
 refine then_normal (wp_seq (wp_seq (sqr (sqp [.k 9 (.pointer (some ⟨B2_1,5,none⟩))] ?_))))
 refine sqld 0 hst1 ?_
 refine sqp [.k 11 (vi ((n:Int))), .k 12 (vi 0)] ?_
 refine then_normal (wp_block ?_)
 refine wp_loopT (fun t_ mz az W=>∃ i:Nat,i≤n∧(List.range i).all (fun i=>!ldS (xs.map pgN) (es.getD i en0))=true∧mz=n - i∧az=⟨(ovr (jv az) [(4,4,1,[]),(1,6,3,[]),(3,12,0,[vi ((i:Int))]),(0,13,24,[])] t_).toArray,[]⟩∧St w [] [eB B2_1 84 #[vi pg,vi lv,vi rt, .string hg, .bool dd, .slice EA n ec,vi fr]] W) (n - 0) ?_ ?_
 · -- the loop begins
   exact ⟨0,Nat.zero_le _,rfl,rfl,(by kernel_rfl),hst1.pk [0]⟩
 rintro n7 a7 W7 ⟨i,hi,hall,rfl,hj_,hst7⟩
 refine ovz hj_ fun u7_=>?_
 refine wp_seq (sqr (sqp [.k 13 (.bool (decide ((i:Int) < (n:Int))))] ?_))
 refine then_normal (wp_seq (wds (fun hs9 hs9p=>?_) fun hs9 hs9p=>?_))
 ·refine wp_skip (then_normal (wp_seq (wp_block (wp_seq (sqr ?_)))))
  refine sql (.pointer (some ((ad EA).add (i*3)))) hst7 (fun cx=>run_indexSlM (e:=89) (m:=i) (sz:=3) rfl (by kernel_rfl) (by kernel_rfl) (cx.ou 10) (cx.ou 12) (by omega) (by omega) (hE.ext cx.upd.to_ext) (flatPos (sz:=3) enC_len (by decide) (by omega))) ?_
  refine sql (.agg #[.string ((es.getD i en0).1),vi (((es.getD i en0).2.1:Int)),vi ((es.getD i en0).2.2)]) hst7 (fun cx=>run_loadElt (f:=enC) (m:=i) (sz:=3) (off:=0) (n:=3) rfl (by kernel_rfl) (by kernel_rfl) (cx.ou 14) rfl enC_len (hE.ext cx.upd.to_ext) (en_get (by omega)) (fun k hk=>match k,hk with | 0, _=>rfl | 1, _=>rfl | 2, _=>rfl | k+3,hk=>absurd hk (by omega))) ?_
  refine sqal #[.string ByteArray.empty,vi 0,vi 0] hst7 fun B6_12 W12 hst12=>?_
  refine sqst (n:=3) 1 #[.string ((es.getD i en0).1),vi (((es.getD i en0).2.1:Int)),vi ((es.getD i en0).2.2)] hst12 fun W13 hst13=>?_
  refine then_normal (wp_seq (sqr (sqp [.m 16 1] ?_)))
  refine sqv (.func (.func 127) #[] #[vp B6_12]) hst13 (by
    exact sv0 rfl rfl rfl rfl rfl (fun _ _ _ h=>h) fun ρ β W X cx=>by
     have fF6:ρ (.tmp 6)=vp B6_12:=(cx.ou 6)
     simp [go_sem,Instr.makeFunc,fF6]) fun W15 hst15=>?_
  refine sqk (vi ((ldI (xs.map pgN) ((es.getD i en0).2.2)))) hst15 (fun cx=>⟨_,kidxn_kid (hB.ext cx.upd.to_ext) hbl (cx.bi 1 rfl),(map2 (cx.ou 16) (cx.ou 17))⟩) fun W16 hst16=>?_
  refine sqp [.m 7 18] ?_
  refine then_normal (wp_seq ?_)
  obtain ⟨ix,hN_ix⟩:∃ z,(ldI (xs.map pgN) ((es.getD i en0).2.2))=z:=⟨_,rfl⟩
  rw [hN_ix]
  have hix:=idxP_lt (fun m:Int×NoD=>m.1==(es.getD i en0).2.2) (xs.map pgN) 0 (by omega)
  rw [show idxP (fun m:Int×NoD=>m.1==(es.getD i en0).2.2) 0 (xs.map pgN)=ix from hN_ix,List.length_map] at hix
  refine sqr (sqk (.string leastB) hst16 (fun cx=>⟨_,kleast_any _,map0⟩) fun W18 hst18=>?_)
  refine sqp [.m 8 19] ?_
  refine then_normal ?_
  refine wp_cutT (fun t_ az W=>∃ wt:ByteArray,wt=ldW (xs.map pgN) ix∧az=⟨(ovr (jv az) [(8,8,0,[.string wt]),(11,20,8,[])] t_).toArray,[]⟩∧St w [] [eB B2_1 84 #[vi pg,vi lv,vi rt, .string hg, .bool dd, .slice EA n ec,vi fr],eB B6_12 89 #[.string ((es.getD i en0).1),vi (((es.getD i en0).2.1:Int)),vi ((es.getD i en0).2.2)]] W) ?_ ?_
  ·refine wp_seq (sqr (sqp [.m 20 7, .k 21 (.bool (decide (0 < ix)))] ?_))
   refine then_normal (wds (fun hs23 hs23p=>?_) fun hs23 hs23p=>?_)
   ·refine sqr (sqp [.m 22 1, .m 23 7,sI 24 (ix - 1) (by omega)] ?_)
    refine sql (.pointer (some ((ad BA).add (((ix - 1).toNat)*7)))) hst18 (fun cx=>run_indexSlM (e:=84) (m:=(ix - 1).toNat) (sz:=7) rfl (by kernel_rfl) (by kernel_rfl) (cx.ou 22) (cx.ou 24) (by omega) (by omega) (hB.ext cx.upd.to_ext) (flatPos (sz:=7) ynC_len (by decide) (by omega))) ?_
    refine sql (.pointer (some ((ad BA).add (((ix - 1).toNat)*7+3)))) hst18 (fun cx=>run_fieldAd rfl (by kernel_rfl) (cx.ou 25)) ?_
    refine sql (.string ((xs.getD ((ix - 1).toNat) yn0).1.high)) hst18 (fun cx=>run_load1 rfl (by kernel_rfl) (cx.ou 26) (At.eltc (f:=ynC) (k:=3) ynC_len (hB.ext cx.upd.to_ext) (yn_get (by omega)) rfl)) ?_
    refine sqp [.m 8 27] ?_
    refine then_normal ?_
    exact ⟨((xs.getD ((ix - 1).toNat) yn0).1.high),by rw [ldW,if_pos (by omega)]; rw [getD_pgN]; rfl,(by kernel_rfl),hst18.pk [0,1]⟩
   refine wp_skip (then_normal ?_)
   exact ⟨leastB,by rw [ldW,if_neg (by omega)],(by kernel_rfl),hst18.pk [0,1]⟩
  rintro a20 W20 ⟨wt,hwt,hj_,hst20⟩
  refine ovz hj_ fun u20_=>?_
  refine wp_seq (sqr (sqp [.m 28 7, .k 29 (.bool (decide (ix < 0))), .m 30 29] ?_))
  refine sqw' 30 [31,32,33,34] ?_ rfl (fun hq=>?_) ?_
  rotate_left
  ·refine sqp [.k 31 (vp B6_12)] ?_
   refine sqld 1 hst20 ?_
   refine sqp [.m 33 8, .k 34 (.bool (!(((es.getD i en0).1).toList==wt.toList)))] ?_
   exact sqe
  refine sqwx ?_
  refine sqp [sPo 35 (decide (ix < 0)) (!(((es.getD i en0).1).toList==wt.toList))] ?_
  refine then_normal (wbs (fun hs39=>?_) fun hs39=>?_)
  ·have hs39p:=hs39
   simp only [zB] at hs39p
   refine wp_seq (sqr (sqp [.k 4 (.bool false)] ?_))
   refine then_normal (wp_ret (blk_ret (then_ret (then_ret (blk_ret (then_ret ?_))))))
   refine bpr (.bool false) (results_1 Tryz.results107 rpt) ?_
   exact Ret.bool (by rw [ldF,hn,all_fail (i:=i) (by omega) (by rw [show ldS (xs.map pgN) (es.getD i en0)=true by rw [ldS,hN_ix,← hwt]; exact hs39]; rfl),Bool.false_and]) hst20.ext
  have hs39p:=hs39
  simp only [zB] at hs39p
  obtain ⟨hs39p1,hs39p2⟩:=hs39p
  refine wp_skip (blk_normal (then_normal (sqr (sqp [sI 36 ((i:Int)+1) (by omega), .m 12 36] ?_))))
  refine then_normal ?_
  refine ⟨n - ((i+1)),by omega,?_⟩
  exact ⟨(i+1),by omega,all_step hall (by rw [show ldS (xs.map pgN) (es.getD i en0)=false by rw [ldS,hN_ix,← hwt]; exact hs39]; rfl),rfl,(by kernel_rfl),hst20.pk [0]⟩
 refine wp_exit (then_exit (then_exit (blk_eq (then_normal (wp_seq (sqr (sqp [.k 37 (.pointer (some ⟨B2_1,5,none⟩))] ?_)))))))
 refine sqld 0 hst7 ?_
 refine sqp [.k 39 (vi ((n:Int))), .k 40 (.bool (decide (0 < (n:Int)))), .m 4 40] ?_
 refine then_normal (wp_ret ?_)
 refine bpr (.bool (decide (0 < (n:Int)))) (results_1 Tryz.results107 rpt) ?_
 exact Ret.bool (by rw [ldF,hn,show n=i by omega,hall,Bool.true_and]) hst7.ext
/-- right: what fails at a node -/
def rgA (n:NoD) (last:Bool) (lo:ByteArray):Bool:=n.dead||decide (8 < (n.es.length:Int))||(last != (n.high.toList==(⟨#[]⟩:ByteArray).toList))||(last != decide (n.right < 0))||!(srF n.high lo n.es)
def rgB (n:NoD) (i:Nat) (Lb:List (Int×NoD)):Bool:=decide (0 < n.lv)&&(!(ldF Lb n.es)||(((i:Int)==0)&&((n.es.getD 0 en0).2.2 != (Lb.getD 0 (0,nodZ)).1)))
def rgC (n:NoD) (lo:ByteArray):Bool:=(neB lo&&neB n.high)&&lessF n.high lo
def lowF (L:List (Int×NoD)) (i:Nat):ByteArray:=if i=0 then ⟨#[]⟩ else (L.getD (i - 1) (0,nodZ)).2.high
def rgX (L Lb:List (Int×NoD)) (i:Nat):Bool:=rgA (L.getD i (0,nodZ)).2 ((i:Int)==(L.length:Int) - 1) (lowF L i)||rgB (L.getD i (0,nodZ)).2 i Lb||rgC (L.getD i (0,nodZ)).2 (lowF L i)
def rgF (L Lb:List (Int×NoD)):Bool:=((List.range L.length).all fun i=>!rgX L Lb i)&&(decide (0 < (L.length:Int))&&decide ((L.length:Int)≤400))
theorem ld_pos {L:List (Int×NoD)} {es:List EnD} (h:ldF L es=true):0 < L.length∧0 < es.length:=by
 rw [ldF,Bool.and_eq_true] at h
 have h2:0 < es.length:=by have:=of_decide_eq_true h.2; omega
 refine ⟨?_,h2⟩
 have h1:=List.all_eq_true.1 h.1 0 (List.mem_range.2 h2)
 have h3:ldS L (es.getD 0 en0)=false:=by simpa using h1
 rw [ldS,Bool.or_eq_false_iff] at h3
 have h4:=of_decide_eq_false h3.1
 have h5:=idxP_lt (fun m:Int×NoD=>m.1==(es.getD 0 en0).2.2) L 0 (by omega)
 rw [ldI] at h4
 omega
theorem rgx_eq {xs ys:List YnD} {i:Nat} {y:YnD} {lo:ByteArray} (h:(xs.map pgN).getD i (0,nodZ)=pgN y) (hl:lo=lowF (xs.map pgN) i):rgX (xs.map pgN) (ys.map pgN) i=(rgA y.1 ((i:Int)==(xs.length:Int) - 1) lo||rgB y.1 i (ys.map pgN)||rgC y.1 lo):=by rw [rgX,h,← hl,List.length_map]; rfl
theorem low_sz {xs:List YnD} (h:∀ y∈xs,NdOk y.1) (i:Nat):(lowF (xs.map pgN) i).size≤900000:=by
 unfold lowF; split
 ·exact Nat.zero_le _
 ·rw [getD_pgN,List.getD_eq_getElem?_getD]
  cases hx:xs[i - 1]? with
  | none=>exact Nat.zero_le _
  | some y=>exact (h y (List.mem_of_getElem? hx)).hi
theorem kright_g (SA BA:Option Addr) (sc bc:Nat) (xs ys:List YnD) (w:World) (hS:At w SA (xs.flatMap ynC)) (hR:∀ y∈xs,At w y.2.2.1 (y.1.es.flatMap enC)) (hB:At w BA (ys.flatMap ynC)) (hN:∀ y∈xs,NdOk y.1) (hxl:xs.length≤1000) (hyl:ys.length≤1000):
  Calls Tryz.prog 66 #[.slice SA xs.length sc, .slice BA ys.length bc] w (Ret (.bool (rgF (xs.map pgN) (ys.map pgN))) w):=by
 go_enter Tryz.func66,Tryz.ntmps66
 have hst0:=St.start w
 refine wp_seq (sqr (sqp [.k 4 (.bool false)] ?_))
 refine then_normal (wp_seq (sqr (sqp [.k 5 (.string ⟨#[]⟩)] ?_)))
 refine then_normal (wp_seq (wp_seq (sqr (sqp [.m 9 0, .k 10 (vi ((xs.length:Int))), .k 11 (vi 0)] ?_))))
 refine then_normal (wp_block ?_)
 refine wp_loopT (fun t_ mz az W=>∃ i:Nat,∃ lo:ByteArray,i≤xs.length∧lo=lowF (xs.map pgN) i∧(List.range i).all (fun i=>!rgX (xs.map pgN) (ys.map pgN) i)=true∧mz=xs.length - i∧az=⟨(ovr (jv az) [(4,4,1,[.string lo]),(0,6,3,[]),(2,11,0,[vi ((i:Int))]),(0,12,73,[])] t_).toArray,[]⟩∧St w [] [] W) (xs.length - 0) ?_ ?_
 · -- the loop begins
   exact ⟨0,(⟨#[]⟩:ByteArray),Nat.zero_le _,rfl,rfl,rfl,(by kernel_rfl),hst0.pk []⟩
 rintro n6 a6 W6 ⟨i,lo,hi,hlo,hall,rfl,hj_,hst6⟩
 refine ovz hj_ fun u6_=>?_
 refine wp_seq (sqr (sqp [.k 12 (.bool (decide ((i:Int) < (xs.length:Int))))] ?_))
 refine then_normal (wp_seq (wds (fun hs8 hs8p=>?_) fun hs8 hs8p=>?_))
 ·refine wp_skip (then_normal (wp_seq (wp_block (wp_seq ?_))))
  obtain ⟨y_,hy_⟩:∃ z,xs[i]? =some z:=⟨_,yn_get (by omega)⟩
  have hym_:=List.mem_of_getElem? hy_
  have hRy:=hR y_ hym_
  have hNy:=hN y_ hym_
  have hN1:=hNy.len
  have hN2:=hNy.lv
  have hN3:=hNy.rt
  have hN4:=hNy.hi
  have hNz:∀ e∈y_.1.es,e.1.size≤1000000:=fun e he=>Nat.le_trans (hNy.es e he) (by decide)
  have hloz:lo.size≤900000:=by rw [hlo]; exact low_sz hN i
  have hgd:(xs.map pgN).getD i (0,nodZ)=pgN y_:=by rw [getD_pgN,List.getD_eq_getElem?_getD,hy_]; rfl
  refine sqr (sqp [.m 13 11] ?_)
  refine sql (.pointer (some ((ad SA).add (i*7)))) hst6 (fun cx=>run_indexSlM (e:=84) (m:=i) (sz:=7) rfl (by kernel_rfl) (by kernel_rfl) (cx.ou 9) (cx.ou 11) (by omega) (by omega) (hS.ext cx.upd.to_ext) (flatPos (sz:=7) ynC_len (by decide) (by omega))) ?_
  refine sql (.agg #[vi y_.2.1,vi y_.1.lv,vi y_.1.right, .string y_.1.high, .bool y_.1.dead, .slice y_.2.2.1 y_.1.es.length y_.2.2.2,vi ((y_.1.free:Int))]) hst6 (fun cx=>run_loadElt (f:=ynC) (m:=i) (sz:=7) (off:=0) (n:=7) rfl (by kernel_rfl) (by kernel_rfl) (cx.ou 14) rfl ynC_len (hS.ext cx.upd.to_ext) hy_ (fun k hk=>match k,hk with | 0, _=>rfl | 1, _=>rfl | 2, _=>rfl | 3, _=>rfl | 4, _=>rfl | 5, _=>rfl | 6, _=>rfl | k+7,hk=>absurd hk (by omega))) ?_
  refine sqal #[vi 0,vi 0,vi 0, .string ByteArray.empty, .bool false, .slice none 0 0,vi 0] hst6 fun B7_12 W12 hst12=>?_
  refine sqp [.m 6 13] ?_
  refine sqst (n:=7) 0 #[vi y_.2.1,vi y_.1.lv,vi y_.1.right, .string y_.1.high, .bool y_.1.dead, .slice y_.2.2.1 y_.1.es.length y_.2.2.2,vi ((y_.1.free:Int))] hst12 fun W14 hst14=>?_
  refine then_normal (wp_seq (sqr (sqp [.m 16 6, .m 17 0, .k 18 (vi ((xs.length:Int))),sI 19 ((xs.length:Int) - 1) (by omega), .k 20 (.bool ((i:Int)==((xs.length:Int) - 1))), .m 8 20] ?_)))
  refine then_normal (wp_seq (wp_block (wp_seq (wp_seq (sqr (sqp [.k 22 (.pointer (some ⟨B7_12,4,none⟩))] ?_))))))
  refine sqld 0 hst14 ?_
  refine sqp [.m 21 23] ?_
  refine then_normal (wbs (fun hs24=>?_) fun hs24=>?_)
  ·refine wp_skip (then_normal (wct hs24 (wp_seq (sqr (sqp [.k 4 (.bool false)] ?_)))))
   refine then_normal (wp_ret (blk_ret (then_ret (blk_ret (then_ret (then_ret (blk_ret (then_ret ?_))))))))
   refine bpr (.bool false) (results_1 Tryz.results66 rpt) ?_
   exact Ret.bool (by rw [rgF,all_fail (i:=i) (by rw [List.length_map]; omega) (by rw [rgx_eq hgd hlo]; simp only [rgA,rgB,rgC,neB,bne,getD_pgN,pgN,hs24,Bool.or_false,Bool.false_or,Bool.not_true,Bool.not_false,Bool.or_true,Bool.true_or,Bool.and_true,Bool.true_and,Bool.and_false,Bool.false_and]),Bool.false_and]) hst14.ext
  refine wp_seq (sqr (sqp [.k 24 (.pointer (some ⟨B7_12,5,none⟩))] ?_))
  refine sqld 0 hst14 ?_
  refine sqp [.k 26 (vi ((y_.1.es.length:Int))), .k 27 (.bool (decide (8 < (y_.1.es.length:Int)))), .m 21 27] ?_
  refine then_normal (wds (fun hs31 hs31p=>?_) fun hs31 hs31p=>?_)
  ·refine wp_skip (then_normal (wct hs31 (wp_seq (sqr (sqp [.k 4 (.bool false)] ?_)))))
   refine then_normal (wp_ret (blk_ret (then_ret (blk_ret (then_ret (then_ret (blk_ret (then_ret ?_))))))))
   refine bpr (.bool false) (results_1 Tryz.results66 rpt) ?_
   exact Ret.bool (by rw [rgF,all_fail (i:=i) (by rw [List.length_map]; omega) (by rw [rgx_eq hgd hlo]; simp only [rgA,rgB,rgC,neB,bne,getD_pgN,pgN,hs24,hs31,Bool.or_false,Bool.false_or,Bool.not_true,Bool.not_false,Bool.or_true,Bool.true_or,Bool.and_true,Bool.true_and,Bool.and_false,Bool.false_and]),Bool.false_and]) hst14.ext
  refine wp_seq (sqr (sqp [.m 28 8, .k 29 (.pointer (some ⟨B7_12,3,none⟩))] ?_))
  refine sqld 0 hst14 ?_
  refine sqp [.k 31 (.bool (y_.1.high.toList==((⟨#[]⟩:ByteArray)).toList))] ?_
  refine sqv (.bool (!(((i:Int)==((xs.length:Int) - 1))==(y_.1.high.toList==((⟨#[]⟩:ByteArray)).toList)))) hst14 (by
    exact sv0 rfl rfl rfl rfl rfl (fun _ _ _ h=>h) fun ρ β W X cx=>by
     have fF28:ρ (.tmp 28)= .bool ((i:Int)==((xs.length:Int) - 1)):=(cx.ou 28)
     have fF31:ρ (.tmp 31)= .bool (y_.1.high.toList==((⟨#[]⟩:ByteArray)).toList):=(cx.ou 31)
     simp [go_sem,fF28,fF31]) fun W37 hst37=>?_
  refine sqp [.m 21 32] ?_
  refine then_normal ?_
  rcases Bool.eq_false_or_eq_true (((i:Int)==((xs.length:Int) - 1))==(y_.1.high.toList==((⟨#[]⟩:ByteArray)).toList)) with hs39 | hs39
  ·refine wp_cond_false (show Act.eval _ _= .bool false from (congrArg Value.bool (by rw [hs39]; rfl))) (wp_seq (sqr (sqp [.m 33 8, .k 34 (.pointer (some ⟨B7_12,2,none⟩))] ?_)))
   refine sqld 0 hst37 ?_
   refine sqp [.k 36 (.bool (decide (y_.1.right < 0)))] ?_
   refine sqv (.bool (!(((i:Int)==((xs.length:Int) - 1))==(decide (y_.1.right < 0))))) hst37 (by
     exact sv0 rfl rfl rfl rfl rfl (fun _ _ _ h=>h) fun ρ β W X cx=>by
      have fF33:ρ (.tmp 33)= .bool ((i:Int)==((xs.length:Int) - 1)):=(cx.ou 33)
      have fF36:ρ (.tmp 36)= .bool (decide (y_.1.right < 0)):=(cx.ou 36)
      simp [go_sem,fF33,fF36]) fun W44 hst44=>?_
   refine sqp [.m 21 37] ?_
   refine then_normal ?_
   rcases Bool.eq_false_or_eq_true (((i:Int)==((xs.length:Int) - 1))==(decide (y_.1.right < 0))) with hs46 | hs46
   ·have hs46p:=beq_iff_eq.1 hs46
    refine wp_cond_false (show Act.eval _ _= .bool false from (congrArg Value.bool (by rw [hs46]; rfl))) (sqr ?_)
    refine sqlb 0 7 hst44 ?_
    refine sqp [.m 39 5] ?_
    refine sqk (.bool (srF y_.1.high lo y_.1.es)) hst44 (fun cx=>⟨_,ksorted_g _ _ _ _ _ _ _ _ _ y_.1.es lo _ (hRy.ext cx.upd.to_ext) rfl (by omega) hNz (by omega) (by omega),(map2 (cx.ou 38) (cx.ou 39))⟩) fun W49 hst49=>?_
    refine sqp [.k 41 (.bool (!(srF y_.1.high lo y_.1.es))), .m 21 41] ?_
    refine then_normal ?_
    rcases Bool.eq_false_or_eq_true (srF y_.1.high lo y_.1.es) with hs52 | hs52
    ·refine wp_cond_false (show Act.eval _ _= .bool false from (congrArg Value.bool (by rw [hs52]; rfl))) (wp_seq ?_)
     rcases hlv_:decide (0 < y_.1.lv) with _ | _
     rotate_left
     rcases hlq_:ldF (ys.map pgN) y_.1.es with _ | _
     ·refine wp_region_Z [0,1,3,7,15,15,63,127,255,511,1023,2047,4095,8191,16383,32767,65535,4095,135167,397311,921599,2097151,4194303,8388607,16777215,33554431] [[],[0],[],[],[0]] [.k 43 (.pointer (some ⟨B7_12,1,none⟩)), .c 44 (vi y_.1.lv), .e 45 (.bool (decide (0 < y_.1.lv))) (.bool true) (congrArg Value.bool hlv_), .k 46 (.bool true), .c 47 (.agg #[vi y_.2.1,vi y_.1.lv,vi y_.1.right, .string y_.1.high, .bool y_.1.dead, .slice y_.2.2.1 y_.1.es.length y_.2.2.2,vi ((y_.1.free:Int))]), .k 48 (.slice BA ys.length bc), .c 49 (.bool false), .k 50 (.bool true), .k 51 (.bool true), .u 52, .u 53, .u 54, .u 55, .u 56, .u 57, .u 58, .u 59, .u 60, .u 61, .u 62, .u 63, .u 64, .u 65, .k 66 (.bool true), .k 67 (.bool true), .k 42 (.bool true)] [0] [1,4,6] [(42,25,1,43),(0,0,25,25)] hst49 ?_ fun W53 hst53=>?_
      ·refine ⟨?_,?_,?_,trivial⟩
       ·exact xs4 rfl id fun cx=>run_load1 rfl (by kernel_rfl) (cx.an 0) ((cx.bi 0 rfl).cell 1)
       ·exact xs5 rfl id (fun cx=>(cx.an 3)) fun cx=>run_loadB (n:=7) rfl (by kernel_rfl) (by kernel_rfl) (cx.ou 7) (cx.bi 0 rfl) (nle rfl) rfl
       ·exact sv_call_on rfl rfl rfl rfl rfl rfl (fun _ _ _ h=>h.trans (congrArg Value.bool hlq_)) (fun _ _ _ _ cx=>(cx.an 3)) fun ρ β W X cx=>⟨_, _,run_callF (args:=#[.agg #[vi y_.2.1,vi y_.1.lv,vi y_.1.right, .string y_.1.high, .bool y_.1.dead, .slice y_.2.2.1 y_.1.es.length y_.2.2.2,vi ((y_.1.free:Int))], .slice BA ys.length bc]) rfl cx.sees rfl (by kernel_rfl) (map2 (cx.an 4) (cx.an 5)),kleads_g _ _ _ _ _ _ _ _ _ y_.1.es BA bc ys _ (hRy.ext cx.upd.to_ext) rfl (by omega) (hB.ext cx.upd.to_ext) (by omega)⟩
      refine then_normal (wct rfl (wp_seq (sqr (sqp [.k 4 (.bool false)] ?_))))
      refine then_normal (wp_ret (blk_ret (then_ret (blk_ret (then_ret (then_ret (blk_ret (then_ret ?_))))))))
      refine bpr (.bool false) (results_1 Tryz.results66 rpt) ?_
      exact Ret.bool (by rw [rgF,all_fail (i:=i) (by rw [List.length_map]; omega) (by rw [rgx_eq hgd hlo]; simp only [rgA,rgB,rgC,neB,bne,getD_pgN,pgN,hs24,hs31,hs39,hs46,hs52,hlv_,hlq_,Bool.or_false,Bool.false_or,Bool.not_true,Bool.not_false,Bool.or_true,Bool.true_or,Bool.and_true,Bool.true_and,Bool.and_false,Bool.false_and]),Bool.false_and]) hst53.ext
     ·have hlp_:=ld_pos hlq_
      rw [List.length_map] at hlp_
      have hlp1_:=hlp_.1
      have hlp2_:=hlp_.2
      refine wp_region_Z [0,1,3,7,15,15,63,127,255,511,1023,2047,4095,8191,16383,32767,65535,4095,135167,397311,921599,2097151,4194303,8388607,16777215,33554431] [[],[0],[],[],[0],[],[],[],[],[],[],[],[],[0]] [.k 43 (.pointer (some ⟨B7_12,1,none⟩)), .c 44 (vi y_.1.lv), .e 45 (.bool (decide (0 < y_.1.lv))) (.bool true) (congrArg Value.bool hlv_), .k 46 (.bool true), .c 47 (.agg #[vi y_.2.1,vi y_.1.lv,vi y_.1.right, .string y_.1.high, .bool y_.1.dead, .slice y_.2.2.1 y_.1.es.length y_.2.2.2,vi ((y_.1.free:Int))]), .k 48 (.slice BA ys.length bc), .c 49 (.bool true), .k 50 (.bool false), .k 51 (.bool false), .k 52 (vi ((i:Int))), .k 53 (.bool ((i:Int)==0)), .k 54 (.bool ((i:Int)==0)), .z 55 ((i:Int)==0) (.pointer (some ⟨B7_12,5,none⟩)), .y 56 ((i:Int)==0) (.slice y_.2.2.1 y_.1.es.length y_.2.2.2), .y 57 ((i:Int)==0) (.pointer (some ((ad y_.2.2.1).add (0*3)))), .y 58 ((i:Int)==0) (.pointer (some ((ad y_.2.2.1).add (0*3+2)))), .y 59 ((i:Int)==0) (vi ((y_.1.es.getD 0 en0).2.2)), .z 60 ((i:Int)==0) (.slice BA ys.length bc), .y 61 ((i:Int)==0) (.pointer (some ((ad BA).add (0*7)))), .y 62 ((i:Int)==0) (.pointer (some ((ad BA).add (0*7+0)))), .y 63 ((i:Int)==0) (vi ((ys.getD 0 yn0).2.1)), .z 64 ((i:Int)==0) (.bool (((y_.1.es.getD 0 en0).2.2) != ((ys.getD 0 yn0).2.1))),tA 65 ((i:Int)==0) (((y_.1.es.getD 0 en0).2.2) != ((ys.getD 0 yn0).2.1)), .k 66 (.bool (((i:Int)==0)&&(((y_.1.es.getD 0 en0).2.2) != ((ys.getD 0 yn0).2.1)))), .k 67 (.bool (((i:Int)==0)&&(((y_.1.es.getD 0 en0).2.2) != ((ys.getD 0 yn0).2.1)))), .k 42 (.bool (((i:Int)==0)&&(((y_.1.es.getD 0 en0).2.2) != ((ys.getD 0 yn0).2.1))))] [0] [1,4,6,13,14,15,16,18,19,20] [(42,25,1,43),(0,0,25,25)] hst49 ?_ fun W55 hst55=>?_
      ·refine ⟨?_,?_,?_,?_,?_,?_,?_,?_,?_,?_,trivial⟩
       ·exact xs4 rfl id fun cx=>run_load1 rfl (by kernel_rfl) (cx.an 0) ((cx.bi 0 rfl).cell 1)
       ·exact xs5 rfl id (fun cx=>(cx.an 3)) fun cx=>run_loadB (n:=7) rfl (by kernel_rfl) (by kernel_rfl) (cx.ou 7) (cx.bi 0 rfl) (nle rfl) rfl
       ·exact sv_call_on rfl rfl rfl rfl rfl rfl (fun _ _ _ h=>h.trans (congrArg Value.bool hlq_)) (fun _ _ _ _ cx=>(cx.an 3)) fun ρ β W X cx=>⟨_, _,run_callF (args:=#[.agg #[vi y_.2.1,vi y_.1.lv,vi y_.1.right, .string y_.1.high, .bool y_.1.dead, .slice y_.2.2.1 y_.1.es.length y_.2.2.2,vi ((y_.1.free:Int))], .slice BA ys.length bc]) rfl cx.sees rfl (by kernel_rfl) (map2 (cx.an 4) (cx.an 5)),kleads_g _ _ _ _ _ _ _ _ _ y_.1.es BA bc ys _ (hRy.ext cx.upd.to_ext) rfl (by omega) (hB.ext cx.upd.to_ext) (by omega)⟩
       ·exact m2 rfl (fun _ _ _ h=>h) (fun cx=>(cx.an 11)) fun cx hq=>run_load1 rfl (by kernel_rfl) (mbv (cx.an 12) hq) ((cx.bi 0 rfl).cell 5)
       ·exact m2 rfl (fun _ _ _ h=>h) (fun cx=>(cx.an 11)) fun cx hq=>run_indexSlM (e:=89) (m:=0) (sz:=3) rfl (by kernel_rfl) (by kernel_rfl) (mbv (cx.an 13) hq) (cx.co _) (by have hq_:=hq; simp only [zB] at hq_; omega) (by have hq_:=hq; simp only [zB] at hq_; omega) (hRy.ext cx.upd.to_ext) (flatPos (sz:=3) enC_len (by decide) (by have hq_:=hq; simp only [zB] at hq_; omega))
       ·exact m2 rfl (fun _ _ _ h=>h) (fun cx=>(cx.an 11)) fun cx hq=>run_fieldAd rfl (by kernel_rfl) (mbv (cx.an 14) hq)
       ·exact m2 rfl (fun _ _ _ h=>h) (fun cx=>(cx.an 11)) fun cx hq=>run_load1 rfl (by kernel_rfl) (mbv (cx.an 15) hq) (At.eltc (f:=enC) (k:=2) enC_len (hRy.ext cx.upd.to_ext) (en_get (by have hq_:=hq; simp only [zB] at hq_; omega)) rfl)
       ·exact m2 rfl (fun _ _ _ h=>h) (fun cx=>(cx.an 11)) fun cx hq=>run_indexSlM (e:=84) (m:=0) (sz:=7) rfl (by kernel_rfl) (by kernel_rfl) (mbv (cx.an 17) hq) (cx.co _) (by have hq_:=hq; simp only [zB] at hq_; omega) (by have hq_:=hq; simp only [zB] at hq_; omega) (hB.ext cx.upd.to_ext) (flatPos (sz:=7) ynC_len (by decide) (by have hq_:=hq; simp only [zB] at hq_; omega))
       ·exact m2 rfl (fun _ _ _ h=>h) (fun cx=>(cx.an 11)) fun cx hq=>run_fieldAd rfl (by kernel_rfl) (mbv (cx.an 18) hq)
       ·exact m2 rfl (fun _ _ _ h=>h) (fun cx=>(cx.an 11)) fun cx hq=>run_load1 rfl (by kernel_rfl) (mbv (cx.an 19) hq) (At.eltc (f:=ynC) (k:=0) ynC_len (hB.ext cx.upd.to_ext) (yn_get (by have hq_:=hq; simp only [zB] at hq_; omega)) rfl)
      refine then_normal (wbs (fun hs56=>?_) fun hs56=>?_)
      ·have hs56p:=hs56
       simp only [zB] at hs56p
       obtain ⟨hs56p1,hs56p2⟩:=hs56p
       refine wp_seq (sqr (sqp [.k 4 (.bool false)] ?_))
       refine then_normal (wp_ret (blk_ret (then_ret (blk_ret (then_ret (then_ret (blk_ret (then_ret ?_))))))))
       refine bpr (.bool false) (results_1 Tryz.results66 rpt) ?_
       simp only [bne] at hs56
       exact Ret.bool (by rw [rgF,all_fail (i:=i) (by rw [List.length_map]; omega) (by rw [rgx_eq hgd hlo]; simp only [rgA,rgB,rgC,neB,bne,getD_pgN,pgN,hs24,hs31,hs39,hs46,hs52,hlv_,hlq_,hs56,Bool.or_false,Bool.false_or,Bool.not_true,Bool.not_false,Bool.or_true,Bool.true_or,Bool.and_true,Bool.true_and,Bool.and_false,Bool.false_and]),Bool.false_and]) hst55.ext
      have hs56p:=hs56
      simp only [zB] at hs56p
      refine wp_seq (sqr (sqp [.m 69 5, .k 70 (.bool (!(lo.toList==((⟨#[]⟩:ByteArray)).toList))), .m 71 70] ?_))
      refine sqw' 71 [72,73,74] ?_ rfl (fun hq=>?_) ?_
      rotate_left
      ·refine sqp [.k 72 (.pointer (some ⟨B7_12,3,none⟩))] ?_
       refine sqld 0 hst55 ?_
       refine sqp [.k 74 (.bool (!(y_.1.high.toList==((⟨#[]⟩:ByteArray)).toList)))] ?_
       exact sqe
      refine sqwx ?_
      refine sqp [sPa 75 (!(lo.toList==((⟨#[]⟩:ByteArray)).toList)) (!(y_.1.high.toList==((⟨#[]⟩:ByteArray)).toList)), .m 76 75] ?_
      refine sqwW 76 [77,78,79,80] ?_ hst55 rfl (fun hq=>?_) fun W70 hst70=>?_
      rotate_left
      ·have hq_:=hq
       try simp only [zB] at hq_
       refine sqp [.k 77 (.pointer (some ⟨B7_12,3,none⟩))] ?_
       refine sqld 0 hst55 ?_
       refine sqp [.m 79 5] ?_
       refine sqk (.bool (lessF y_.1.high lo)) hst55 (fun cx=>⟨_,kless_any y_.1.high lo _ (by omega) (by omega),(map2 (cx.ou 78) (cx.ou 79))⟩) fun W69 hst69=>?_
       exact sqE hst69
      refine sqwx ?_
      refine sqp [sPa 81 ((!(lo.toList==((⟨#[]⟩:ByteArray)).toList))&&(!(y_.1.high.toList==((⟨#[]⟩:ByteArray)).toList))) (lessF y_.1.high lo), .m 68 81] ?_
      refine then_normal (wbs (fun hs73=>?_) fun hs73=>?_)
      ·have hs73p:=hs73
       simp only [zB] at hs73p
       obtain ⟨⟨hs73p1,hs73p2⟩,hs73p3⟩:=hs73p
       refine wp_seq (sqr (sqp [.k 4 (.bool false)] ?_))
       refine then_normal (wp_ret (blk_ret (then_ret (blk_ret (then_ret (then_ret (blk_ret (then_ret ?_))))))))
       refine bpr (.bool false) (results_1 Tryz.results66 rpt) ?_
       simp only [bne] at hs56
       exact Ret.bool (by rw [rgF,all_fail (i:=i) (by rw [List.length_map]; omega) (by rw [rgx_eq hgd hlo]; simp only [rgA,rgB,rgC,neB,bne,getD_pgN,pgN,hs24,hs31,hs39,hs46,hs52,hlv_,hlq_,hs56,hs73,Bool.or_false,Bool.false_or,Bool.not_true,Bool.not_false,Bool.or_true,Bool.true_or,Bool.and_true,Bool.true_and,Bool.and_false,Bool.false_and]),Bool.false_and]) hst70.ext
      have hs73p:=hs73
      simp only [zB] at hs73p
      refine wp_skip (blk_normal (then_normal (sqr (sqp [.k 82 (.pointer (some ⟨B7_12,3,none⟩))] ?_))))
      refine sqld 0 hst70 ?_
      refine sqp [.m 5 83] ?_
      refine blk_normal (then_normal (sqr (sqp [sI 84 ((i:Int)+1) (by omega), .m 11 84] ?_)))
      refine then_normal ?_
      simp only [bne] at hs56
      refine ⟨xs.length - ((i+1)),by omega,?_⟩
      exact ⟨(i+1),y_.1.high,by omega,by rw [lowF,if_neg (by omega),Nat.add_sub_cancel,hgd]; rfl,all_step hall (by rw [rgx_eq hgd hlo]; simp only [rgA,rgB,rgC,neB,bne,getD_pgN,pgN,hs24,hs31,hs39,hs46,hs52,hlv_,hlq_,hs56,hs73,Bool.or_false,Bool.false_or,Bool.not_true,Bool.not_false,Bool.or_true,Bool.true_or,Bool.and_true,Bool.true_and,Bool.and_false,Bool.false_and]),rfl,(by kernel_rfl),hst70.pk []⟩
     ·refine wp_region_Z [0,1,3,7,15,15,63,127,255,511,1023,2047,4095,8191,16383,32767,65535,4095,135167,397311,921599,2097151,4194303,8388607,16777215,33554431] [[],[0]] [.k 43 (.pointer (some ⟨B7_12,1,none⟩)), .c 44 (vi y_.1.lv), .e 45 (.bool (decide (0 < y_.1.lv))) (.bool false) (congrArg Value.bool hlv_), .k 46 (.bool false), .u 47, .u 48, .u 49, .u 50, .u 51, .u 52, .u 53, .u 54, .u 55, .u 56, .u 57, .u 58, .u 59, .u 60, .u 61, .u 62, .u 63, .u 64, .u 65, .u 66, .k 67 (.bool false), .k 42 (.bool false)] [0] [1] [(42,25,1,43),(0,0,25,25)] hst49 ?_ fun W80 hst80=>?_
      ·refine ⟨?_,trivial⟩
       ·exact xs4 rfl id fun cx=>run_load1 rfl (by kernel_rfl) (cx.an 0) ((cx.bi 0 rfl).cell 1)
      refine then_normal (wcf rfl (wp_seq (sqr (sqp [.m 69 5, .k 70 (.bool (!(lo.toList==((⟨#[]⟩:ByteArray)).toList))), .m 71 70] ?_))))
      refine sqw' 71 [72,73,74] ?_ rfl (fun hq=>?_) ?_
      rotate_left
      ·refine sqp [.k 72 (.pointer (some ⟨B7_12,3,none⟩))] ?_
       refine sqld 0 hst80 ?_
       refine sqp [.k 74 (.bool (!(y_.1.high.toList==((⟨#[]⟩:ByteArray)).toList)))] ?_
       exact sqe
      refine sqwx ?_
      refine sqp [sPa 75 (!(lo.toList==((⟨#[]⟩:ByteArray)).toList)) (!(y_.1.high.toList==((⟨#[]⟩:ByteArray)).toList)), .m 76 75] ?_
      refine sqwW 76 [77,78,79,80] ?_ hst80 rfl (fun hq=>?_) fun W93 hst93=>?_
      rotate_left
      ·have hq_:=hq
       try simp only [zB] at hq_
       refine sqp [.k 77 (.pointer (some ⟨B7_12,3,none⟩))] ?_
       refine sqld 0 hst80 ?_
       refine sqp [.m 79 5] ?_
       refine sqk (.bool (lessF y_.1.high lo)) hst80 (fun cx=>⟨_,kless_any y_.1.high lo _ (by omega) (by omega),(map2 (cx.ou 78) (cx.ou 79))⟩) fun W92 hst92=>?_
       exact sqE hst92
      refine sqwx ?_
      refine sqp [sPa 81 ((!(lo.toList==((⟨#[]⟩:ByteArray)).toList))&&(!(y_.1.high.toList==((⟨#[]⟩:ByteArray)).toList))) (lessF y_.1.high lo), .m 68 81] ?_
      refine then_normal (wbs (fun hs96=>?_) fun hs96=>?_)
      ·have hs96p:=hs96
       simp only [zB] at hs96p
       obtain ⟨⟨hs96p1,hs96p2⟩,hs96p3⟩:=hs96p
       refine wp_seq (sqr (sqp [.k 4 (.bool false)] ?_))
       refine then_normal (wp_ret (blk_ret (then_ret (blk_ret (then_ret (then_ret (blk_ret (then_ret ?_))))))))
       refine bpr (.bool false) (results_1 Tryz.results66 rpt) ?_
       exact Ret.bool (by rw [rgF,all_fail (i:=i) (by rw [List.length_map]; omega) (by rw [rgx_eq hgd hlo]; simp only [rgA,rgB,rgC,neB,bne,getD_pgN,pgN,hs24,hs31,hs39,hs46,hs52,hlv_,hs96,Bool.or_false,Bool.false_or,Bool.not_true,Bool.not_false,Bool.or_true,Bool.true_or,Bool.and_true,Bool.true_and,Bool.and_false,Bool.false_and]),Bool.false_and]) hst93.ext
      have hs96p:=hs96
      simp only [zB] at hs96p
      refine wp_skip (blk_normal (then_normal (sqr (sqp [.k 82 (.pointer (some ⟨B7_12,3,none⟩))] ?_))))
      refine sqld 0 hst93 ?_
      refine sqp [.m 5 83] ?_
      refine blk_normal (then_normal (sqr (sqp [sI 84 ((i:Int)+1) (by omega), .m 11 84] ?_)))
      refine then_normal ?_
      refine ⟨xs.length - ((i+1)),by omega,?_⟩
      exact ⟨(i+1),y_.1.high,by omega,by rw [lowF,if_neg (by omega),Nat.add_sub_cancel,hgd]; rfl,all_step hall (by rw [rgx_eq hgd hlo]; simp only [rgA,rgB,rgC,neB,bne,getD_pgN,pgN,hs24,hs31,hs39,hs46,hs52,hlv_,hs96,Bool.or_false,Bool.false_or,Bool.not_true,Bool.not_false,Bool.or_true,Bool.true_or,Bool.and_true,Bool.true_and,Bool.and_false,Bool.false_and]),rfl,(by kernel_rfl),hst93.pk []⟩
    refine wp_cond_true (show Act.eval _ _= .bool true from (congrArg Value.bool (by rw [hs52]; rfl))) (wp_seq (sqr (sqp [.k 4 (.bool false)] ?_)))
    refine then_normal (wp_ret (blk_ret (then_ret (blk_ret (then_ret (then_ret (blk_ret (then_ret ?_))))))))
    refine bpr (.bool false) (results_1 Tryz.results66 rpt) ?_
    exact Ret.bool (by rw [rgF,all_fail (i:=i) (by rw [List.length_map]; omega) (by rw [rgx_eq hgd hlo]; simp only [rgA,rgB,rgC,neB,bne,getD_pgN,pgN,hs24,hs31,hs39,hs46,hs52,Bool.or_false,Bool.false_or,Bool.not_true,Bool.not_false,Bool.or_true,Bool.true_or,Bool.and_true,Bool.true_and,Bool.and_false,Bool.false_and]),Bool.false_and]) hst49.ext
   have hs46p:=beq_eq_false_iff_ne.1 hs46
   refine wp_cond_true (show Act.eval _ _= .bool true from (congrArg Value.bool (by rw [hs46]; rfl))) (wp_skip (then_normal (wp_cond_true (show Act.eval _ _= .bool true from (congrArg Value.bool (by rw [hs46]; rfl))) (wp_seq (sqr (sqp [.k 4 (.bool false)] ?_))))))
   refine then_normal (wp_ret (blk_ret (then_ret (blk_ret (then_ret (then_ret (blk_ret (then_ret ?_))))))))
   refine bpr (.bool false) (results_1 Tryz.results66 rpt) ?_
   exact Ret.bool (by rw [rgF,all_fail (i:=i) (by rw [List.length_map]; omega) (by rw [rgx_eq hgd hlo]; simp only [rgA,rgB,rgC,neB,bne,getD_pgN,pgN,hs24,hs31,hs39,hs46,Bool.or_false,Bool.false_or,Bool.not_true,Bool.not_false,Bool.or_true,Bool.true_or,Bool.and_true,Bool.true_and,Bool.and_false,Bool.false_and]),Bool.false_and]) hst44.ext
  refine wp_cond_true (show Act.eval _ _= .bool true from (congrArg Value.bool (by rw [hs39]; rfl))) (wp_skip (then_normal (wp_cond_true (show Act.eval _ _= .bool true from (congrArg Value.bool (by rw [hs39]; rfl))) (wp_seq (sqr (sqp [.k 4 (.bool false)] ?_))))))
  refine then_normal (wp_ret (blk_ret (then_ret (blk_ret (then_ret (then_ret (blk_ret (then_ret ?_))))))))
  refine bpr (.bool false) (results_1 Tryz.results66 rpt) ?_
  exact Ret.bool (by rw [rgF,all_fail (i:=i) (by rw [List.length_map]; omega) (by rw [rgx_eq hgd hlo]; simp only [rgA,rgB,rgC,neB,bne,getD_pgN,pgN,hs24,hs31,hs39,Bool.or_false,Bool.false_or,Bool.not_true,Bool.not_false,Bool.or_true,Bool.true_or,Bool.and_true,Bool.true_and,Bool.and_false,Bool.false_and]),Bool.false_and]) hst37.ext
 refine wp_exit (then_exit (then_exit (blk_eq (then_normal (wp_seq (sqr (sqp [.m 85 0, .k 86 (vi ((xs.length:Int))), .k 87 (.bool (decide (0 < (xs.length:Int)))), .m 88 87] ?_)))))))
 refine sqw 88 [89,90,91] rfl (fun _=>sqp [.m 89 0, .k 90 (vi ((xs.length:Int))), .k 91 (.bool (decide ((xs.length:Int)≤400)))] sqe) ?_
 refine sqp [sPa 92 (decide (0 < (xs.length:Int))) (decide ((xs.length:Int)≤400)), .m 4 92] ?_
 refine then_normal (wp_ret ?_)
 refine bpr (.bool ((decide (0 < (xs.length:Int)))&&(decide ((xs.length:Int)≤400)))) (results_1 Tryz.results66 rpt) ?_
 exact Ret.bool (by rw [rgF,List.length_map,show xs.length=i by omega,hall,Bool.true_and]) hst6.ext
end
section
open Go.RowKit
/-- the level below -/
def belowL (ps:List PgS) (root:Int):Nat→List (Int×NoD)
 | 0=>[]
 | k+1=>rowF ps root (k:Int)
/-- what fails at a level -/
def ckX (ps:List PgS) (root h:Int) (k:Nat):Bool:=(((k:Int)==h)&&(((rowF ps root (k:Int)).length:Int) != 1))||(decide (0 < (k:Int))&&(((belowL ps root k).length:Int)==0))||!(rgF (rowF ps root (k:Int)) (belowL ps root k))
def checkF (ps:List PgS) (root:Int):Int:=match ndAt ps root with
 | none=>22
 | some n=>if ((List.range (n.lv+1).toNat).all fun k=>!ckX ps root n.lv k) then 0 else 11
theorem row_nd {ps:List PgS} {root lv:Int}:∀ y∈rowF ps root lv,ndAt ps y.1=some y.2∧y.2.lv=lv:=fun y hy=>by
 unfold rowF at hy
 split at hy
 ·cases hy
 ·exact chn_at y hy
theorem below_len (ps:List PgS) (root:Int) (k:Nat):(belowL ps root k).length≤1000:=by
 cases k with
 | zero=>exact Nat.zero_le _
 | succ k=>exact row_len _ _ _
theorem kright_cl {SA BA:Option Addr} {sc bc:Nat} {L Lb:List (Int×NoD)} {fp fq:List Nat} {w:World} (h:(eCL SA L fp).holds w) (hb:(eCL BA Lb fq).holds w) (hN:∀ y∈L,NdOk y.2) (hl:L.length≤1000) (hlb:Lb.length≤1000):
  Calls Tryz.prog 66 #[.slice SA L.length sc, .slice BA Lb.length bc] w (Ret (.bool (rgF L Lb)) w):=by
 obtain ⟨xs,rfl, _,h1,h2⟩:=h
 obtain ⟨ys,rfl, _,h3, _⟩:=hb
 rw [List.length_map] at hl hlb ⊢
 rw [List.length_map]
 exact kright_g SA BA sc bc xs ys w h1 (fun y hy=>(h2 y hy).2) h3 (fun y hy=>hN (pgN y) (List.mem_map.2 ⟨y,hy,rfl⟩)) hl hlb
theorem St.cl0 {w W:World} {bor:List Nat} {L:List Ent} (h:St w bor L W):St w bor (L++[eCL none [] []]) W:=by
 refine ⟨h.upd,fun e he=>?_,List.pairwise_append.2 ⟨h.apart,List.pairwise_singleton _ _,fun a ha b hb k hk hkb=>?_⟩⟩
 ·rcases List.mem_append.1 he with he | he
  ·exact h.ok e he
  ·rw [List.mem_singleton] at he; subst he
   exact ⟨⟨[],rfl,(fun ad e=>nomatch e),At.nil _ _,fun y hy=>absurd hy (by simp)⟩,eCL_loc _ _ _,fun k hk=>by simp [eCL] at hk⟩
 ·rw [List.mem_singleton] at hb; subst hb; simp [eCL] at hkb
theorem ck_ok {ps:List PgS} {root:Int} {n:NoD} (h:ndAt ps root=some n) {k:Nat} (hk:(k:Int)=n.lv+1) (ha:(List.range k).all (fun k=>!ckX ps root n.lv k)=true):(0:Int)=checkF ps root:=by
 rw [checkF,h]
 dsimp only
 rw [show (n.lv+1).toNat=k by omega,if_pos ha]
theorem ck_bad {ps:List PgS} {root:Int} {n:NoD} (h:ndAt ps root=some n) {k:Nat} (hk:(k:Int) < n.lv+1) (ha:ckX ps root n.lv k=true):(11:Int)=checkF ps root:=by
 rw [checkF,h]
 dsimp only
 rw [all_fail (i:=k) (by omega) (by rw [ha]; rfl)]; rfl
theorem ck_none {ps:List PgS} {root:Int} (h:ndAt ps root=none):(22:Int)=checkF ps root:=by rw [checkF,h]
theorem kcheck_g (tt:TypeId) (tv:Value) (root:Int) (ps:List PgS) (w:World) (hS:PgsOk w tt tv ps) (hok:OkS ps) (hoc:OkC ps):
  Calls Tryz.prog 26 #[.iface tt (tv), .int .i64 root] w (Ret (.int .i64 (checkF ps root)) w):=by
 go_enter Tryz.func26,Tryz.ntmps26
 have hst0:=St.start w
 refine wp_seq (sqr (sqp [.k 4 (vi 0)] ?_))
 refine then_normal (wp_seq ?_)
 rcases hnd:ndAt ps root with _ | nd
 ·refine wp_region_Y [0,0,3,7,15,15,0,95,255] [[],[],[],[],[],[],[],[0]] [[],[],[],[],[],[],[0],[1]] [[],[],[],[],[],[],[],[0]] [.k 11 (.iface tt (tv)), .k 12 (vi root), .a 13, .a 10, .a 14, .c 15 (.bool false), .a 5, .n, .k 6 (.bool false)] (fun ix σ β X=>match ix with | 0=>True | 1=>True | 2=>σ 13= .tuple #[.agg #[vi (iv (tg (tg (β 13) 0) 0)),vi 0,vi 0, .string ((⟨#[]⟩:ByteArray)), .bool false, .slice none 0 0,vi 0], .bool false] | 3=>σ 10= .tuple #[.agg #[vi (iv (tg (tg (β 13) 0) 0)),vi 0,vi 0, .string ((⟨#[]⟩:ByteArray)), .bool false, .slice none 0 0,vi 0], .bool false] | 4=>σ 14= .agg #[vi (iv (tg (tg (β 13) 0) 0)),vi 0,vi 0, .string ((⟨#[]⟩:ByteArray)), .bool false, .slice none 0 0,vi 0] | 5=>True | 6=>σ 5=vp (pb (β 5))∧X 0=eB (pb (β 5)) 84 #[vi 0,vi 0,vi 0, .string ByteArray.empty, .bool false, .slice none 0 0,vi 0] | 7=>X 1=eB (pb (β 5)) 84 #[vi (iv (tg (tg (β 13) 0) 0)),vi 0,vi 0, .string ((⟨#[]⟩:ByteArray)), .bool false, .slice none 0 0,vi 0] | _=>True) [1] [2,3,4,5,6,7] [(5,6,3,7),(3,3,1,4),(0,0,3,3),(0,4,2,2)] hst0 ?_ ?_ ?_
  ·exact fun ix _ _ _ _ _ _ hs hb hx h=>match ix,h with
   | 2,h=>by dsimp only; rw [← hs 13 rfl,← hb 13 rfl]; exact h
   | 3,h=>by dsimp only; rw [← hs 10 rfl,← hb 13 rfl]; exact h
   | 4,h=>by dsimp only; rw [← hs 14 rfl,← hb 13 rfl]; exact h
   | 6,h=>by dsimp only; rw [← hs 5 rfl,← hb 5 rfl,← hx 0 rfl]; exact h
   | 7,h=>by dsimp only; rw [← hb 5 rfl,← hb 13 rfl,← hx 1 rfl]; exact h
   | 0, _ | 1, _ | 5, _ | _+8, _=>trivial
  ·refine ⟨?_,?_,?_,?_,?_,?_,trivial⟩
   ·refine svA fun ρ β W X cx=>?_
    refine DoesU.call (run_callF (args:=#[.iface tt (tv),vi root]) rfl cx.sees rfl (by kernel_rfl) (map2 (cx.an 0) (cx.an 1))) ?_
    refine (kd_no hnd (kat_any _ _ ps root _ (hS.ext cx.upd.to_ext) hok hoc)).mono ?_
    rintro e W1 ⟨p4,rfl,hx⟩
    refine ⟨_,rfl,post_call [] rfl rfl hx (by simp) List.Pairwise.nil (fun σ β' X' hs hb hv hN=>?_)⟩
    have hv1:=(hv 13 rfl).1; have hv2:=(hv 13 rfl).2
    exact hv1.trans (by rw [hv2]; rfl)
   ·exact sv rfl rfl rfl rfl rfl _ (fun _ _ _ h=>h) (fun β β' h=>by rw [h 13 (by decide)]) fun ρ β W X cx=>run_move' rfl (dTn (cx.an 2))
   ·exact sv rfl rfl rfl rfl rfl _ (fun _ _ _ h=>h) (fun β β' h=>by rw [h 13 (by decide)]) fun ρ β W X cx=>run_extract' rfl (dTn (cx.an 3)) rfl
   ·exact xs4 rfl id fun cx=>run_extract' rfl (dTn (cx.an 3)) rfl
   ·refine svA fun ρ β W X cx=>?_
    exact dv_alloc (cs:=#[vi 0,vi 0,vi 0, .string ByteArray.empty, .bool false, .slice none 0 0,vi 0]) rfl (by kernel_rfl) rfl rfl (fun σ β' X' hs hb hv hx=>⟨hv,hx⟩)
   ·refine svA fun ρ β W X cx=>?_
    exact dv_store (n:=7) rfl (dTn (cx.an 6)).1 (dTn (cx.an 4)) (by kernel_rfl) (by kernel_rfl) (by kernel_rfl) cx (dTn (cx.an 6)).2 rfl (nle rfl) (by kernel_rfl) rfl rfl rfl (fun σ β' X' hs hb hx=>by rw [hb 5,hb 13]; exact hx)
  intro σ β X W2 hD hst2 fr hfr
  obtain ⟨pg13_2,hu_pg13_2⟩:∃ z,iv (tg (tg (β 13) 0) 0)=z:=⟨_,rfl⟩
  obtain ⟨B5_2,hu_B5_2⟩:∃ z,pb (β 5)=z:=⟨_,rfl⟩
  simp only [exq 1 ((dTn (hD 7 lq))),hu_pg13_2,hu_B5_2] at hst2
  simp only [ed 13 ((dTn (hD 2 lq))),ed 10 ((dTn (hD 3 lq))),ed 14 ((dTn (hD 4 lq))),ed 5 ((dTn (hD 6 lq)).1),hu_pg13_2,hu_B5_2] at hfr
  clear hD hu_pg13_2 hu_B5_2; subst hfr; clear σ β X
  refine then_normal (wp_seq (wp_seq (sqr (sqp [.k 16 (.bool false), .k 17 (.bool true)] ?_))))
  refine then_normal (wct rfl (wp_seq (sqr (sqp [.k 4 (vi 22)] ?_))))
  refine then_normal (wp_ret (then_ret ?_))
  refine bpr (vi 22) (results_1 Tryz.results26 rpt) ?_
  exact Ret.of (by rw [← ck_none hnd]) hst2.ext
 ·have hN0:=nd_ok hok hnd
  have hN4:=hN0.lv
  refine sqr (sqp [.m 11 0, .m 12 1] ?_)
  refine sqk2 (fun EA13_8 ec13_8=> .tuple #[.agg #[vi root,vi nd.lv,vi nd.right, .string nd.high, .bool nd.dead, .slice EA13_8 nd.es.length ec13_8,vi ((nd.free:Int))], .bool true]) (fun EA13_8 ec13_8=>eO 89 3 (.slice EA13_8 nd.es.length ec13_8) nd.es.length (nd.es.flatMap enC)) hst0 (fun cx=>⟨_,(kd_yes hnd (kat_any _ _ ps root _ (hS.ext cx.upd.to_ext) hok hoc)).mono (by rintro e W1 ⟨EA4,ec4,rfl,hs4⟩; exact ⟨_, _,rfl,hs4⟩),(map2 (cx.ou 11) (cx.ou 12))⟩) fun EA13_8 ec13_8 W8 hst8=>?_
  refine sqp [.m 10 13, .k 14 (.agg #[vi root,vi nd.lv,vi nd.right, .string nd.high, .bool nd.dead, .slice EA13_8 nd.es.length ec13_8,vi ((nd.free:Int))]), .k 15 (.bool true)] ?_
  refine sqal #[vi 0,vi 0,vi 0, .string ByteArray.empty, .bool false, .slice none 0 0,vi 0] hst8 fun B5_12 W12 hst12=>?_
  refine sqst (n:=7) 1 #[vi root,vi nd.lv,vi nd.right, .string nd.high, .bool nd.dead, .slice EA13_8 nd.es.length ec13_8,vi ((nd.free:Int))] hst12 fun W13 hst13=>?_
  refine sqp [.k 6 (.bool true)] ?_
  refine then_normal (wp_seq (wp_seq (sqr (sqp [.k 16 (.bool true), .k 17 (.bool false)] ?_))))
  refine then_normal (wcf rfl (wp_skip (then_normal (wp_seq (sqr (sqp [.k 7 (.slice none 0 0)] ?_))))))
  refine then_normal (wp_seq (wp_seq (sqr (sqp [.k 18 (.pointer (some ⟨B5_12,1,none⟩))] ?_))))
  refine sqld 1 hst13 ?_
  refine sqp [sI 20 (nd.lv+1) (by omega), .k 21 (vi 0)] ?_
  refine then_normal (wp_block ?_)
  have hcl_:=hst13.cl0
  simp only [List.cons_append,List.nil_append] at hcl_
  refine wp_loopT (fun t_ mz az W=>∃ k:Nat,∃ BA:Option Addr,∃ bc:Nat,∃ fb:List Nat,(k:Int)≤nd.lv+1∧(List.range k).all (fun k=>!ckX ps root nd.lv k)=true∧mz=(nd.lv+1).toNat - k∧az=⟨(ovr (jv az) [(4,4,1,[]),(2,7,0,[.slice BA ((belowL ps root k).length) bc]),(0,8,2,[]),(11,21,0,[vi ((k:Int))]),(0,22,33,[])] t_).toArray,[]⟩∧St w [] [eB B5_12 84 #[vi root,vi nd.lv,vi nd.right, .string nd.high, .bool nd.dead, .slice EA13_8 nd.es.length ec13_8,vi ((nd.free:Int))],eCL BA (belowL ps root k) fb] W) ((nd.lv+1).toNat - 0) ?_ ?_
  · -- the loop begins
    exact ⟨0,none,0,[],by omega,rfl,rfl,(by kernel_rfl),hcl_.pk [1,2]⟩
  rintro n22 a22 W22 ⟨k,BA,bc,fb,hk,hall,rfl,hj_,hst22⟩
  refine ovz hj_ fun u22_=>?_
  have hbl_:=below_len ps root k
  have hrl_:=row_len ps root (k:Int)
  refine wp_seq (sqr (sqp [.k 22 (.bool (decide ((k:Int) < nd.lv+1)))] ?_))
  refine then_normal (wp_seq (wds (fun hs24 hs24p=>?_) fun hs24 hs24p=>?_))
  ·refine wp_skip (then_normal (wp_seq (wp_block (wp_seq (sqr (sqp [.m 23 21, .m 8 23] ?_))))))
   refine then_normal (wp_seq (wp_region_Y [0,0,0,7,15,31] [[],[],[],[],[2,3,4]] [[],[],[],[2,3,4],[5]] [] [.k 24 (.iface tt (tv)), .k 25 (vi root), .k 26 (vi ((k:Int))), .a 27, .a 28, .a 9] (fun ix σ β X=>match ix with | 0=>True | 1=>True | 2=>True | 3=>σ 27= .func (.func 101) #[] #[vp (pcp 0 (β 27)),vp (pcp 1 (β 27)),vp (pcp 2 (β 27))]∧X 2=eB (pcp 0 (β 27)) 78 #[.iface tt (tv)]∧X 3=eB (pcp 1 (β 27)) 3 #[vi root]∧X 4=eB (pcp 2 (β 27)) 3 #[vi ((k:Int))] | 4=>σ 28= .slice (sA (β 28)) (((rowF ps root (k:Int))).length) (sC (β 28))∧X 5=eCL (sA (β 28)) (rowF ps root (k:Int)) ((X 5).fp) | 5=>σ 9= .slice (sA (β 28)) (((rowF ps root (k:Int))).length) (sC (β 28)) | _=>True) [0,1,2,3,4,5] [3,4,5] [(9,5,1,10),(14,0,5,19)] hst22 ?_ ?_ ?_))
   ·exact fun ix _ _ _ _ _ _ hs hb hx h=>match ix,h with
    | 3,h=>by dsimp only; rw [← hs 27 rfl,← hb 27 rfl,← hx 2 rfl,← hx 3 rfl,← hx 4 rfl]; exact h
    | 4,h=>by dsimp only; rw [← hs 28 rfl,← hb 28 rfl,← hx 5 rfl]; exact h
    | 5,h=>by dsimp only; rw [← hs 9 rfl,← hb 28 rfl]; exact h
    | 0, _ | 1, _ | 2, _ | _+6, _=>trivial
   ·refine ⟨?_,?_,?_,trivial⟩
    ·refine svA fun ρ β W X cx=>?_
     refine DoesU.call (run_callF (args:=#[.iface tt (tv),vi root,vi ((k:Int))]) rfl cx.sees rfl (by kernel_rfl) (map3 (cx.an 0) (cx.an 1) (cx.an 2))) ?_
     refine (krowc_any tt tv root (k:Int) _).mono ?_
     rintro e W1 ⟨B4,B5,B6,rfl,hs4⟩
     refine ⟨_,rfl,post_st [eB B4 78 #[.iface tt (tv)],eB B5 3 #[vi root],eB B6 3 #[vi ((k:Int))]] rfl rfl hs4 (fun σ β' X' hs hb hv hN=>?_)⟩
     have hv1:=(hv 27 rfl).1; have hv2:=(hv 27 rfl).2
     exact ⟨hv1.trans (by rw [hv2]; rfl),(by rw [hv2]; exact (List.cons.inj hN).1),(by rw [hv2]; exact (List.cons.inj (List.cons.inj hN).2).1),(by rw [hv2]; exact (List.cons.inj (List.cons.inj (List.cons.inj hN).2).2).1)⟩
    ·refine svA fun ρ β W X cx=>?_
     refine DoesU.call (run_callF (args:=#[.func (.func 101) #[] #[vp (pcp 0 (β 27)),vp (pcp 1 (β 27)),vp (pcp 2 (β 27))]]) rfl cx.sees rfl (by kernel_rfl) (map1 (dTn (cx.an 3)).1)) ?_
     refine (kcol_g _ _ _ (rowF ps root (k:Int)) _ _ _ (krow_seqG _ _ _ _ _ _ _ hok hoc) (fun A hA=>⟨Blk.ext (cx.blk (dTn (cx.an 3)).2.1 rfl) hA,Blk.ext (cx.blk (dTn (cx.an 3)).2.2.1 rfl) hA,Blk.ext (cx.blk (dTn (cx.an 3)).2.2.2 rfl) hA,(hS.ext cx.upd.to_ext).ext hA⟩)).mono ?_
     rintro e W1 ⟨A4,c4,fp4,rfl,hs4⟩
     refine ⟨_,rfl,post_st [eCL A4 ((rowF ps root (k:Int))) fp4] rfl rfl hs4 (fun σ β' X' hs hb hv hN=>?_)⟩
     have hv1:=(hv 28 rfl).1; have hv2:=(hv 28 rfl).2
     exact ⟨hv1.trans (by rw [hv2]; rfl),(by rw [hv2]; exact eCL_self ((List.cons.inj hN).1))⟩
    ·exact sv rfl rfl rfl rfl rfl _ (fun _ _ _ h=>h) (fun β β' h=>by rw [h 28 (by decide)]) fun ρ β W X cx=>run_assign' rfl (dTn (cx.an 4)).1
   intro σ β X W27 hD hst27 fr hfr
   obtain ⟨B27a_27,hu_B27a_27⟩:∃ z,pcp 0 (β 27)=z:=⟨_,rfl⟩
   obtain ⟨B27b_27,hu_B27b_27⟩:∃ z,pcp 1 (β 27)=z:=⟨_,rfl⟩
   obtain ⟨B27c_27,hu_B27c_27⟩:∃ z,pcp 2 (β 27)=z:=⟨_,rfl⟩
   obtain ⟨A28_27,hu_A28_27⟩:∃ z,sA (β 28)=z:=⟨_,rfl⟩
   obtain ⟨c28_27,hu_c28_27⟩:∃ z,sC (β 28)=z:=⟨_,rfl⟩
   have xX5:X 5= _:=(dTn (hD 4 lq)).2
   obtain ⟨r5_27,hu_r5_27⟩:∃ z,(X 5).fp=z:=⟨_,rfl⟩
   rw [hu_r5_27] at xX5
   clear hu_r5_27
   simp only [exq 2 ((dTn (hD 3 lq)).2.1),exq 3 ((dTn (hD 3 lq)).2.2.1),exq 4 ((dTn (hD 3 lq)).2.2.2),xX5,hu_B27a_27,hu_B27b_27,hu_B27c_27,hu_A28_27,hu_c28_27] at hst27
   simp only [ed 27 ((dTn (hD 3 lq)).1),ed 28 ((dTn (hD 4 lq)).1),ed 9 ((dTn (hD 5 lq))),hu_B27a_27,hu_B27b_27,hu_B27c_27,hu_A28_27,hu_c28_27] at hfr
   clear hD xX5 hu_B27a_27 hu_B27b_27 hu_B27c_27 hu_A28_27 hu_c28_27; subst hfr; clear σ β X
   refine then_normal (wp_seq (wp_seq (sqr (sqp [.m 29 8, .k 30 (.pointer (some ⟨B5_12,1,none⟩))] ?_))))
   refine sqld 0 hst27 ?_
   refine sqp [.k 32 (.bool ((k:Int)==nd.lv)), .m 33 32] ?_
   refine sqw 33 [34,35,36] rfl (fun _=>sqp [.m 34 9, .k 35 (vi ((((rowF ps root (k:Int))).length:Int))), .k 36 (.bool ((((rowF ps root (k:Int))).length:Int) != 1))] sqe) ?_
   refine sqp [sPa 37 ((k:Int)==nd.lv) ((((rowF ps root (k:Int))).length:Int) != 1), .m 38 37] ?_
   refine sqw' 38 [39,40,41,42,43,44,45] ?_ rfl (fun hq=>?_) ?_
   rotate_left
   ·refine sqp [.m 39 8, .k 40 (.bool (decide (0 < (k:Int)))), .m 41 40] ?_
    refine sqw 41 [42,43,44] rfl (fun _=>sqp [.m 42 7, .k 43 (vi (((belowL ps root k).length:Int))), .k 44 (.bool (((belowL ps root k).length:Int)==0))] sqe) ?_
    refine sqp [sPa 45 (decide (0 < (k:Int))) (((belowL ps root k).length:Int)==0)] ?_
    exact sqe
   refine sqwx ?_
   refine sqp [sPo 46 (((k:Int)==nd.lv)&&((((rowF ps root (k:Int))).length:Int) != 1)) ((decide (0 < (k:Int)))&&(((belowL ps root k).length:Int)==0)), .m 47 46] ?_
   refine sqwW 47 [48,49,50,51] ?_ hst27 rfl (fun hq=>?_) fun W51 hst51=>?_
   rotate_left
   ·refine sqp [.m 48 9, .m 49 7] ?_
    refine sqk (.bool (rgF (rowF ps root (k:Int)) (belowL ps root k))) hst27 (fun cx=>⟨_,kright_cl (CtxV.holdF cx (cx.init 5 _ rfl) rfl) (CtxV.holdF cx (cx.init 1 _ rfl) rfl) (fun y hy=>nd_ok hok (row_nd y hy).1) (row_len _ _ _) (below_len _ _ _),(map2 (cx.ou 48) (cx.ou 49))⟩) fun W49 hst49=>?_
    refine sqp [.k 51 (.bool (!(rgF (rowF ps root (k:Int)) (belowL ps root k))))] ?_
    exact sqE hst49
   refine sqwx ?_
   refine sqp [sPo 52 ((((k:Int)==nd.lv)&&((((rowF ps root (k:Int))).length:Int) != 1))||((decide (0 < (k:Int)))&&(((belowL ps root k).length:Int)==0))) (!(rgF (rowF ps root (k:Int)) (belowL ps root k)))] ?_
   refine then_normal (wbs (fun hs53=>?_) fun hs53=>?_)
   ·have hs53p:=hs53
    simp only [zB] at hs53p
    refine wp_seq (sqr (sqp [.k 4 (vi 11)] ?_))
    refine then_normal (wp_ret (then_ret (blk_ret (then_ret (then_ret (blk_ret (then_ret ?_)))))))
    refine bpr (vi 11) (results_1 Tryz.results26 rpt) ?_
    exact Ret.of (by rw [← ck_bad hnd (k:=k) (by omega) hs53]) hst51.ext
   have hs53p:=hs53
   simp only [zB] at hs53p
   obtain ⟨⟨hs53p1,hs53p2⟩,hs53p3⟩:=hs53p
   refine wp_skip (then_normal (sqr (sqp [.m 53 9, .m 7 53] ?_)))
   refine blk_normal (then_normal (sqr (sqp [sI 54 ((k:Int)+1) (by omega), .m 21 54] ?_)))
   refine then_normal ?_
   refine ⟨(nd.lv+1).toNat - ((k+1)),by omega,?_⟩
   exact ⟨(k+1),A28_27,c28_27,r5_27,by omega,all_step hall (by rw [show ckX ps root nd.lv k=false from hs53]; rfl),rfl,(by kernel_rfl),hst51.pk [0,5]⟩
  refine wp_exit (then_exit (then_exit (blk_eq (then_normal (wp_seq (sqr (sqp [.k 4 (vi 0)] ?_)))))))
  refine then_normal (wp_ret ?_)
  refine bpr (vi 0) (results_1 Tryz.results26 rpt) ?_
  exact Ret.of (by rw [← ck_ok hnd (k:=k) (by omega) hall]) hst22.ext
end
section
open Go.RowKit
/-- a walk: where it is, its steps, its bound, has it ended -/
structure WkT where
 pos:Int
 st:Int
 fm:ByteArray
 fin:Bool
inductive WkR where
 | off
 | on
 | at (n:NoD)
/-- a step of a walk, up to a leaf -/
def wkN (ps:List PgS) (w:WkT):WkT×WkR:=
 if w.fin=true∨1000≤w.st+1 then (⟨w.pos,w.st+1,w.fm,true⟩, .off) else match ndAt ps w.pos with
 | none=>(⟨w.pos,w.st+1,w.fm,true⟩, .off)
 | some n=>if sndB n.dead n.high w.fm=true then (⟨n.right,w.st+1,w.fm,decide (n.right < 0)⟩,if n.right < 0 then .off else .on)
   else if 0 < n.lv then (⟨downF w.fm n.es (-1),w.st+1,w.fm,false⟩, .on) else (⟨w.pos,w.st+1,w.fm,false⟩, .at n)
def wkC (w:WkT):Array Value:=#[.int .i64 w.pos, .int .i64 w.st, .string w.fm, .bool w.fin]
def NxPost (b:Nat) (pos:Int) (r:WkT×WkR) (w:World) (e:Ending) (w':World):Prop:=match r.2 with
 | .off=>e= .returned (.tuple #[kn0 0, .bool false, .bool false])∧St w [b] [eB b 81 (wkC r.1)] w'
 | .on=>e= .returned (.tuple #[kn0 0, .bool false, .bool true])∧St w [b] [eB b 81 (wkC r.1)] w'
 | .at n=>∃ EA ec,e= .returned (.tuple #[knV pos n EA ec, .bool true, .bool true])∧St w [b] [eB b 81 (wkC r.1),eO 89 3 (.slice EA n.es.length ec) n.es.length (n.es.flatMap enC)] w'
section
variable {ps:List PgS} {pos st:Int} {fm:ByteArray} {fin:Bool} {nd:NoD}
theorem wk_end (h:fin=true∨1000≤st+1):wkN ps ⟨pos,st,fm,fin⟩=(⟨pos,st+1,fm,true⟩, .off):=if_pos h
theorem wk_none (h:ndAt ps pos=none):wkN ps ⟨pos,st,fm,fin⟩=(⟨pos,st+1,fm,true⟩, .off):=by
 by_cases h0:fin=true∨1000≤st+1
 ·exact wk_end h0
 ·rw [wkN,if_neg h0]; dsimp only; rw [h]
theorem wk_some (h0:¬ (fin=true∨1000≤st+1)) (h:ndAt ps pos=some nd):wkN ps ⟨pos,st,fm,fin⟩=if sndB nd.dead nd.high fm=true then (⟨nd.right,st+1,fm,decide (nd.right < 0)⟩,if nd.right < 0 then .off else .on) else if 0 < nd.lv then (⟨downF fm nd.es (-1),st+1,fm,false⟩, .on) else (⟨pos,st+1,fm,false⟩, .at nd):=by
 rw [wkN,if_neg h0]; dsimp only; rw [h]
end
theorem kwnext_any (b:Nat) (tt:TypeId) (tv:Value) (pos st:Int) (fm:ByteArray) (fin:Bool) (ps:List PgS) (w:World) (hb:Blk w b 81 #[.int .i64 pos, .int .i64 st, .string fm, .bool fin]) (hS:∀ W,Upd [b] w W→PgsOk W tt tv ps) (hok:OkS ps) (hoc:OkC ps) (hst:0≤st∧st≤100000) (hfm:fm.size≤900000):
  Calls Tryz.prog 31 #[.pointer (some ⟨b,0,none⟩), .iface tt (tv)] w (NxPost b pos (wkN ps ⟨pos,st,fm,fin⟩) w):=by
 have st0:=St.lend (E:=eB b 81 #[.int .i64 pos, .int .i64 st, .string fm, .bool fin]) hb (eB_loc _ _ _) (fun k hk=>by simp [eB] at hk; subst hk; exact hb.lt)
 go_enter Tryz.func31,Tryz.ntmps31
 have hst0:=st0
 refine wp_seq (sqr (sqal #[vi 0,vi 0,vi 0, .string ByteArray.empty, .bool false, .slice none 0 0,vi 0] hst0 fun B4_1 W1 hst1=>?_))
 refine sqp [.k 5 (.bool false), .k 6 (.bool false)] ?_
 refine then_normal (wp_seq (wp_seq (sqr (sqp [.m 8 0] ?_))))
 refine sqv (.bool false) hst1 (by
   exact sv0 rfl rfl rfl rfl rfl (fun _ _ _ h=>h) fun ρ β W X cx=>by
    have fF8:ρ (.tmp 8)=vp b:=(cx.ou 8)
    simp [go_sem,cx.sees.const,fF8]) fun W5 hst5=>?_
 refine then_normal (wcf rfl (wp_skip (then_normal (wp_seq (sqr (sqp [.m 11 0, .k 12 (vp b), .k 13 (.pointer (some ⟨b,1,none⟩))] ?_))))))
 refine sqld 0 hst5 ?_
 refine sqp [sI 15 (st+1) (by omega), .k 16 (vp b), .k 17 (.pointer (some ⟨b,1,none⟩))] ?_
 refine sqst (n:=1) 0 #[vi pos,vi (st+1), .string fm, .bool fin] hst5 fun W13 hst13=>?_
 refine then_normal (wp_seq ?_)
 rcases hnd:ndAt ps pos with _ | nd
 ·refine wp_region_Y [0,0,2,6,14,31,63,127,127,255,1023] [[],[],[],[],[0],[],[],[],[],[1]] [[],[],[],[],[],[],[],[],[],[2]] [[],[],[],[],[],[],[],[],[],[1]] [.k 19 (.iface tt (tv)), .k 20 (vp b), .k 21 (vp b), .k 22 (vp b), .c 23 (vi pos), .a 24, .a 18, .a 25, .c 26 (.bool false), .n, .k 7 (.bool false)] (fun ix σ β X=>match ix with | 0=>True | 1=>True | 2=>True | 3=>True | 4=>True | 5=>σ 24= .tuple #[.agg #[vi (iv (tg (tg (β 24) 0) 0)),vi 0,vi 0, .string ((⟨#[]⟩:ByteArray)), .bool false, .slice none 0 0,vi 0], .bool false] | 6=>σ 18= .tuple #[.agg #[vi (iv (tg (tg (β 24) 0) 0)),vi 0,vi 0, .string ((⟨#[]⟩:ByteArray)), .bool false, .slice none 0 0,vi 0], .bool false] | 7=>σ 25= .agg #[vi (iv (tg (tg (β 24) 0) 0)),vi 0,vi 0, .string ((⟨#[]⟩:ByteArray)), .bool false, .slice none 0 0,vi 0] | 8=>True | 9=>X 2=eB B4_1 84 #[vi (iv (tg (tg (β 24) 0) 0)),vi 0,vi 0, .string ((⟨#[]⟩:ByteArray)), .bool false, .slice none 0 0,vi 0] | _=>True) [0,2] [4,5,6,7,8,9] [(7,10,1,8),(10,6,1,11),(0,0,6,6),(0,7,2,2)] hst13 ?_ ?_ ?_
  ·exact fun ix _ _ _ _ _ _ hs hb hx h=>match ix,h with
   | 5,h=>by dsimp only; rw [← hs 24 rfl,← hb 24 rfl]; exact h
   | 6,h=>by dsimp only; rw [← hs 18 rfl,← hb 24 rfl]; exact h
   | 7,h=>by dsimp only; rw [← hs 25 rfl,← hb 24 rfl]; exact h
   | 9,h=>by dsimp only; rw [← hb 24 rfl,← hx 2 rfl]; exact h
   | 0, _ | 1, _ | 2, _ | 3, _ | 4, _ | 8, _ | _+10, _=>trivial
  ·refine ⟨?_,?_,?_,?_,?_,?_,trivial⟩
   ·exact xs4 rfl id fun cx=>run_load1 rfl (by kernel_rfl) (cx.an 3) ((cx.bi 0 rfl).cell 0)
   ·refine svA fun ρ β W X cx=>?_
    refine DoesU.call (run_callF (args:=#[.iface tt (tv),vi pos]) rfl cx.sees rfl (by kernel_rfl) (map2 (cx.an 0) (cx.an 4))) ?_
    refine (kd_no hnd (kat_any _ _ ps pos _ (hS _ cx.upd) hok hoc)).mono ?_
    rintro e W1 ⟨p4,rfl,hx⟩
    refine ⟨_,rfl,post_call [] rfl rfl hx (by simp) List.Pairwise.nil (fun σ β' X' hs hb hv hN=>?_)⟩
    have hv1:=(hv 24 rfl).1; have hv2:=(hv 24 rfl).2
    exact hv1.trans (by rw [hv2]; rfl)
   ·exact sv rfl rfl rfl rfl rfl _ (fun _ _ _ h=>h) (fun β β' h=>by rw [h 24 (by decide)]) fun ρ β W X cx=>run_move' rfl (dTn (cx.an 5))
   ·exact sv rfl rfl rfl rfl rfl _ (fun _ _ _ h=>h) (fun β β' h=>by rw [h 24 (by decide)]) fun ρ β W X cx=>run_extract' rfl (dTn (cx.an 6)) rfl
   ·exact xs4 rfl id fun cx=>run_extract' rfl (dTn (cx.an 6)) rfl
   ·refine svA fun ρ β W X cx=>?_
    exact dv_store (n:=7) rfl (cx.ou 4) (dTn (cx.an 7)) (by kernel_rfl) (by kernel_rfl) (by kernel_rfl) cx (cx.init 1 _ rfl) rfl (nle rfl) (by kernel_rfl) rfl rfl rfl (fun σ β' X' hs hb hx=>by rw [hb 24]; exact hx)
  intro σ β X W14 hD hst14 fr hfr
  obtain ⟨pg24_14,hu_pg24_14⟩:∃ z,iv (tg (tg (β 24) 0) 0)=z:=⟨_,rfl⟩
  simp only [exq 2 ((dTn (hD 9 lq))),hu_pg24_14] at hst14
  simp only [ed 24 ((dTn (hD 5 lq))),ed 18 ((dTn (hD 6 lq))),ed 25 ((dTn (hD 7 lq))),hu_pg24_14] at hfr
  clear hD hu_pg24_14; subst hfr; clear σ β X
  refine then_normal (wp_seq (wp_seq (sqr (sqp [.m 27 0, .k 28 (vp b), .k 29 (.pointer (some ⟨b,3,none⟩))] ?_))))
  refine sqld 0 hst14 ?_
  refine sqp [.m 31 30] ?_
  refine sqw 31 [32,33] rfl (fun _=>sqp [.k 32 (.bool false), .k 33 (.bool true)] sqe) ?_
  have hd23:(fin||true)=true:=(Bool.or_true _)
  refine sqp [sPok 34 fin true true hd23, .k 35 (.bool true)] ?_
  refine sqgn 35 [36,37,38,39,40] rfl rfl ?_
  refine sqp [.k 41 (.bool true)] ?_
  refine then_normal (wct rfl (wp_seq (sqr (sqp [.m 42 0, .k 43 (vp b), .k 44 (.pointer (some ⟨b,3,none⟩))] ?_))))
  refine sqst (n:=1) 0 #[vi pos,vi (st+1), .string fm, .bool true] hst14 fun W29 hst29=>?_
  refine then_normal (wp_seq (sqr (sqp [.k 45 (.agg #[vi 0,vi 0,vi 0, .string ByteArray.empty, .bool false, .slice none 0 0,vi 0])] ?_)))
  refine sqst (n:=7) 1 #[vi 0,vi 0,vi 0, .string ByteArray.empty, .bool false, .slice none 0 0,vi 0] hst29 fun W31 hst31=>?_
  refine sqp [.k 5 (.bool false), .k 6 (.bool false)] ?_
  refine then_normal (wp_ret (then_ret ?_))
  refine bpr (.tuple #[.agg #[vi 0,vi 0,vi 0, .string ByteArray.empty, .bool false, .slice none 0 0,vi 0], .bool false, .bool false]) (results_3 Tryz.results31 (rpa (hst31.blk 1 rfl) 0 7) rpt rpt) ?_
  rw [wk_none hnd]
  exact ⟨rfl,hst31.pick [0] (by decide) rfl⟩
 ·have hN0:=nd_ok hok hnd
  have hN:NdQ nd:=⟨hN0.lv,fun e he=>Nat.le_trans (hN0.es e he) (by decide)⟩
  have hN1:=hN0.len
  have hN2:=hN0.rt
  have hN3:=hN0.hi
  have hN4:=hN0.lv
  have hN5:=hN0.fr
  have hN7:=hN0.es
  refine sqr (sqp [.m 19 1, .m 20 0, .k 21 (vp b), .k 22 (vp b)] ?_)
  refine sqld 0 hst13 ?_
  refine sqk2 (fun EA24_39 ec24_39=> .tuple #[.agg #[vi pos,vi nd.lv,vi nd.right, .string nd.high, .bool nd.dead, .slice EA24_39 nd.es.length ec24_39,vi ((nd.free:Int))], .bool true]) (fun EA24_39 ec24_39=>eO 89 3 (.slice EA24_39 nd.es.length ec24_39) nd.es.length (nd.es.flatMap enC)) hst13 (fun cx=>⟨_,(kd_yes hnd (kat_any _ _ ps pos _ (hS _ cx.upd) hok hoc)).mono (by rintro e W1 ⟨EA4,ec4,rfl,hs4⟩; exact ⟨_, _,rfl,hs4⟩),(map2 (cx.ou 19) (cx.ou 23))⟩) fun EA24_39 ec24_39 W39 hst39=>?_
  refine sqp [.m 18 24, .k 25 (.agg #[vi pos,vi nd.lv,vi nd.right, .string nd.high, .bool nd.dead, .slice EA24_39 nd.es.length ec24_39,vi ((nd.free:Int))]), .k 26 (.bool true)] ?_
  refine sqst (n:=7) 1 #[vi pos,vi nd.lv,vi nd.right, .string nd.high, .bool nd.dead, .slice EA24_39 nd.es.length ec24_39,vi ((nd.free:Int))] hst39 fun W43 hst43=>?_
  refine sqp [.k 7 (.bool true)] ?_
  refine then_normal (wp_seq (wp_seq (sqr (sqp [.m 27 0, .k 28 (vp b), .k 29 (.pointer (some ⟨b,3,none⟩))] ?_))))
  refine sqld 0 hst43 ?_
  refine sqp [.m 31 30] ?_
  refine sqw 31 [32,33] rfl (fun _=>sqp [.k 32 (.bool true), .k 33 (.bool false)] sqe) ?_
  refine sqp [sPo 34 fin false, .m 35 34] ?_
  refine sqw' 35 [36,37,38,39,40] ?_ rfl (fun hq=>?_) ?_
  rotate_left
  ·refine sqp [.m 36 0, .k 37 (vp b), .k 38 (.pointer (some ⟨b,1,none⟩))] ?_
   refine sqld 0 hst43 ?_
   refine sqp [.k 40 (.bool (decide (1000≤st+1)))] ?_
   exact sqe
  refine sqwx ?_
  refine sqp [sPo 41 (fin||false) (decide (1000≤st+1))] ?_
  refine then_normal (wbs (fun hs60=>?_) fun hs60=>?_)
  ·have hs60p:=hs60
   simp only [zB] at hs60p
   refine wp_seq (sqr (sqp [.m 42 0, .k 43 (vp b), .k 44 (.pointer (some ⟨b,3,none⟩))] ?_))
   refine sqst (n:=1) 0 #[vi pos,vi (st+1), .string fm, .bool true] hst43 fun W64 hst64=>?_
   refine then_normal (wp_seq (sqr (sqp [.k 45 (.agg #[vi 0,vi 0,vi 0, .string ByteArray.empty, .bool false, .slice none 0 0,vi 0])] ?_)))
   refine sqst (n:=7) 1 #[vi 0,vi 0,vi 0, .string ByteArray.empty, .bool false, .slice none 0 0,vi 0] hst64 fun W66 hst66=>?_
   refine sqp [.k 5 (.bool false), .k 6 (.bool false)] ?_
   refine then_normal (wp_ret (then_ret ?_))
   refine bpr (.tuple #[.agg #[vi 0,vi 0,vi 0, .string ByteArray.empty, .bool false, .slice none 0 0,vi 0], .bool false, .bool false]) (results_3 Tryz.results31 (rpa (hst66.blk 1 rfl) 0 7) rpt rpt) ?_
   rw [wk_end (by have h_:=hs60; simpa using h_)]
   exact ⟨rfl,hst66.pick [0] (by decide) rfl⟩
  have hs60p:=hs60
  simp only [zB] at hs60p
  obtain ⟨⟨hs60p1,hs60p2⟩,hs60p3⟩:=hs60p
  refine wp_skip (then_normal (wp_seq (wp_block (wp_seq (wp_region_Z [0,0,2,6,14,31,63] [[1],[],[],[],[0]] [.c 47 (.agg #[vi pos,vi nd.lv,vi nd.right, .string nd.high, .bool nd.dead, .slice EA24_39 nd.es.length ec24_39,vi ((nd.free:Int))]), .k 48 (vp b), .k 49 (vp b), .k 50 (.pointer (some ⟨b,2,none⟩)), .c 51 (.string fm), .c 52 (.bool (sndB nd.dead nd.high fm)), .k 46 (.bool (sndB nd.dead nd.high fm))] [0,1,2] [0,4,5] [(46,6,1,47),(0,0,6,6)] hst43 ?_ fun W69 hst69=>?_)))))
  ·refine ⟨?_,?_,?_,trivial⟩
   ·exact xs4 rfl id fun cx=>run_loadB (n:=7) rfl (by kernel_rfl) (by kernel_rfl) (cx.ou 4) (cx.bi 1 rfl) (nle rfl) rfl
   ·exact xs4 rfl id fun cx=>run_load1 rfl (by kernel_rfl) (cx.an 3) ((cx.bi 0 rfl).cell 2)
   ·exact xsc rfl id rfl rfl fun cx=>⟨_,ksends_any pos nd.lv nd.right (nd.free:Int) nd.high nd.dead _ _ _ fm _ (by omega) (by omega),(map2 (cx.an 0) (cx.an 4))⟩
  refine then_normal (wbs (fun hs70=>?_) fun hs70=>?_)
  ·refine wp_seq (wp_region_Y [0,0,0,4,0,16,48,13,141,397,1023,2047,4095] [[],[],[],[1],[],[1],[],[],[],[0],[],[],[3]] [[],[],[],[],[],[],[],[],[],[3],[],[],[4]] [[],[],[],[],[],[],[],[],[],[0],[],[],[3]] [.k 53 (vp b), .k 54 (vp b), .k 55 (.pointer (some ⟨B4_1,2,none⟩)), .c 56 (vi nd.right), .k 57 (.pointer (some ⟨B4_1,2,none⟩)), .c 58 (vi nd.right), .k 59 (.bool (decide (nd.right < 0))), .k 60 (vp b), .k 61 (vp b), .n, .k 62 (vp b), .k 63 (.pointer (some ⟨b,3,none⟩)), .n] (fun ix σ β X=>match ix with | 0=>True | 1=>True | 2=>True | 3=>True | 4=>True | 5=>True | 6=>True | 7=>True | 8=>True | 9=>X 3=eB b 81 #[vi nd.right,vi (st+1), .string fm, .bool fin] | 10=>True | 11=>True | 12=>X 4=eB b 81 #[vi nd.right,vi (st+1), .string fm, .bool (decide (nd.right < 0))] | _=>True) [1,2,4] [3,5,9,12] [(53,0,12,64)] hst69 ?_ ?_ ?_)
   ·exact fun ix _ _ _ _ _ _ hs hb hx h=>match ix,h with
    | 9,h=>by dsimp only; rw [← hx 3 rfl]; exact h
    | 12,h=>by dsimp only; rw [← hx 4 rfl]; exact h
    | 0, _ | 1, _ | 2, _ | 3, _ | 4, _ | 5, _ | 6, _ | 7, _ | 8, _ | 10, _ | 11, _ | _+13, _=>trivial
   ·refine ⟨?_,?_,?_,?_,trivial⟩
    ·exact xs4 rfl id fun cx=>run_load1 rfl (by kernel_rfl) (cx.an 2) ((cx.bi 1 rfl).cell 2)
    ·exact xs4 rfl id fun cx=>run_load1 rfl (by kernel_rfl) (cx.an 4) ((cx.bi 1 rfl).cell 2)
    ·refine svA fun ρ β W X cx=>?_
     exact dv_store (n:=1) rfl (cx.an 8) (cx.an 3) (by kernel_rfl) (by kernel_rfl) (by kernel_rfl) cx (cx.init 0 _ rfl) rfl (nle rfl) (by kernel_rfl) rfl rfl rfl (fun σ β' X' hs hb hx=>hx)
    ·refine svA fun ρ β W X cx=>?_
     exact dv_store (n:=1) rfl (cx.an 11) (cx.an 6) (by kernel_rfl) (by kernel_rfl) (by kernel_rfl) cx (dTn (cx.an 9)) rfl (nle rfl) (by kernel_rfl) rfl rfl rfl (fun σ β' X' hs hb hx=>hx)
   intro σ β X W71 hD hst71 fr hfr
   simp only [exq 4 ((dTn (hD 12 lq)))] at hst71
   clear hD; subst hfr; clear σ β X
   refine then_normal (wp_seq (wp_region_Y [0,0,2,6,14,30,1,65,255] [[],[],[],[],[2],[],[0]] [[],[],[],[],[],[],[3]] [[],[],[],[],[],[],[0]] [.k 64 (.agg #[vi 0,vi 0,vi 0, .string ByteArray.empty, .bool false, .slice none 0 0,vi 0]), .k 65 (vp b), .k 66 (vp b), .k 67 (.pointer (some ⟨b,3,none⟩)), .c 68 (.bool (decide (nd.right < 0))), .k 69 (.bool (!(decide (nd.right < 0)))), .n, .k 5 (.bool false), .k 6 (.bool (!(decide (nd.right < 0))))] (fun ix σ β X=>match ix with | 0=>True | 1=>True | 2=>True | 3=>True | 4=>True | 5=>True | 6=>X 3=eB B4_1 84 #[vi 0,vi 0,vi 0, .string ByteArray.empty, .bool false, .slice none 0 0,vi 0] | _=>True) [1,2,3] [4,6] [(5,7,2,7),(57,0,6,63)] hst71 ?_ ?_ ?_))
   ·exact fun ix _ _ _ _ _ _ hs hb hx h=>match ix,h with
    | 6,h=>by dsimp only; rw [← hx 3 rfl]; exact h
    | 0, _ | 1, _ | 2, _ | 3, _ | 4, _ | 5, _ | _+7, _=>trivial
   ·refine ⟨?_,?_,trivial⟩
    ·exact xs4 rfl id fun cx=>run_load1 rfl (by kernel_rfl) (cx.an 3) ((cx.bi 2 rfl).cell 3)
    ·refine svA fun ρ β W X cx=>?_
     exact dv_store (n:=7) rfl (cx.ou 4) (cx.an 0) (by kernel_rfl) (by kernel_rfl) (by kernel_rfl) cx (cx.init 0 _ rfl) rfl (nle rfl) (by kernel_rfl) rfl rfl rfl (fun σ β' X' hs hb hx=>hx)
   intro σ β X W72 hD hst72 fr hfr
   simp only [exq 3 ((dTn (hD 6 lq)))] at hst72
   clear hD; subst hfr; clear σ β X
   refine then_normal (wp_ret (blk_ret (then_ret ?_)))
   refine bpr (.tuple #[.agg #[vi 0,vi 0,vi 0, .string ByteArray.empty, .bool false, .slice none 0 0,vi 0], .bool false, .bool (!(decide (nd.right < 0)))]) (results_3 Tryz.results31 (rpa (hst72.blk 2 rfl) 0 7) rpt rpt) ?_
   subst hs60p1
   rw [wk_some (by have h_:=hs60; simpa using h_) hnd,if_pos hs70]
   by_cases hrl:nd.right < 0
   ·rw [if_pos hrl]; exact ⟨by rw [decide_eq_true hrl]; rfl,hst72.pick [1] (by decide) rfl⟩
   ·rw [if_neg hrl]; exact ⟨by rw [decide_eq_false hrl]; rfl,hst72.pick [1] (by decide) rfl⟩
  refine wp_seq (sqr (sqp [.k 71 (.pointer (some ⟨B4_1,1,none⟩))] ?_))
  refine sqld 1 hst69 ?_
  refine sqp [.k 73 (.bool (decide (0 < nd.lv))), .m 70 73] ?_
  refine then_normal (wds (fun hs77 hs77p=>?_) fun hs77 hs77p=>?_)
  ·refine wp_seq (wp_region_Y [0,0,0,4,12,28,62,127,255,511] [[],[1],[],[],[],[0],[2],[],[],[0]] [[],[],[],[],[],[],[],[],[],[3]] [[],[],[],[],[],[],[],[],[],[0]] [.k 74 (vp b), .c 75 (.agg #[vi pos,vi nd.lv,vi nd.right, .string nd.high, .bool nd.dead, .slice EA24_39 nd.es.length ec24_39,vi ((nd.free:Int))]), .k 76 (vp b), .k 77 (vp b), .k 78 (.pointer (some ⟨b,2,none⟩)), .c 79 (.string fm), .c 80 (vi (downF fm nd.es (-1))), .k 81 (vp b), .k 82 (vp b), .n] (fun ix σ β X=>match ix with | 0=>True | 1=>True | 2=>True | 3=>True | 4=>True | 5=>True | 6=>True | 7=>True | 8=>True | 9=>X 3=eB b 81 #[vi (downF fm nd.es (-1)),vi (st+1), .string fm, .bool fin] | _=>True) [1,2,3] [1,5,6,9] [(74,0,9,83)] hst69 ?_ ?_ ?_)
   ·exact fun ix _ _ _ _ _ _ hs hb hx h=>match ix,h with
    | 9,h=>by dsimp only; rw [← hx 3 rfl]; exact h
    | 0, _ | 1, _ | 2, _ | 3, _ | 4, _ | 5, _ | 6, _ | 7, _ | 8, _ | _+10, _=>trivial
   ·refine ⟨?_,?_,?_,?_,trivial⟩
    ·exact xs4 rfl id fun cx=>run_loadB (n:=7) rfl (by kernel_rfl) (by kernel_rfl) (cx.ou 4) (cx.bi 1 rfl) (nle rfl) rfl
    ·exact xs4 rfl id fun cx=>run_load1 rfl (by kernel_rfl) (cx.an 4) ((cx.bi 0 rfl).cell 2)
    ·exact xsc rfl id rfl rfl fun cx=>⟨_,kdown_any _ _ _ _ _ _ _ _ _ _ nd.es _ (At.of_ownN (cx.ri 2 rfl)) rfl hN.es6 (by omega) (by omega),(map2 (cx.an 1) (cx.an 5))⟩
    ·refine svA fun ρ β W X cx=>?_
     exact dv_store (n:=1) rfl (cx.an 8) (cx.an 6) (by kernel_rfl) (by kernel_rfl) (by kernel_rfl) cx (cx.init 0 _ rfl) rfl (nle rfl) (by kernel_rfl) rfl rfl rfl (fun σ β' X' hs hb hx=>hx)
   intro σ β X W78 hD hst78 fr hfr
   simp only [exq 3 ((dTn (hD 9 lq)))] at hst78
   clear hD; subst hfr; clear σ β X
   refine then_normal (wp_seq (sqr (sqp [.k 83 (.agg #[vi 0,vi 0,vi 0, .string ByteArray.empty, .bool false, .slice none 0 0,vi 0])] ?_)))
   refine sqst (n:=7) 0 #[vi 0,vi 0,vi 0, .string ByteArray.empty, .bool false, .slice none 0 0,vi 0] hst78 fun W80 hst80=>?_
   refine sqp [.k 5 (.bool false), .k 6 (.bool true)] ?_
   refine then_normal (wp_ret (blk_ret (then_ret ?_)))
   refine bpr (.tuple #[.agg #[vi 0,vi 0,vi 0, .string ByteArray.empty, .bool false, .slice none 0 0,vi 0], .bool false, .bool true]) (results_3 Tryz.results31 (rpa (hst80.blk 0 rfl) 0 7) rpt rpt) ?_
   subst hs60p1
   rw [wk_some (by have h_:=hs60; simpa using h_) hnd,if_neg (by rw [hs70]; decide),if_pos (of_decide_eq_true hs77)]
   exact ⟨rfl,hst80.pick [2] (by decide) rfl⟩
  refine wp_skip (blk_normal (then_normal (wp_seq (sqr ?_))))
  refine sqlb 1 7 hst69 ?_
  refine sqst (n:=7) 1 #[vi pos,vi nd.lv,vi nd.right, .string nd.high, .bool nd.dead, .slice EA24_39 nd.es.length ec24_39,vi ((nd.free:Int))] hst69 fun W84 hst84=>?_
  refine sqp [.k 5 (.bool true), .k 6 (.bool true)] ?_
  refine then_normal (wp_ret ?_)
  refine bpr (.tuple #[.agg #[vi pos,vi nd.lv,vi nd.right, .string nd.high, .bool nd.dead, .slice EA24_39 nd.es.length ec24_39,vi ((nd.free:Int))], .bool true, .bool true]) (results_3 Tryz.results31 (rpa (hst84.blk 1 rfl) 0 7) rpt rpt) ?_
  subst hs60p1
  rw [wk_some (by have h_:=hs60; simpa using h_) hnd,if_neg (by rw [hs70]; decide),if_neg (of_decide_eq_false hs77)]
  exact ⟨_, _,rfl,hst84.pick [0,2] (by decide) rfl⟩
end
section
open Go.RowKit
def tqS (e:EnD):Value:= .string (qkF e.1)
def tqR (e:EnD):List Value:=[.int .i64 (opF e.1), .int .i64 (osF e.1)]
theorem tqR_len (e:EnD):(tqR e).length=2:=rfl
theorem take_getD {l:List EnD} {i:Nat} (h:i < l.length):l.take (i+1)=l.take i++[l.getD i en0]:=by
 rw [List.take_add_one,List.getD_eq_getElem?_getD,List.getElem?_eq_getElem h]; rfl
theorem Tryz.infoTid:(Tryz.prog.info? 33).map (fun i=>(i.zero,i.size,i.bytes))=some (some (.agg #[.int .i64 0, .int .i64 0]),2,16):=by kernel_rfl
end
section
open Go.RowKit
theorem wk_at {ps:List PgS} {pos st:Int} {fm:ByteArray} {fin:Bool} {nd:NoD} {w1:WkT} (h:wkN ps ⟨pos,st,fm,fin⟩=(w1, .at nd)):ndAt ps pos=some nd∧w1=⟨pos,st+1,fm,false⟩:=by
 by_cases h0:fin=true∨1000≤st+1
 ·rw [wk_end h0] at h; cases h
 ·rcases hn:ndAt ps pos with _ | n
  ·rw [wk_none hn] at h; cases h
  ·rw [wk_some h0 hn] at h
   split at h
   ·split at h<;>cases h
   ·split at h<;>cases h
    exact ⟨rfl,rfl⟩
theorem tqS_snoc (T:List EnD) (x:EnD):T.map tqS++[.string (qkF x.1)]=(T++[x]).map tqS:=by rw [List.map_append]; rfl
theorem tqR_snoc (T:List EnD) (x:EnD):T.flatMap tqR++[.int .i64 (opF x.1), .int .i64 (osF x.1)]=(T++[x]).flatMap tqR:=by rw [List.flatMap_append]; rfl
end
section
open Go.RowKit
def esY (xs:List YnD):List EnD:=xs.flatMap fun y=>y.1.es
theorem esY_all {xs:List YnD} {ps:List PgS} {root:Int} (h:xs.map pgN=rowF ps root 0):esY xs=allF ps root:=by
 rw [allF,← h,List.flatMap_map]; rfl
theorem esY_snoc (xs:List YnD) (y:YnD):esY (xs++[y])=esY xs++y.1.es:=by simp [esY]
def AlPost (es:List EnD) (w:World) (e:Ending) (w':World):Prop:=∃ KA kc RA rc,e= .returned (.tuple #[.slice KA es.length kc, .slice RA es.length rc])∧
 St w [] [eO 9 1 (.slice KA es.length kc) es.length (es.map tqS),eO 33 2 (.slice RA es.length rc) es.length (es.flatMap tqR)] w'
def lfI (y:YnD):Value:= .int .i64 y.2.1
def LfPost (L:List (Int×NoD)) (w:World) (e:Ending) (w':World):Prop:=∃ A c,e= .returned (.slice A L.length c)∧St w [] [eO 3 1 (.slice A L.length c) L.length (L.map fun y=> .int .i64 y.1)] w'
theorem lf_snoc (xs:List YnD) (y:YnD):xs.map lfI++[.int .i64 y.2.1]=(xs++[y]).map lfI:=by rw [List.map_append]; rfl
theorem lf_done {w W:World} {A:Option Addr} {c n:Nat} {L:List (Int×NoD)} {xs:List YnD} (h:xs.map pgN=L) (hn:n=xs.length) (hs:St w [] [eO 3 1 (.slice A n c) n (xs.map lfI)] W):LfPost L w (.returned (.slice A n c)) W:=by
 subst hn h
 exact ⟨A,c,by rw [List.length_map],by rw [List.length_map,List.map_map]; exact hs⟩
theorem al_done {w W:World} {KA RA:Option Addr} {kc rc m:Nat} {ps:List PgS} {root:Int} {xs:List YnD} (h:xs.map pgN=rowF ps root 0) (hm:m=(esY xs).length) (hs:St w [] [eO 9 1 (.slice KA m kc) m ((esY xs).map tqS),eO 33 2 (.slice RA m rc) m ((esY xs).flatMap tqR)] W):AlPost (allF ps root) w (.returned (.tuple #[.slice KA m kc, .slice RA m rc])) W:=by
 rw [esY_all h] at hm hs
 subst hm
 exact ⟨KA,kc,RA,rc,rfl,hs⟩
theorem kleaves_g (tt:TypeId) (tv:Value) (root:Int) (ps:List PgS) (w:World) (hS:PgsOk w tt tv ps) (hok:OkS ps) (hoc:OkC ps):
  Calls Tryz.prog 40 #[.iface tt (tv), .int .i64 root] w (LfPost (rowF ps root 0) w):=by
 refine (callsIn_wide (n:=3)).1 (callsIn_of_wp_marks Tryz.func40 rfl trivial (wpIn_wide.2 ?_) rfl)
 simp only [Tryz.ntmps40,List.size_toArray,List.length_cons,List.length_nil,Nat.reduceAdd,Nat.reduceSub,Array.replicate_succ,Array.replicate_zero,List.push_toArray,List.append_toArray,List.nil_append,List.cons_append]
 have hst0:=St.start w
 refine wp_seq (wp_region_P [0] [.k 4 (.slice none 0 0)] [(4,0,1,5)] hst0 fun W1 hst1=>?_)
 refine then_normal (wp_seq (wp_region_Y [0] [] [[0]] [] [.a 5] (fun ix σ β X=>match ix with | 0=>σ 5=vp (pb (β 5))∧X 0=eB (pb (β 5)) 22 #[.slice none 0 0] | _=>True) [0] [0] [(5,0,1,6)] hst1 ?_ ?_ ?_))
 ·exact fun ix _ _ _ _ _ _ hs hb hx h=>match ix,h with
  | 0,h=>by dsimp only; rw [← hs 5 rfl,← hb 5 rfl,← hx 0 rfl]; exact h
  | _+1, _=>trivial
 ·refine ⟨?_,trivial⟩
  ·refine svA fun ρ β W X cx=>?_
   exact dv_alloc (cs:=#[.slice none 0 0]) rfl (by kernel_rfl) rfl rfl (fun σ β' X' hs hb hv hx=>⟨hv,hx⟩)
 intro σ β X W2 hD hst2 fr hfr
 obtain ⟨B5_2,hu_B5_2⟩:∃ z,pb (β 5)=z:=⟨_,rfl⟩
 simp only [exq 0 ((dTn (hD 0 lq)).2),hu_B5_2] at hst2
 simp only [ed 5 ((dTn (hD 0 lq)).1),hu_B5_2] at hfr
 clear hD hu_B5_2; subst hfr; clear σ β X
 refine then_normal (wp_seq (wp_seq (wp_region_Y [0,0,3] [] [[],[],[1,2,3]] [] [.k 7 (.iface tt (tv)), .k 8 (vi root), .a 9] (fun ix σ β X=>match ix with | 0=>True | 1=>True | 2=>σ 9= .func (.func 101) #[] #[vp (pcp 0 (β 9)),vp (pcp 1 (β 9)),vp (pcp 2 (β 9))]∧X 1=eB (pcp 0 (β 9)) 78 #[.iface tt (tv)]∧X 2=eB (pcp 1 (β 9)) 3 #[vi root]∧X 3=eB (pcp 2 (β 9)) 3 #[vi 0] | _=>True) [0,1,2,3] [2] [(7,0,3,10)] hst2 ?_ ?_ ?_)))
 ·exact fun ix _ _ _ _ _ _ hs hb hx h=>match ix,h with
  | 2,h=>by dsimp only; rw [← hs 9 rfl,← hb 9 rfl,← hx 1 rfl,← hx 2 rfl,← hx 3 rfl]; exact h
  | 0, _ | 1, _ | _+3, _=>trivial
 ·refine ⟨?_,trivial⟩
  ·refine svA fun ρ β W X cx=>?_
   refine DoesU.call (run_callF (args:=#[.iface tt (tv),vi root,vi 0]) rfl cx.sees rfl (by kernel_rfl) (map3 (cx.an 0) (cx.an 1) (cx.co _))) ?_
   refine (krowc_any tt tv root 0 _).mono ?_
   rintro e W1 ⟨B4,B5,B6,rfl,hs4⟩
   refine ⟨_,rfl,post_st [eB B4 78 #[.iface tt (tv)],eB B5 3 #[vi root],eB B6 3 #[vi 0]] rfl rfl hs4 (fun σ β' X' hs hb hv hN=>?_)⟩
   have hv1:=(hv 9 rfl).1; have hv2:=(hv 9 rfl).2
   exact ⟨hv1.trans (by rw [hv2]; rfl),(by rw [hv2]; exact (List.cons.inj hN).1),(by rw [hv2]; exact (List.cons.inj (List.cons.inj hN).2).1),(by rw [hv2]; exact (List.cons.inj (List.cons.inj (List.cons.inj hN).2).2).1)⟩
 intro σ β X W3 hD hst3 fr hfr
 obtain ⟨B9a_3,hu_B9a_3⟩:∃ z,pcp 0 (β 9)=z:=⟨_,rfl⟩
 obtain ⟨B9b_3,hu_B9b_3⟩:∃ z,pcp 1 (β 9)=z:=⟨_,rfl⟩
 obtain ⟨B9c_3,hu_B9c_3⟩:∃ z,pcp 2 (β 9)=z:=⟨_,rfl⟩
 simp only [exq 1 ((dTn (hD 2 lq)).2.1),exq 2 ((dTn (hD 2 lq)).2.2.1),exq 3 ((dTn (hD 2 lq)).2.2.2),hu_B9a_3,hu_B9b_3,hu_B9c_3] at hst3
 simp only [ed 9 ((dTn (hD 2 lq)).1),hu_B9a_3,hu_B9b_3,hu_B9c_3] at hfr
 clear hD hu_B9a_3 hu_B9b_3 hu_B9c_3; subst hfr; clear σ β X
 refine then_normal (wp_block ?_)
 have hn4:=St.nilrow hst3 3
 simp only [List.cons_append,List.nil_append] at hn4
 have hp6:=hn4.pick [0,4] (by decide) rfl
 refine wp_rangeSG (α:=YnD) hp6 rfl (enters_of Tryz.func101 (by kernel_rfl) rfl) (encs:=ynE) (Ex:=ynR) (N:=1000) (Z:=YnZ (rowF ps root 0)) (krow_seqG _ _ _ _ _ _ _ hok hoc) (fun A hA=>RdR.keep (hn4.pick [1,2,3,0,4] (by decide) rfl) hS hA) (fun _=>rfl) (fun bb pre L=>cond bb (∃ SA:Option Addr,∃ n:Nat,∃ sc:Nat,n=pre.length∧L=[eB B5_2 22 #[.slice SA n sc],eO 3 1 (.slice SA n sc) n (pre.map lfI)]) (False)) ⟨none,0,0,rfl,rfl⟩ (fun xx a_ E_=>∃ BV:Nat,a_=⟨([.iface tt (tv),vi root,undef,undef, .slice none 0 0,vp B5_2,vp BV, .iface tt (tv),vi root, .func (.func 101) #[] #[vp B9a_3,vp B9b_3,vp B9c_3], .agg #[vi xx.2.1,vi xx.1.lv,vi xx.1.right, .string xx.1.high, .bool xx.1.dead, .slice xx.2.2.1 xx.1.es.length xx.2.2.2,vi ((xx.1.free:Int))],undef,undef,undef,undef,undef,undef]).toArray,[]⟩∧E_=eB BV 84 #[vi xx.2.1,vi xx.1.lv,vi xx.1.right, .string xx.1.high, .bool xx.1.dead, .slice xx.2.2.1 xx.1.es.length xx.2.2.2,vi ((xx.1.free:Int))]) (fun xx=>[.iface tt (tv),vi root,undef,undef, .slice none 0 0,vp B5_2,undef, .iface tt (tv),vi root, .func (.func 101) #[] #[vp B9a_3,vp B9b_3,vp B9c_3], .agg #[vi xx.2.1,vi xx.1.lv,vi xx.1.right, .string xx.1.high, .bool xx.1.dead, .slice xx.2.2.1 xx.1.es.length xx.2.2.2,vi ((xx.1.free:Int))],undef,undef,undef,undef,undef,undef]) (fun xx=>by kernel_rfl) ?_ ?_ ?_ ?_
 ·intro rl xx W5 K hK
  have hst5:=St.start W5
  refine wpIn_region_Y [0,1] [[],[0]] [[0],[1]] [[],[0]] [.a 6, .n] (fun ix σ β X=>match ix with | 0=>σ 6=vp (pb (β 6))∧X 0=eB (pb (β 6)) 84 #[vi 0,vi 0,vi 0, .string ByteArray.empty, .bool false, .slice none 0 0,vi 0] | 1=>X 1=eB (pb (β 6)) 84 #[vi xx.2.1,vi xx.1.lv,vi xx.1.right, .string xx.1.high, .bool xx.1.dead, .slice xx.2.2.1 xx.1.es.length xx.2.2.2,vi ((xx.1.free:Int))] | _=>True) [1] [0,1] [(6,0,1,7)] hst5 ?_ ?_ ?_
  ·exact fun ix _ _ _ _ _ _ hs hb hx h=>match ix,h with
   | 0,h=>by dsimp only; rw [← hs 6 rfl,← hb 6 rfl,← hx 0 rfl]; exact h
   | 1,h=>by dsimp only; rw [← hb 6 rfl,← hx 1 rfl]; exact h
   | _+2, _=>trivial
  ·refine ⟨?_,?_,trivial⟩
   ·refine svA fun ρ β W X cx=>?_
    exact dv_alloc (cs:=#[vi 0,vi 0,vi 0, .string ByteArray.empty, .bool false, .slice none 0 0,vi 0]) rfl (by kernel_rfl) rfl rfl (fun σ β' X' hs hb hv hx=>⟨hv,hx⟩)
   ·refine svA fun ρ β W X cx=>?_
    exact dv_store (n:=7) rfl (dTn (cx.an 0)).1 (cx.ou 10) (by kernel_rfl) (by kernel_rfl) (by kernel_rfl) cx (dTn (cx.an 0)).2 rfl (nle rfl) (by kernel_rfl) rfl rfl rfl (fun σ β' X' hs hb hx=>by rw [hb 6]; exact hx)
  intro σ β X W7 hD hst7 fr hfr
  obtain ⟨B6_7,hu_B6_7⟩:∃ z,pb (β 6)=z:=⟨_,rfl⟩
  simp only [exq 1 ((dTn (hD 1 lq))),hu_B6_7] at hst7
  simp only [ed 6 ((dTn (hD 0 lq)).1),hu_B6_7] at hfr
  clear hD hu_B6_7; subst hfr; clear σ β X
  exact hK _ _ _ ⟨_,rfl,rfl⟩ (hst7.pick [0] (by decide) rfl)
 ·rintro rl pre xx W8 L8 a8 E8 ⟨SA,n,sc,hn,rfl⟩ hlen8 hPx8 ⟨BV,rfl,rfl⟩ hst8r
  have hst8:St W8 (fps ([eB B5_2 22 #[.slice SA n sc],eO 3 1 (.slice SA n sc) n (pre.map lfI)]++[eO 89 3 (.slice xx.2.2.1 xx.1.es.length xx.2.2.2) xx.1.es.length (xx.1.es.flatMap enC),eB BV 84 #[vi xx.2.1,vi xx.1.lv,vi xx.1.right, .string xx.1.high, .bool xx.1.dead, .slice xx.2.2.1 xx.1.es.length xx.2.2.2,vi ((xx.1.free:Int))]])) [eB B5_2 22 #[.slice SA n sc],eO 3 1 (.slice SA n sc) n (pre.map lfI),eO 89 3 (.slice xx.2.2.1 xx.1.es.length xx.2.2.2) xx.1.es.length (xx.1.es.flatMap enC),eB BV 84 #[vi xx.2.1,vi xx.1.lv,vi xx.1.right, .string xx.1.high, .bool xx.1.dead, .slice xx.2.2.1 xx.1.es.length xx.2.2.2,vi ((xx.1.free:Int))]] W8:=hst8r
  clear hst8r
  refine wpIn_block (wpIn_region_Y [0,0,2,6,15,31] [[0],[],[3],[],[4,1],[0]] [[],[],[],[4],[5],[6]] [[],[],[],[],[1],[0]] [.c 11 (.slice SA n sc), .k 12 (vp BV), .c 13 (vi xx.2.1), .a 14, .a 15, .n] (fun ix σ β X=>match ix with | 0=>True | 1=>True | 2=>True | 3=>σ 14= .slice (sA (β 14)) 1 1∧X 4=eO 3 1 (.slice (sA (β 14)) 1 1) 1 ([vi xx.2.1]) | 4=>σ 15= .slice (sA (β 15)) (n+1) (sC (β 15))∧X 5=eO 3 1 (.slice (sA (β 15)) (n+1) (sC (β 15))) (n+1) ((pre++[xx]).map lfI) | 5=>X 6=eB B5_2 22 #[.slice (sA (β 15)) (n+1) (sC (β 15))] | _=>True) [2,3,4,5,6] [0,2,3,4,5] [(11,0,5,16)] hst8 ?_ ?_ ?_)
  ·exact fun ix _ _ _ _ _ _ hs hb hx h=>match ix,h with
   | 3,h=>by dsimp only; rw [← hs 14 rfl,← hb 14 rfl,← hx 4 rfl]; exact h
   | 4,h=>by dsimp only; rw [← hs 15 rfl,← hb 15 rfl,← hx 5 rfl]; exact h
   | 5,h=>by dsimp only; rw [← hb 15 rfl,← hx 6 rfl]; exact h
   | 0, _ | 1, _ | 2, _ | _+6, _=>trivial
  ·refine ⟨?_,?_,?_,?_,?_,trivial⟩
   ·exact xs4 rfl id fun cx=>run_load1 rfl (by kernel_rfl) (cx.ou 5) ((cx.bi 0 rfl).cell 0)
   ·exact xs4 rfl id fun cx=>run_load1 rfl (by kernel_rfl) (cx.an 1) ((cx.bi 3 rfl).cell 0)
   ·refine svA fun ρ β W X cx=>?_
    have fF13:ρ (.tmp 13)=vi xx.2.1:=(cx.an 2)
    exact dv_lit (e:=3) (xs:=[vi xx.2.1]) rfl (by simp [go_sem,fF13]) rfl (by decide) rfl rfl (fun σ β' X' hs hb hv hx=>⟨hv,hx⟩)
   ·refine svA fun ρ β W X cx=>?_
    obtain ⟨i0,hi0,hz0,hz1,hz2⟩:=info_parts Tryz.infoInt
    refine dv_append (n:=n) (m:=1) (nm:=n+1) (xs:=pre.map lfI) (news:=[vi xx.2.1]) (xs':=(pre++[xx]).map lfI) rfl (ty:=22) rfl (by kernel_rfl) hi0 hz0 hz1 hz2 rfl (cx.an 0) cx (cx.init 1 _ rfl) rfl (dTn (cx.an 3)).1 (by rfl) (At.of_own (cx.row (dTn (cx.an 3)).2 rfl)) (by simp [Value.oneCell']) (by simp only [maxLen]; omega) (by omega) rfl rfl rfl (by omega) (lf_snoc _ _) (fun σ β' X' hs hb hv hx=>?_)
    exact ⟨hv,hx⟩
   ·refine svA fun ρ β W X cx=>?_
    exact dv_store (n:=1) rfl (cx.ou 5) (dTn (cx.an 4)).1 (by kernel_rfl) (by kernel_rfl) (by kernel_rfl) cx (cx.init 0 _ rfl) rfl (nle rfl) (by kernel_rfl) rfl rfl rfl (fun σ β' X' hs hb hx=>by rw [hb 15]; exact hx)
  intro σ β X W9 hD hst9 fr hfr
  obtain ⟨A14_9,hu_A14_9⟩:∃ z,sA (β 14)=z:=⟨_,rfl⟩
  obtain ⟨A15_9,hu_A15_9⟩:∃ z,sA (β 15)=z:=⟨_,rfl⟩
  obtain ⟨c15_9,hu_c15_9⟩:∃ z,sC (β 15)=z:=⟨_,rfl⟩
  simp only [exq 4 ((dTn (hD 3 lq)).2),exq 5 ((dTn (hD 4 lq)).2),exq 6 ((dTn (hD 5 lq))),hu_A14_9,hu_A15_9,hu_c15_9] at hst9
  simp only [ed 14 ((dTn (hD 3 lq)).1),ed 15 ((dTn (hD 4 lq)).1),hu_A14_9,hu_A15_9,hu_c15_9] at hfr
  clear hD hu_A14_9 hu_A15_9 hu_c15_9; subst hfr; clear σ β X
  refine blk_normal ?_
  exact ⟨true, .inl ⟨rfl,rfl⟩, _,⟨A15_9,(n+1),c15_9,by rw [hn,List.length_append]; rfl,rfl⟩,hst9.pick [4,3,0] (by decide) rfl⟩
 ·rintro D5 W5d L5 XS_ E_ ⟨SA,n,sc,hn,rfl⟩ hZ_ hst5r
  have hst5d:St w [] [eB B5_2 22 #[.slice SA n sc],eO 3 1 (.slice SA n sc) n (XS_.map lfI),E_,eDfr D5] W5d:=hst5r
  clear hst5r
  refine blk_normal (then_normal (wp_seq (wp_region_Z [0,1] [[0]] [.c 16 (.slice SA n sc), .k 4 (.slice SA n sc)] [0,1,2,3] [0] [(4,1,1,5),(11,0,1,12)] hst5d ?_ fun W10 hst10=>?_)))
  ·refine ⟨?_,trivial⟩
   ·exact xs4 rfl id fun cx=>run_load1 rfl (by kernel_rfl) (cx.ou 5) ((cx.bi 0 rfl).cell 0)
  refine then_normal (wp_ret ?_)
  refine bpm_take (L:=[eB B5_2 22 #[.slice SA n sc],eO 3 1 (.slice SA n sc) n (XS_.map lfI),E_]) (hst10.pick [0,1,2,3] (by decide) rfl) fun Wt11 ht11=>?_
  refine ⟨.slice SA n sc,(results_1 Tryz.results40 rpt),?_⟩
  exact lf_done (hZ_.2.1 rfl) hn (ht11.pick [1] (by decide) rfl)
 ·exact fun D W L xs E h=>h.elim
theorem kall_g (tt:TypeId) (tv:Value) (root:Int) (ps:List PgS) (w:World) (hS:PgsOk w tt tv ps) (hok:OkS ps) (hoc:OkC ps):
  Calls Tryz.prog 23 #[.iface tt (tv), .int .i64 root] w (AlPost (allF ps root) w):=by
 refine (callsIn_wide (n:=3)).1 (callsIn_of_wp_marks Tryz.func23 rfl trivial (wpIn_wide.2 ?_) rfl)
 simp only [Tryz.ntmps23,List.size_toArray,List.length_cons,List.length_nil,Nat.reduceAdd,Nat.reduceSub,Array.replicate_succ,Array.replicate_zero,List.push_toArray,List.append_toArray,List.nil_append,List.cons_append]
 have hst0:=St.start w
 refine wp_seq (wp_region_Y [0,0] [] [[0],[1]] [] [.a 4, .a 5] (fun ix σ β X=>match ix with | 0=>σ 4=vp (pb (β 4))∧X 0=eB (pb (β 4)) 56 #[.slice none 0 0] | 1=>σ 5=vp (pb (β 5))∧X 1=eB (pb (β 5)) 57 #[.slice none 0 0] | _=>True) [0,1] [0,1] [(4,0,2,6)] hst0 ?_ ?_ ?_)
 ·exact fun ix _ _ _ _ _ _ hs hb hx h=>match ix,h with
  | 0,h=>by dsimp only; rw [← hs 4 rfl,← hb 4 rfl,← hx 0 rfl]; exact h
  | 1,h=>by dsimp only; rw [← hs 5 rfl,← hb 5 rfl,← hx 1 rfl]; exact h
  | _+2, _=>trivial
 ·refine ⟨?_,?_,trivial⟩
  ·refine svA fun ρ β W X cx=>?_
   exact dv_alloc (cs:=#[.slice none 0 0]) rfl (by kernel_rfl) rfl rfl (fun σ β' X' hs hb hv hx=>⟨hv,hx⟩)
  ·refine svA fun ρ β W X cx=>?_
   exact dv_alloc (cs:=#[.slice none 0 0]) rfl (by kernel_rfl) rfl rfl (fun σ β' X' hs hb hv hx=>⟨hv,hx⟩)
 intro σ β X W1 hD hst1 fr hfr
 obtain ⟨B4_1,hu_B4_1⟩:∃ z,pb (β 4)=z:=⟨_,rfl⟩
 obtain ⟨B5_1,hu_B5_1⟩:∃ z,pb (β 5)=z:=⟨_,rfl⟩
 simp only [exq 0 ((dTn (hD 0 lq)).2),exq 1 ((dTn (hD 1 lq)).2),hu_B4_1,hu_B5_1] at hst1
 simp only [ed 4 ((dTn (hD 0 lq)).1),ed 5 ((dTn (hD 1 lq)).1),hu_B4_1,hu_B5_1] at hfr
 clear hD hu_B4_1 hu_B5_1; subst hfr; clear σ β X
 refine then_normal (wp_seq (wp_seq (wp_region_Y [0,0,3] [] [[],[],[2,3,4]] [] [.k 12 (.iface tt (tv)), .k 13 (vi root), .a 14] (fun ix σ β X=>match ix with | 0=>True | 1=>True | 2=>σ 14= .func (.func 101) #[] #[vp (pcp 0 (β 14)),vp (pcp 1 (β 14)),vp (pcp 2 (β 14))]∧X 2=eB (pcp 0 (β 14)) 78 #[.iface tt (tv)]∧X 3=eB (pcp 1 (β 14)) 3 #[vi root]∧X 4=eB (pcp 2 (β 14)) 3 #[vi 0] | _=>True) [0,1,2,3,4] [2] [(12,0,3,15)] hst1 ?_ ?_ ?_)))
 ·exact fun ix _ _ _ _ _ _ hs hb hx h=>match ix,h with
  | 2,h=>by dsimp only; rw [← hs 14 rfl,← hb 14 rfl,← hx 2 rfl,← hx 3 rfl,← hx 4 rfl]; exact h
  | 0, _ | 1, _ | _+3, _=>trivial
 ·refine ⟨?_,trivial⟩
  ·refine svA fun ρ β W X cx=>?_
   refine DoesU.call (run_callF (args:=#[.iface tt (tv),vi root,vi 0]) rfl cx.sees rfl (by kernel_rfl) (map3 (cx.an 0) (cx.an 1) (cx.co _))) ?_
   refine (krowc_any tt tv root 0 _).mono ?_
   rintro e W1 ⟨B4,B5,B6,rfl,hs4⟩
   refine ⟨_,rfl,post_st [eB B4 78 #[.iface tt (tv)],eB B5 3 #[vi root],eB B6 3 #[vi 0]] rfl rfl hs4 (fun σ β' X' hs hb hv hN=>?_)⟩
   have hv1:=(hv 14 rfl).1; have hv2:=(hv 14 rfl).2
   exact ⟨hv1.trans (by rw [hv2]; rfl),(by rw [hv2]; exact (List.cons.inj hN).1),(by rw [hv2]; exact (List.cons.inj (List.cons.inj hN).2).1),(by rw [hv2]; exact (List.cons.inj (List.cons.inj (List.cons.inj hN).2).2).1)⟩
 intro σ β X W2 hD hst2 fr hfr
 obtain ⟨B14a_2,hu_B14a_2⟩:∃ z,pcp 0 (β 14)=z:=⟨_,rfl⟩
 obtain ⟨B14b_2,hu_B14b_2⟩:∃ z,pcp 1 (β 14)=z:=⟨_,rfl⟩
 obtain ⟨B14c_2,hu_B14c_2⟩:∃ z,pcp 2 (β 14)=z:=⟨_,rfl⟩
 simp only [exq 2 ((dTn (hD 2 lq)).2.1),exq 3 ((dTn (hD 2 lq)).2.2.1),exq 4 ((dTn (hD 2 lq)).2.2.2),hu_B14a_2,hu_B14b_2,hu_B14c_2] at hst2
 simp only [ed 14 ((dTn (hD 2 lq)).1),hu_B14a_2,hu_B14b_2,hu_B14c_2] at hfr
 clear hD hu_B14a_2 hu_B14b_2 hu_B14c_2; subst hfr; clear σ β X
 refine then_normal (wp_block ?_)
 have hn3:=St.nilrow hst2 9
 simp only [List.cons_append,List.nil_append] at hn3
 have hn4:=nilrowN hn3 33 2
 simp only [List.cons_append,List.nil_append] at hn4
 have hp6:=hn4.pick [0,1,5,6] (by decide) rfl
 refine wp_rangeSG (α:=YnD) hp6 rfl (enters_of Tryz.func101 (by kernel_rfl) rfl) (encs:=ynE) (Ex:=ynR) (N:=1000) (Z:=YnZ (rowF ps root 0)) (krow_seqG _ _ _ _ _ _ _ hok hoc) (fun A hA=>RdR.keep (hn4.pick [2,3,4,0,1,5,6] (by decide) rfl) hS hA) (fun _=>rfl) (fun bb pre L=>cond bb (∃ m:Nat,∃ KA:Option Addr,∃ kc:Nat,∃ RA:Option Addr,∃ rc:Nat,m=(esY pre).length∧m≤100*pre.length∧L=[eB B4_1 56 #[.slice KA m kc],eB B5_1 57 #[.slice RA m rc],eO 9 1 (.slice KA m kc) m ((esY pre).map tqS),eO 33 2 (.slice RA m rc) m ((esY pre).flatMap tqR)]) (False)) ⟨0,none,0,none,0,rfl,Nat.zero_le _,rfl⟩ (fun xx a_ E_=>∃ BV:Nat,a_=⟨([.iface tt (tv),vi root,undef,undef,vp B4_1,vp B5_1,vp BV,undef,undef,undef,undef,undef, .iface tt (tv),vi root, .func (.func 101) #[] #[vp B14a_2,vp B14b_2,vp B14c_2], .agg #[vi xx.2.1,vi xx.1.lv,vi xx.1.right, .string xx.1.high, .bool xx.1.dead, .slice xx.2.2.1 xx.1.es.length xx.2.2.2,vi ((xx.1.free:Int))],undef,undef,undef,undef,undef,undef,undef,undef,undef,undef,undef,undef,undef,undef,undef,undef,undef,undef,undef,undef,undef,undef,undef,undef,undef]).toArray,[]⟩∧E_=eB BV 84 #[vi xx.2.1,vi xx.1.lv,vi xx.1.right, .string xx.1.high, .bool xx.1.dead, .slice xx.2.2.1 xx.1.es.length xx.2.2.2,vi ((xx.1.free:Int))]) (fun xx=>[.iface tt (tv),vi root,undef,undef,vp B4_1,vp B5_1,undef,undef,undef,undef,undef,undef, .iface tt (tv),vi root, .func (.func 101) #[] #[vp B14a_2,vp B14b_2,vp B14c_2], .agg #[vi xx.2.1,vi xx.1.lv,vi xx.1.right, .string xx.1.high, .bool xx.1.dead, .slice xx.2.2.1 xx.1.es.length xx.2.2.2,vi ((xx.1.free:Int))],undef,undef,undef,undef,undef,undef,undef,undef,undef,undef,undef,undef,undef,undef,undef,undef,undef,undef,undef,undef,undef,undef,undef,undef,undef]) (fun xx=>by kernel_rfl) ?_ ?_ ?_ ?_
 ·intro rl xx W5 K hK
  have hst5:=St.start W5
  refine wpIn_region_Y [0,1] [[],[0]] [[0],[1]] [[],[0]] [.a 6, .n] (fun ix σ β X=>match ix with | 0=>σ 6=vp (pb (β 6))∧X 0=eB (pb (β 6)) 84 #[vi 0,vi 0,vi 0, .string ByteArray.empty, .bool false, .slice none 0 0,vi 0] | 1=>X 1=eB (pb (β 6)) 84 #[vi xx.2.1,vi xx.1.lv,vi xx.1.right, .string xx.1.high, .bool xx.1.dead, .slice xx.2.2.1 xx.1.es.length xx.2.2.2,vi ((xx.1.free:Int))] | _=>True) [1] [0,1] [(6,0,1,7)] hst5 ?_ ?_ ?_
  ·exact fun ix _ _ _ _ _ _ hs hb hx h=>match ix,h with
   | 0,h=>by dsimp only; rw [← hs 6 rfl,← hb 6 rfl,← hx 0 rfl]; exact h
   | 1,h=>by dsimp only; rw [← hb 6 rfl,← hx 1 rfl]; exact h
   | _+2, _=>trivial
  ·refine ⟨?_,?_,trivial⟩
   ·refine svA fun ρ β W X cx=>?_
    exact dv_alloc (cs:=#[vi 0,vi 0,vi 0, .string ByteArray.empty, .bool false, .slice none 0 0,vi 0]) rfl (by kernel_rfl) rfl rfl (fun σ β' X' hs hb hv hx=>⟨hv,hx⟩)
   ·refine svA fun ρ β W X cx=>?_
    exact dv_store (n:=7) rfl (dTn (cx.an 0)).1 (cx.ou 15) (by kernel_rfl) (by kernel_rfl) (by kernel_rfl) cx (dTn (cx.an 0)).2 rfl (nle rfl) (by kernel_rfl) rfl rfl rfl (fun σ β' X' hs hb hx=>by rw [hb 6]; exact hx)
  intro σ β X W7 hD hst7 fr hfr
  obtain ⟨B6_7,hu_B6_7⟩:∃ z,pb (β 6)=z:=⟨_,rfl⟩
  simp only [exq 1 ((dTn (hD 1 lq))),hu_B6_7] at hst7
  simp only [ed 6 ((dTn (hD 0 lq)).1),hu_B6_7] at hfr
  clear hD hu_B6_7; subst hfr; clear σ β X
  exact hK _ _ _ ⟨_,rfl,rfl⟩ (hst7.pick [0] (by decide) rfl)
 ·rintro rl pre xx W8 L8 a8 E8 ⟨m,KA,kc,RA,rc,hm,hmb,rfl⟩ hlen8 hPx8 ⟨BV,rfl,rfl⟩ hst8r
  have hst8:St W8 (fps ([eB B4_1 56 #[.slice KA m kc],eB B5_1 57 #[.slice RA m rc],eO 9 1 (.slice KA m kc) m ((esY pre).map tqS),eO 33 2 (.slice RA m rc) m ((esY pre).flatMap tqR)]++[eO 89 3 (.slice xx.2.2.1 xx.1.es.length xx.2.2.2) xx.1.es.length (xx.1.es.flatMap enC),eB BV 84 #[vi xx.2.1,vi xx.1.lv,vi xx.1.right, .string xx.1.high, .bool xx.1.dead, .slice xx.2.2.1 xx.1.es.length xx.2.2.2,vi ((xx.1.free:Int))]])) [eB B4_1 56 #[.slice KA m kc],eB B5_1 57 #[.slice RA m rc],eO 9 1 (.slice KA m kc) m ((esY pre).map tqS),eO 33 2 (.slice RA m rc) m ((esY pre).flatMap tqR),eO 89 3 (.slice xx.2.2.1 xx.1.es.length xx.2.2.2) xx.1.es.length (xx.1.es.flatMap enC),eB BV 84 #[vi xx.2.1,vi xx.1.lv,vi xx.1.right, .string xx.1.high, .bool xx.1.dead, .slice xx.2.2.1 xx.1.es.length xx.2.2.2,vi ((xx.1.free:Int))]] W8:=hst8r
  clear hst8r
  have hN0:=nd_ok hok hPx8
  have hez:∀ e∈xx.1.es,e.1.size≤1000000:=fun e he=>Nat.le_trans (hN0.es e he) (by decide)
  have hN1:=hN0.len
  refine wpIn_block (wpIn_seq (wpIn_region_Z [0,1,3,0] [[],[5]] [.k 16 (.pointer (some ⟨BV,5,none⟩)), .c 17 (.slice xx.2.2.1 xx.1.es.length xx.2.2.2), .k 18 (vi ((xx.1.es.length:Int))), .k 19 (vi 0)] [0,1,2,3,4,5] [1] [(16,0,4,20)] hst8 ?_ fun W9 hst9=>?_))
  ·refine ⟨?_,trivial⟩
   ·exact xs4 rfl id fun cx=>run_load1 rfl (by kernel_rfl) (cx.an 0) ((cx.bi 5 rfl).cell 5)
  refine then_normal (wpIn_block ?_)
  refine wpIn_loopN (fun mz az W=>∃ j:Nat,∃ q:Nat,∃ T:List EnD,∃ LA:Option Addr,∃ lc:Nat,∃ QA:Option Addr,∃ qc:Nat,j≤xx.1.es.length∧T=esY pre++xx.1.es.take j∧T.length=q∧q≤m+j∧mz=xx.1.es.length - j∧az=⟨#[.iface tt (tv),vi root,undef,undef,vp B4_1,vp B5_1,vp BV,undef,jv az 8,jv az 9,jv az 10,jv az 11, .iface tt (tv),vi root, .func (.func 101) #[] #[vp B14a_2,vp B14b_2,vp B14c_2], .agg #[vi xx.2.1,vi xx.1.lv,vi xx.1.right, .string xx.1.high, .bool xx.1.dead, .slice xx.2.2.1 xx.1.es.length xx.2.2.2,vi ((xx.1.free:Int))], .pointer (some ⟨BV,5,none⟩), .slice xx.2.2.1 xx.1.es.length xx.2.2.2,vi ((xx.1.es.length:Int)),vi ((j:Int)),jv az 20,jv az 21,jv az 22,jv az 23,jv az 24,jv az 25,jv az 26,jv az 27,jv az 28,jv az 29,jv az 30,jv az 31,jv az 32,jv az 33,jv az 34,jv az 35,jv az 36,jv az 37,jv az 38,undef,undef],[]⟩∧St W8 (fps ([eB B4_1 56 #[.slice KA m kc],eB B5_1 57 #[.slice RA m rc],eO 9 1 (.slice KA m kc) m ((esY pre).map tqS),eO 33 2 (.slice RA m rc) m ((esY pre).flatMap tqR)]++[eO 89 3 (.slice xx.2.2.1 xx.1.es.length xx.2.2.2) xx.1.es.length (xx.1.es.flatMap enC),eB BV 84 #[vi xx.2.1,vi xx.1.lv,vi xx.1.right, .string xx.1.high, .bool xx.1.dead, .slice xx.2.2.1 xx.1.es.length xx.2.2.2,vi ((xx.1.free:Int))]])) [eB B4_1 56 #[.slice LA q lc],eB B5_1 57 #[.slice QA q qc],eO 9 1 (.slice LA q lc) q (T.map tqS),eO 33 2 (.slice QA q qc) q (T.flatMap tqR),eO 89 3 (.slice xx.2.2.1 xx.1.es.length xx.2.2.2) xx.1.es.length (xx.1.es.flatMap enC),eB BV 84 #[vi xx.2.1,vi xx.1.lv,vi xx.1.right, .string xx.1.high, .bool xx.1.dead, .slice xx.2.2.1 xx.1.es.length xx.2.2.2,vi ((xx.1.free:Int))]] W) (xx.1.es.length - 0) ?_ ?_
  · -- the loop begins
    exact ⟨0,m,(esY pre),KA,kc,RA,rc,Nat.zero_le _,by rw [List.take_zero,List.append_nil],hm.symm,Nat.le_refl _,rfl,(by kernel_rfl),hst9.pk [0,1,2,3,4,5]⟩
  rintro n10 a10 W10 ⟨j,q,T,LA,lc,QA,qc,hj,hT,hTl,hqm,rfl,hj_,hst10⟩
  obtain ⟨u10_,hu_⟩:∃ z,jv a10=z:=⟨_,rfl⟩
  rw [hu_] at hj_; clear hu_; subst hj_
  refine wpIn_seq (wpIn_region_P [0] [.k 20 (.bool (decide ((j:Int) < (xx.1.es.length:Int))))] [(20,0,1,21)] hst10 fun W11 hst11=>?_)
  refine then_normal (wpIn_seq ?_)
  rcases Bool.eq_false_or_eq_true (decide ((j:Int) < (xx.1.es.length:Int))) with hs12 | hs12
  ·have hs12p:(j:Int) < (xx.1.es.length:Int):=by simpa using hs12
   refine wpIn_cond_true (show Act.eval _ _= .bool true from (congrArg Value.bool hs12)) (wpIn_skip (then_normal (wpIn_seq (wpIn_block (wpIn_seq (wpIn_region_Y [0,1,0,7] [[4],[4],[],[6]] [[],[],[6],[7]] [[],[],[],[6]] [.c 21 (.pointer (some ((ad xx.2.2.1).add (j*3)))), .c 22 (.agg #[.string ((xx.1.es.getD j en0).1),vi (((xx.1.es.getD j en0).2.1:Int)),vi ((xx.1.es.getD j en0).2.2)]), .a 8, .n] (fun ix σ β X=>match ix with | 0=>True | 1=>True | 2=>σ 8=vp (pb (β 8))∧X 6=eB (pb (β 8)) 89 #[.string ByteArray.empty,vi 0,vi 0] | 3=>X 7=eB (pb (β 8)) 89 #[.string ((xx.1.es.getD j en0).1),vi (((xx.1.es.getD j en0).2.1:Int)),vi ((xx.1.es.getD j en0).2.2)] | _=>True) [0,1,2,3,4,5,7] [0,1,2,3] [(8,2,1,9),(12,0,2,14)] hst11 ?_ ?_ ?_))))))
   ·exact fun ix _ _ _ _ _ _ hs hb hx h=>match ix,h with
    | 2,h=>by dsimp only; rw [← hs 8 rfl,← hb 8 rfl,← hx 6 rfl]; exact h
    | 3,h=>by dsimp only; rw [← hb 8 rfl,← hx 7 rfl]; exact h
    | 0, _ | 1, _ | _+4, _=>trivial
   ·refine ⟨?_,?_,?_,?_,trivial⟩
    ·exact xs4 rfl id fun cx=>run_indexSlM (e:=89) (m:=j) (sz:=3) rfl (by kernel_rfl) (by kernel_rfl) (cx.ou 17) (cx.ou 19) (by omega) (by omega) (At.of_ownN (cx.ri 4 rfl)) (by have h_:=flatLen (f:=enC) (sz:=3) enC_len xx.1.es; show 0 < (List.flatMap enC xx.1.es).length; omega)
    ·exact xs4 rfl id fun cx=>run_loadElt (f:=enC) (m:=j) (sz:=3) (off:=0) (n:=3) rfl (by kernel_rfl) (by kernel_rfl) (cx.an 0) rfl enC_len (At.of_ownN (cx.ri 4 rfl)) (en_get (by omega)) (fun k hk=>match k,hk with | 0, _=>rfl | 1, _=>rfl | 2, _=>rfl | k+3,hk=>absurd hk (by omega))
    ·refine svA fun ρ β W X cx=>?_
     exact dv_alloc (cs:=#[.string ByteArray.empty,vi 0,vi 0]) rfl (by kernel_rfl) rfl rfl (fun σ β' X' hs hb hv hx=>⟨hv,hx⟩)
    ·refine svA fun ρ β W X cx=>?_
     exact dv_store (n:=3) rfl (dTn (cx.an 2)).1 (cx.an 1) (by kernel_rfl) (by kernel_rfl) (by kernel_rfl) cx (dTn (cx.an 2)).2 rfl (nle rfl) (by kernel_rfl) rfl rfl rfl (fun σ β' X' hs hb hx=>by rw [hb 8]; exact hx)
   intro σ β X W13 hD hst13 fr hfr
   obtain ⟨B8_13,hu_B8_13⟩:∃ z,pb (β 8)=z:=⟨_,rfl⟩
   simp only [exq 7 ((dTn (hD 3 lq))),hu_B8_13] at hst13
   simp only [ed 8 ((dTn (hD 2 lq)).1),hu_B8_13] at hfr
   clear hD hu_B8_13; subst hfr; clear σ β X
   refine then_normal (wpIn_seq (wpIn_region_Y [0,1,3,7,15,15,15,0,159,447,1023] [[],[6],[],[],[],[],[],[],[],[7]] [[],[],[],[],[],[],[],[7],[],[8]] [[],[],[],[],[],[],[],[],[],[7]] [.k 24 (vp B8_13), .c 25 (.string ((xx.1.es.getD j en0).1)), .c 26 (.tuple #[.string (qkF ((xx.1.es.getD j en0).1)), .agg #[vi (opF ((xx.1.es.getD j en0).1)),vi (osF ((xx.1.es.getD j en0).1))], .bool (decide (4≤((xx.1.es.getD j en0).1).size))]), .k 23 (.tuple #[.string (qkF ((xx.1.es.getD j en0).1)), .agg #[vi (opF ((xx.1.es.getD j en0).1)),vi (osF ((xx.1.es.getD j en0).1))], .bool (decide (4≤((xx.1.es.getD j en0).1).size))]), .k 27 (.string (qkF ((xx.1.es.getD j en0).1))), .k 28 (.agg #[vi (opF ((xx.1.es.getD j en0).1)),vi (osF ((xx.1.es.getD j en0).1))]), .k 29 (.bool (decide (4≤((xx.1.es.getD j en0).1).size))), .a 10, .k 9 (.string (qkF ((xx.1.es.getD j en0).1))), .n, .k 11 (.bool (decide (4≤((xx.1.es.getD j en0).1).size)))] (fun ix σ β X=>match ix with | 0=>True | 1=>True | 2=>True | 3=>True | 4=>True | 5=>True | 6=>True | 7=>σ 10=vp (pb (β 10))∧X 7=eB (pb (β 10)) 33 #[vi 0,vi 0] | 8=>True | 9=>X 8=eB (pb (β 10)) 33 #[vi (opF ((xx.1.es.getD j en0).1)),vi (osF ((xx.1.es.getD j en0).1))] | _=>True) [0,1,2,3,4,5,6,8] [1,2,7,9] [(9,8,1,10),(0,7,1,1),(0,10,1,1),(11,3,1,12),(0,0,3,3),(0,4,3,3)] hst13 ?_ ?_ ?_))
   ·exact fun ix _ _ _ _ _ _ hs hb hx h=>match ix,h with
    | 7,h=>by dsimp only; rw [← hs 10 rfl,← hb 10 rfl,← hx 7 rfl]; exact h
    | 9,h=>by dsimp only; rw [← hb 10 rfl,← hx 8 rfl]; exact h
    | 0, _ | 1, _ | 2, _ | 3, _ | 4, _ | 5, _ | 6, _ | 8, _ | _+10, _=>trivial
   ·refine ⟨?_,?_,?_,?_,trivial⟩
    ·exact xs4 rfl id fun cx=>run_load1 rfl (by kernel_rfl) (cx.an 0) ((cx.bi 6 rfl).cell 0)
    ·exact xsc rfl id rfl rfl fun cx=>⟨_,kpart_any ((xx.1.es.getD j en0).1) _ (getD_size hez _),(map1 (cx.an 1))⟩
    ·refine svA fun ρ β W X cx=>?_
     exact dv_alloc (cs:=#[vi 0,vi 0]) rfl (by kernel_rfl) rfl rfl (fun σ β' X' hs hb hv hx=>⟨hv,hx⟩)
    ·refine svA fun ρ β W X cx=>?_
     exact dv_store (n:=2) rfl (dTn (cx.an 7)).1 (cx.an 5) (by kernel_rfl) (by kernel_rfl) (by kernel_rfl) cx (dTn (cx.an 7)).2 rfl (nle rfl) (by kernel_rfl) rfl rfl rfl (fun σ β' X' hs hb hx=>by rw [hb 10]; exact hx)
   intro σ β X W14 hD hst14 fr hfr
   obtain ⟨B10_14,hu_B10_14⟩:∃ z,pb (β 10)=z:=⟨_,rfl⟩
   simp only [exq 8 ((dTn (hD 9 lq))),hu_B10_14] at hst14
   simp only [ed 10 ((dTn (hD 7 lq)).1),hu_B10_14] at hfr
   clear hD hu_B10_14; subst hfr; clear σ β X
   refine then_normal (wpIn_region_Y [0,0,2,7,0,0,32,127,255,511] [[0],[],[],[8,2],[1],[7],[],[10,3],[0],[1]] [[],[],[8],[9],[],[],[10],[11],[12],[13]] [[],[],[],[2],[],[],[],[3],[0],[1]] [.c 30 (.slice LA q lc), .k 31 (.string (qkF ((xx.1.es.getD j en0).1))), .a 32, .a 33, .c 34 (.slice QA q qc), .c 35 (.agg #[vi (opF ((xx.1.es.getD j en0).1)),vi (osF ((xx.1.es.getD j en0).1))]), .a 36, .a 37, .n, .n] (fun ix σ β X=>match ix with | 0=>True | 1=>True | 2=>σ 32= .slice (sA (β 32)) 1 1∧X 8=eO 9 1 (.slice (sA (β 32)) 1 1) 1 ([.string (qkF ((xx.1.es.getD j en0).1))]) | 3=>σ 33= .slice (sA (β 33)) (q+1) (sC (β 33))∧X 9=eO 9 1 (.slice (sA (β 33)) (q+1) (sC (β 33))) (q+1) ((T++[(xx.1.es.getD j en0)]).map tqS) | 4=>True | 5=>True | 6=>σ 36= .slice ((some ⟨(pb' (β 36)),0,none⟩)) 1 1∧X 10=eO 33 2 (.slice ((some ⟨(pb' (β 36)),0,none⟩)) 1 1) 1 ([vi (opF ((xx.1.es.getD j en0).1)),vi (osF ((xx.1.es.getD j en0).1))]) | 7=>σ 37= .slice (sA (β 37)) (q+1) (sC (β 37))∧X 11=eO 33 2 (.slice (sA (β 37)) (q+1) (sC (β 37))) (q+1) ((T++[(xx.1.es.getD j en0)]).flatMap tqR) | 8=>X 12=eB B4_1 56 #[.slice (sA (β 33)) (q+1) (sC (β 33))] | 9=>X 13=eB B5_1 57 #[.slice (sA (β 37)) (q+1) (sC (β 37))] | _=>True) [4,5,6,7,8,9,10,11,12,13] [0,2,3,4,5,6,7,8,9] [(30,0,8,38)] hst14 ?_ ?_ ?_)
   ·exact fun ix _ _ _ _ _ _ hs hb hx h=>match ix,h with
    | 2,h=>by dsimp only; rw [← hs 32 rfl,← hb 32 rfl,← hx 8 rfl]; exact h
    | 3,h=>by dsimp only; rw [← hs 33 rfl,← hb 33 rfl,← hx 9 rfl]; exact h
    | 6,h=>by dsimp only; rw [← hs 36 rfl,← hb 36 rfl,← hx 10 rfl]; exact h
    | 7,h=>by dsimp only; rw [← hs 37 rfl,← hb 37 rfl,← hx 11 rfl]; exact h
    | 8,h=>by dsimp only; rw [← hb 33 rfl,← hx 12 rfl]; exact h
    | 9,h=>by dsimp only; rw [← hb 37 rfl,← hx 13 rfl]; exact h
    | 0, _ | 1, _ | 4, _ | 5, _ | _+10, _=>trivial
   ·refine ⟨?_,?_,?_,?_,?_,?_,?_,?_,?_,trivial⟩
    ·exact xs4 rfl id fun cx=>run_load1 rfl (by kernel_rfl) (cx.ou 4) ((cx.bi 0 rfl).cell 0)
    ·refine svA fun ρ β W X cx=>?_
     have fF31:ρ (.tmp 31)= .string (qkF ((xx.1.es.getD j en0).1)):=(cx.an 1)
     exact dv_lit (e:=9) (xs:=[.string (qkF ((xx.1.es.getD j en0).1))]) rfl (by simp [go_sem,fF31]) rfl (by decide) rfl rfl (fun σ β' X' hs hb hv hx=>⟨hv,hx⟩)
    ·refine svA fun ρ β W X cx=>?_
     obtain ⟨i0,hi0,hz0,hz1,hz2⟩:=info_parts Tryz.infoStr
     refine dv_append (n:=q) (m:=1) (nm:=q+1) (xs:=T.map tqS) (news:=[.string (qkF ((xx.1.es.getD j en0).1))]) (xs':=(T++[(xx.1.es.getD j en0)]).map tqS) rfl (ty:=56) rfl (by kernel_rfl) hi0 hz0 hz1 hz2 rfl (cx.an 0) cx (cx.init 2 _ rfl) rfl (dTn (cx.an 2)).1 (by rfl) (At.of_own (cx.row (dTn (cx.an 2)).2 rfl)) (by simp [Value.oneCell']) (by simp only [maxLen]; omega) (by omega) rfl rfl rfl (by omega) (tqS_snoc _ _) (fun σ β' X' hs hb hv hx=>?_)
     exact ⟨hv,hx⟩
    ·exact xs4 rfl id fun cx=>run_load1 rfl (by kernel_rfl) (cx.ou 5) ((cx.bi 1 rfl).cell 0)
    ·exact xs4 rfl id fun cx=>run_loadB (n:=2) rfl (by kernel_rfl) (by kernel_rfl) (cx.ou 10) (cx.bi 7 rfl) (nle rfl) rfl
    ·refine svA fun ρ β W X cx=>?_
     have fF35:ρ (.tmp 35)= .agg #[vi (opF ((xx.1.es.getD j en0).1)),vi (osF ((xx.1.es.getD j en0).1))]:=(cx.an 5)
     exact dv_litN (e:=33) (sz:=2) (xs:=[vi (opF ((xx.1.es.getD j en0).1)),vi (osF ((xx.1.es.getD j en0).1))]) rfl (by simp [go_sem,fF35]) rfl (by decide) rfl rfl (fun σ β' X' hs hb hv hx=>⟨hv,hx⟩)
    ·refine svA fun ρ β W X cx=>?_
     obtain ⟨i0,hi0,hz0,hz1,hz2⟩:=info_parts Tryz.infoTid
     refine dv_appendN (n:=q) (m:=1) (nm:=q+1) (sz:=2) (xs:=T.flatMap tqR) (news:=[vi (opF ((xx.1.es.getD j en0).1)),vi (osF ((xx.1.es.getD j en0).1))]) (xs':=(T++[(xx.1.es.getD j en0)]).flatMap tqR) rfl (ty:=57) rfl (by kernel_rfl) hi0 hz0 hz1 hz2 rfl (by decide) (cx.an 4) cx (cx.init 3 _ rfl) rfl (dTn (cx.an 6)).1 (by rfl) (At.of_ownN (cx.row (dTn (cx.an 6)).2 rfl)) (by simp [Value.oneCell']) (by simp only [maxLen]; omega) (by omega) rfl rfl rfl (by omega) (tqR_snoc _ _) (fun σ β' X' hs hb hv hx=>?_)
     exact ⟨hv,hx⟩
    ·refine svA fun ρ β W X cx=>?_
     exact dv_store (n:=1) rfl (cx.ou 4) (dTn (cx.an 3)).1 (by kernel_rfl) (by kernel_rfl) (by kernel_rfl) cx (cx.init 0 _ rfl) rfl (nle rfl) (by kernel_rfl) rfl rfl rfl (fun σ β' X' hs hb hx=>by rw [hb 33]; exact hx)
    ·refine svA fun ρ β W X cx=>?_
     exact dv_store (n:=1) rfl (cx.ou 5) (dTn (cx.an 7)).1 (by kernel_rfl) (by kernel_rfl) (by kernel_rfl) cx (cx.init 1 _ rfl) rfl (nle rfl) (by kernel_rfl) rfl rfl rfl (fun σ β' X' hs hb hx=>by rw [hb 37]; exact hx)
   intro σ β X W15 hD hst15 fr hfr
   obtain ⟨A32_15,hu_A32_15⟩:∃ z,sA (β 32)=z:=⟨_,rfl⟩
   obtain ⟨A33_15,hu_A33_15⟩:∃ z,sA (β 33)=z:=⟨_,rfl⟩
   obtain ⟨c33_15,hu_c33_15⟩:∃ z,sC (β 33)=z:=⟨_,rfl⟩
   obtain ⟨B36_15,hu_B36_15⟩:∃ z,pb' (β 36)=z:=⟨_,rfl⟩
   obtain ⟨A37_15,hu_A37_15⟩:∃ z,sA (β 37)=z:=⟨_,rfl⟩
   obtain ⟨c37_15,hu_c37_15⟩:∃ z,sC (β 37)=z:=⟨_,rfl⟩
   simp only [exq 8 ((dTn (hD 2 lq)).2),exq 9 ((dTn (hD 3 lq)).2),exq 10 ((dTn (hD 6 lq)).2),exq 11 ((dTn (hD 7 lq)).2),exq 12 ((dTn (hD 8 lq))),exq 13 ((dTn (hD 9 lq))),hu_A32_15,hu_A33_15,hu_c33_15,hu_B36_15,hu_A37_15,hu_c37_15] at hst15
   simp only [ed 32 ((dTn (hD 2 lq)).1),ed 33 ((dTn (hD 3 lq)).1),ed 36 ((dTn (hD 6 lq)).1),ed 37 ((dTn (hD 7 lq)).1),hu_A32_15,hu_A33_15,hu_c33_15,hu_B36_15,hu_A37_15,hu_c37_15] at hfr
   clear hD hu_A32_15 hu_A33_15 hu_c33_15 hu_B36_15 hu_A37_15 hu_c37_15; subst hfr; clear σ β X
   refine blk_normal (then_normal (wpIn_region_P [0,1] [tI 38 ((j:Int)+1) (by omega), .k 19 (vi ((j:Int)+1))] [(19,1,1,20),(18,0,1,19)] hst15 fun W16 hst16=>?_))
   refine then_normal ?_
   refine ⟨xx.1.es.length - ((j+1)),by omega,?_⟩
   exact ⟨(j+1),(q+1),(T++[(xx.1.es.getD j en0)]),A33_15,c33_15,A37_15,c37_15,by omega,by rw [hT,take_getD (by omega),List.append_assoc],by rw [List.length_append,hTl]; rfl,by omega,rfl,(by kernel_rfl),hst16.pk [8,9,5,7,0,1]⟩
  have hs12p:¬ ((j:Int) < (xx.1.es.length:Int)):=by simpa using hs12
  refine wpIn_cond_false (show Act.eval _ _= .bool false from (congrArg Value.bool hs12)) (wpIn_exit (then_exit (then_exit (blk_eq (blk_normal ?_)))))
  have hfin_:T=esY (pre++[xx]):=by rw [hT,esY_snoc,List.take_of_length_le (by omega)]
  rw [hfin_] at hst11 hTl
  exact ⟨true, .inl ⟨rfl,rfl⟩, _,⟨q,LA,lc,QA,qc,hTl.symm,by rw [List.length_append]; show q≤100*(pre.length+1); omega,rfl⟩,hst11.pick [0,1,2,3,4] (by decide) rfl⟩
 ·rintro D5 W5d L5 XS_ E_ ⟨m,KA,kc,RA,rc,hm,hmb,rfl⟩ hZ_ hst5r
  have hst5d:St w [] [eB B4_1 56 #[.slice KA m kc],eB B5_1 57 #[.slice RA m rc],eO 9 1 (.slice KA m kc) m ((esY XS_).map tqS),eO 33 2 (.slice RA m rc) m ((esY XS_).flatMap tqR),E_,eDfr D5] W5d:=hst5r
  clear hst5r
  refine blk_normal (then_normal (wp_seq (wp_region_Y [0,0,1,7] [[0],[1],[0],[1]] [[],[],[6],[7]] [[],[],[0],[1]] [.c 39 (.slice KA m kc), .c 40 (.slice RA m rc), .n, .n] (fun ix σ β X=>match ix with | 0=>True | 1=>True | 2=>X 6=eB B4_1 56 #[.slice KA m kc] | 3=>X 7=eB B5_1 57 #[.slice RA m rc] | _=>True) [2,3,4,5,6,7] [0,1,2,3] [(39,0,2,41)] hst5d ?_ ?_ ?_)))
  ·exact fun ix _ _ _ _ _ _ hs hb hx h=>match ix,h with
   | 2,h=>by dsimp only; rw [← hx 6 rfl]; exact h
   | 3,h=>by dsimp only; rw [← hx 7 rfl]; exact h
   | 0, _ | 1, _ | _+4, _=>trivial
  ·refine ⟨?_,?_,?_,?_,trivial⟩
   ·exact xs4 rfl id fun cx=>run_load1 rfl (by kernel_rfl) (cx.ou 4) ((cx.bi 0 rfl).cell 0)
   ·exact xs4 rfl id fun cx=>run_load1 rfl (by kernel_rfl) (cx.ou 5) ((cx.bi 1 rfl).cell 0)
   ·refine svA fun ρ β W X cx=>?_
    exact dv_store (n:=1) rfl (cx.ou 4) (cx.an 0) (by kernel_rfl) (by kernel_rfl) (by kernel_rfl) cx (cx.init 0 _ rfl) rfl (nle rfl) (by kernel_rfl) rfl rfl rfl (fun σ β' X' hs hb hx=>hx)
   ·refine svA fun ρ β W X cx=>?_
    exact dv_store (n:=1) rfl (cx.ou 5) (cx.an 1) (by kernel_rfl) (by kernel_rfl) (by kernel_rfl) cx (cx.init 1 _ rfl) rfl (nle rfl) (by kernel_rfl) rfl rfl rfl (fun σ β' X' hs hb hx=>hx)
  intro σ β X W17 hD hst17 fr hfr
  simp only [exq 6 ((dTn (hD 2 lq))),exq 7 ((dTn (hD 3 lq)))] at hst17
  clear hD; subst hfr; clear σ β X
  refine then_normal (wp_ret ?_)
  refine bpm_take (L:=[eO 9 1 (.slice KA m kc) m ((esY XS_).map tqS),eO 33 2 (.slice RA m rc) m ((esY XS_).flatMap tqR),E_,eB B4_1 56 #[.slice KA m kc],eB B5_1 57 #[.slice RA m rc]]) (hst17.pick [0,1,2,4,5,3] (by decide) rfl) fun Wt18 ht18=>?_
  refine ⟨.tuple #[.slice KA m kc, .slice RA m rc],(results_2 Tryz.results23 (rpc (ht18.blk 3 rfl) 0) (rpc (ht18.blk 4 rfl) 0)),?_⟩
  exact al_done (hZ_.2.1 rfl) hm (ht18.pick [0,1] (by decide) rfl)
 ·exact fun D W L xs E h=>h.elim
end
section
open Go.RowKit
theorem bytesLess_trans:∀ {a b c:List UInt8},Op.bytesLess a b=true→Op.bytesLess b c=true→Op.bytesLess a c=true
 | [],[], _,h, _=>by simp [Op.bytesLess] at h
 | [], _:: _,[], _,h=>by simp [Op.bytesLess] at h
 | [], _:: _, _:: _, _, _=>by simp [Op.bytesLess]
 | _:: _,[], _,h, _=>by simp [Op.bytesLess] at h
 | _:: _, _:: _,[], _,h=>by simp [Op.bytesLess] at h
 | x::a,y::b,z::c,h1,h2=>by
   simp only [Op.bytesLess,Bool.or_eq_true,Bool.and_eq_true,decide_eq_true_eq,beq_iff_eq] at h1 h2 ⊢
   rcases h1 with h1 | ⟨rfl,h1⟩
   ·rcases h2 with h2 | ⟨rfl,h2⟩
    ·exact .inl (UInt8.lt_trans h1 h2)
    ·exact .inl h1
   ·rcases h2 with h2 | ⟨rfl,h2⟩
    ·exact .inl h2
    ·exact .inr ⟨rfl,bytesLess_trans h1 h2⟩
theorem ltB_trans {a b c:ByteArray} (h1:ltB a b=true) (h2:ltB b c=true):ltB a c=true:=bytesLess_trans h1 h2
theorem lessF_iff (a b:ByteArray):lessF a b=true↔ltB (okF a) (okF b)=true∨(okF a=okF b∧(opF a < opF b∨(opF a=opF b∧osF a < osF b))):=by
 rw [lessF_ref]
 by_cases hk:okF a=okF b
 ·rw [if_neg (by simp [hk])]
  by_cases hp:opF a=opF b
  ·rw [if_neg (by simp [hp]),hk,ltB_irr]
   simp [hp]
  ·rw [if_pos hp,hk,ltB_irr]
   simp [hp]
 ·rw [if_pos hk]
  simp [hk]
theorem lessF_trans {a b c:ByteArray} (h1:lessF a b=true) (h2:lessF b c=true):lessF a c=true:=by
 rw [lessF_iff] at h1 h2 ⊢
 rcases h1 with h1 | ⟨k1,h1⟩
 ·rcases h2 with h2 | ⟨k2,h2⟩
  ·exact .inl (ltB_trans h1 h2)
  ·exact .inl (k2 ▸ h1)
 ·rcases h2 with h2 | ⟨k2,h2⟩
  ·exact .inl (k1 ▸ h2)
  ·refine .inr ⟨k1.trans k2,?_⟩
   omega
/-- not less, less: less -/
theorem lessF_le_lt {a b c:ByteArray} (ha:4≤a.size) (hb:4≤b.size) (h1:lessF b a=false) (h2:lessF b c=true):lessF a c=true:=by
 cases h3:lessF a b with
 | true=>exact lessF_trans h3 h2
 | false=>rw [lessF_total ha hb h3 h1]; exact h2
theorem lessF_lt_le {a b c:ByteArray} (hb:4≤b.size) (hc:4≤c.size) (h1:lessF a b=true) (h2:lessF c b=false):lessF a c=true:=by
 cases h3:lessF b c with
 | true=>exact lessF_trans h1 h3
 | false=>rw [← lessF_total hb hc h3 h2]; exact h1
theorem lessF_le_le {a b c:ByteArray} (ha:4≤a.size) (hb:4≤b.size) (h1:lessF b a=false) (h2:lessF c b=false):lessF c a=false:=by
 cases h3:lessF c a with
 | false=>rfl
 | true=>
   cases h4:lessF a b with
   | true=>rw [lessF_trans h3 h4] at h2; exact h2
   | false=>rw [lessF_total ha hb h4 h1] at h3; rw [h3] at h2; exact h2
/-- down finds the last entry that x does not stand ahead of -/
theorem downF_skip {x:ByteArray} {d:Int} (hd:0≤d):∀ {l:List EnD},(∀ e∈l,lessF x e.1=true)→downF x l d=d
 | [], _=>rfl
 | e::l,h=>by
   rw [downF,if_neg (by rw [h e (by simp)]; simp; omega)]
   exact downF_skip hd (fun y hy=>h y (by simp [hy]))
theorem downF_hit {x:ByteArray} {e:EnD} {l2:List EnD} (hk:0≤e.2.2) (he:lessF x e.1=false) (h2:∀ y∈l2,lessF x y.1=true):∀ {l1:List EnD} {d:Int},downF x (l1++e::l2) d=e.2.2
 | [],d=>by
   rw [List.nil_append,downF,if_pos (.inr he)]
   exact downF_skip hk h2
 | y::l1,d=>by
   rw [List.cons_append,downF]
   exact downF_hit hk he h2
-- items put and cleared
theorem setI_cons (y:ByteArray) (l:List ByteArray) (k:Nat) (x:ByteArray):setI (y::l) (k+1) x=y::setI l k x:=by
 rw [setI,setI,List.length_cons,Nat.add_sub_add_right,List.cons_append,List.set_cons_succ]
theorem setI_zero (y:ByteArray) (l:List ByteArray) (x:ByteArray):setI (y::l) 0 x=x::l:=by
 rw [setI,List.length_cons,show 0+1 - (l.length+1)=0 by omega,List.replicate_zero,List.append_nil]; rfl
theorem setI_nil (k:Nat) (x:ByteArray):setI [] (k+1) x=ByteArray.empty::setI [] k x:=by
 rw [setI,setI]; rfl
theorem rawE_zero {i:Nat} {x:ByteArray} {l:List ByteArray} (h:x.size=0):rawE i (x::l)=rawE (i+1) l:=by rw [rawE,if_pos h]
theorem rawE_one {i:Nat} {x:ByteArray} {l:List ByteArray} (h:x.size≠0):rawE i (x::l)=(i,x)::rawE (i+1) l:=by rw [rawE,if_neg h]
theorem rawE_set {x:ByteArray} (hx:x.size≠0):∀ (l:List ByteArray) (k i:Nat),(l.getD k ByteArray.empty).size=0→(rawE i (setI l k x)).Perm ((i+k,x)::rawE i l)
 | [],0,i, _=>by
   rw [show setI [] 0 x=[x] from rfl,rawE_one hx]; exact List.Perm.refl _
 | [],k+1,i, _=>by
   rw [setI_nil,rawE_zero rfl,show i+(k+1)=(i+1)+k by omega]
   exact rawE_set hx [] k (i+1) rfl
 | y::l,0,i,h=>by
   rw [setI_zero,rawE_one hx,rawE_zero (x:=y) h]; exact List.Perm.refl _
 | y::l,k+1,i,h=>by
   rw [List.getD_cons_succ] at h
   rw [setI_cons,show i+(k+1)=(i+1)+k by omega]
   by_cases hy:y.size=0
   ·rw [rawE_zero hy,rawE_zero hy]; exact rawE_set hx l k (i+1) h
   ·rw [rawE_one hy,rawE_one hy]
    exact ((rawE_set hx l k (i+1) h).cons _).trans (List.Perm.swap _ _ _)
theorem setI_back {l:List ByteArray} {k:Nat} {y x:ByteArray} (h:l[k]? =some y):setI (setI l k x) k y=l:=by
 obtain ⟨hk,rfl⟩:=List.getElem?_eq_some_iff.1 h
 have e:∀ z,setI l k z=l.set k z:=fun z=>by rw [setI,show k+1 - l.length=0 by omega,List.replicate_zero,List.append_nil]
 rw [e,setI,List.length_set,show k+1 - l.length=0 by omega,List.replicate_zero,List.append_nil,List.set_set]
 exact List.set_getElem_self hk
theorem setI_get (l:List ByteArray) (k:Nat) (x:ByteArray):(setI l k x).getD k ByteArray.empty=x:=by
 rw [setI,List.getD_eq_getElem?_getD,List.getElem?_set_self (setI_le l k)]; rfl
theorem rawE_clr {l:List ByteArray} {k i:Nat} {y:ByteArray} (h:l[k]? =some y) (hy:y.size≠0):(rawE i l).Perm ((i+k,y)::rawE i (setI l k ByteArray.empty)):=by
 have h1:=rawE_set hy (setI l k ByteArray.empty) k i (by rw [setI_get]; rfl)
 rwa [setI_back h] at h1
-- the sorted list
theorem insR_perm (x:EnD):∀ l,(insR x l).Perm (x::l)
 | []=>List.Perm.refl _
 | y::l=>by
   rw [insR]
   split
   ·exact ((insR_perm x l).cons y).trans (List.Perm.swap _ _ _)
   ·exact List.Perm.refl _
theorem sortR_perm:∀ l,(sortR l).Perm l
 | []=>List.Perm.refl _
 | x::l=>(insR_perm x (sortR l)).trans ((sortR_perm l).cons x)
theorem srt_perm (lv:Int) (l:List (Nat×ByteArray)):(srt lv l).Perm (l.map (parE lv)):=by
 rw [srt]
 exact (List.reverse_perm _).trans ((sortR_perm _).trans (List.reverse_perm _))
theorem insR_sorted {x:EnD}:∀ {l:List EnD},(∀ e∈l,4≤e.1.size)→l.Pairwise (fun a b=>lessF a.1 b.1=false)→(insR x l).Pairwise (fun a b=>lessF a.1 b.1=false)
 | [], _, _=>List.pairwise_singleton _ _
 | y::l,h4,hp=>by
   obtain ⟨h1,h2⟩:=List.pairwise_cons.1 hp
   rw [insR]
   split
   ·rename_i hx
    refine List.pairwise_cons.2 ⟨fun z hz=>?_,insR_sorted (fun e he=>h4 e (by simp [he])) h2⟩
    rcases insR_mem hz with rfl | hz
    ·exact lessF_asym hx
    ·exact h1 z hz
   ·rename_i hx
    have hx:lessF x.1 y.1=false:=by simpa using hx
    refine List.pairwise_cons.2 ⟨fun z hz=>?_,hp⟩
    rcases List.mem_cons.1 hz with rfl | hz
    ·exact hx
    ·exact lessF_le_le (h4 z (by simp [hz])) (h4 y (by simp)) (h1 z hz) hx
theorem sortR_sorted:∀ {l:List EnD},(∀ e∈l,4≤e.1.size)→(sortR l).Pairwise (fun a b=>lessF a.1 b.1=false)
 | [], _=>List.Pairwise.nil
 | x::l,h4=>insR_sorted (fun e he=>h4 e (by simp [sortR_mem he])) (sortR_sorted fun e he=>h4 e (by simp [he]))
theorem srt_sorted {lv:Int} {l:List (Nat×ByteArray)} (h4:∀ e∈l.map (parE lv),4≤e.1.size):(srt lv l).Pairwise (fun a b=>lessF b.1 a.1=false):=by
 rw [srt,List.pairwise_reverse]
 exact sortR_sorted fun e he=>h4 e (List.mem_reverse.1 he)
/-- a node's entries stand in order -/
theorem nodF_sorted {k:Int} {its:List ByteArray} {n:NoD} (h:nodF k its=some n):n.es.Pairwise (fun a b=>lessF b.1 a.1=false)∧∀ e∈n.es,4≤e.1.size:=by
 have h0:=h
 unfold nodF at h
 split at h
 ·cases h
 ·split at h
  ·cases h
  ·rename_i x l
   split at h
   ·cases h
   ·split at h
    ·cases h
    ·rename_i hb
     injection h with h
     subst h
     have h4:∀ e∈(rawE 1 l).map (parE (numS x 0 1)),4≤e.1.size:=fun e he=>by
      obtain ⟨p,hp,rfl⟩:=List.mem_map.1 he
      have hbp:badE (numS x 0 1) p=false:=by
       cases hq:badE (numS x 0 1) p with
       | false=>rfl
       | true=>exact absurd (List.any_eq_true.2 ⟨p,hp,hq⟩) hb
      unfold badE at hbp
      unfold parE
      split at hbp
      ·rw [if_pos (by assumption)]
       have:=of_decide_eq_false hbp
       show 4≤(p.2.extract 0 (p.2.size - 2)).size
       rw [ByteArray.size_extract]; omega
      ·rw [if_neg (by assumption)]
       have:=of_decide_eq_false hbp
       show 4≤p.2.size
       omega
     refine ⟨srt_sorted h4,fun e he=>h4 e ?_⟩
     exact (srt_perm _ _).mem_iff.1 he
-- an entry as it is stored and read
theorem itB_sz (lv kid:Int) (x:ByteArray):(itB lv kid x).size=x.size+(if 0 < lv then 2 else 0):=by
 unfold itB; split
 ·rw [ByteArray.size_append,twoB_size]
 ·rfl
theorem parE_itB {lv kid:Int} {x:ByteArray} {k:Nat} (hk:0 < lv→0≤kid∧kid < 65536):parE lv (k,itB lv kid x)=(x,k,if 0 < lv then kid else -1):=by
 unfold parE itB
 by_cases h:0 < lv
 ·simp only [if_pos h]
  have e1:(x++twoB kid).extract 0 ((x++twoB kid).size - 2)=x:=by
   apply bl_inj
   rw [bl_extract,ByteArray.size_append,twoB_size,List.drop_zero,Nat.sub_zero,Nat.add_sub_cancel,bl_append,← bl_len,List.take_left']
   rfl
  have e0:(numS (x++twoB kid) x.size 2:Int)=kid % 65536:=by
   rw [← twoB_num]
   congr 1
   exact numS_at (a:=bl x) (b:=bl (twoB kid)) (c:=[]) (by rw [bl_append,List.append_nil]) (bl_len _) (bl_twoB_len _)
  have e2:(numS (x++twoB kid) ((x++twoB kid).size - 2) 2:Int)=kid:=by
   rw [ByteArray.size_append,twoB_size,Nat.add_sub_cancel,e0]; have:=hk h; omega
  rw [e1,e2]
 ·simp only [if_neg h]
theorem badE_itB {lv kid:Int} {x:ByteArray} {k:Nat} (h4:4≤x.size):badE lv (k,itB lv kid x)=false:=by
 have:=itB_sz lv kid x
 unfold badE
 by_cases h:0 < lv
 ·rw [if_pos h] at this ⊢; exact decide_eq_false (by dsimp only; omega)
 ·rw [if_neg h] at this ⊢; exact decide_eq_false (by dsimp only; omega)
/-- an item put into a free slot: the node's entries and one more -/
theorem nodF_put {kd:Int} {its:List ByteArray} {n:NoD} {s:Nat} {kid:Int} {x:ByteArray} (h:nodF kd its=some n) (hs:(its.getD (s+1) ByteArray.empty).size=0) (hk:0 < n.lv→0≤kid∧kid < 65536) (h4:4≤x.size):
  ∃ n',nodF kd (setI its (s+1) (itB n.lv kid x))=some n'∧n'.lv=n.lv∧n'.right=n.right∧n'.high=n.high∧n'.dead=n.dead∧n'.es.Perm ((x,s+1,if 0 < n.lv then kid else -1)::n.es):=by
 obtain ⟨y,l,rfl,rfl,hok,rfl⟩:=nodF_inv h
 have hz:(itB (numS y 0 1) kid x).size≠0:=by have:=itB_sz (numS y 0 1) kid x; omega
 rw [List.getD_cons_succ] at hs
 have hp:=rawE_set hz l s 1 hs
 have hbad:(rawE 1 l).any (badE (numS y 0 1))=false:=by
  cases hb:(rawE 1 l).any (badE (numS y 0 1)) with
  | false=>rfl
  | true=>simp [nodF,hok,hb] at h
 have hbad2:(rawE 1 (setI l s (itB (numS y 0 1) kid x))).any (badE (numS y 0 1))=false:=by
  rw [List.any_eq_false] at hbad ⊢
  intro p hpm
  rcases List.mem_cons.1 (hp.mem_iff.1 hpm) with rfl | hm
  ·rw [badE_itB h4]; decide
  ·exact hbad p hm
 dsimp only
 rw [setI_cons,nodF_good hok hbad2]
 refine ⟨_,rfl,rfl,rfl,rfl,rfl,?_⟩
 show (srt _ _).Perm (_::srt _ _)
 refine (srt_perm _ _).trans (((hp.map (parE (numS y 0 1))).trans ?_).trans ((srt_perm _ _).symm.cons _))
 rw [List.map_cons,parE_itB hk,Nat.add_comm 1 s]
/-- an entry's slot cleared: the other entries -/
theorem nodF_clr {kd:Int} {its:List ByteArray} {n:NoD} {e:EnD} (h:nodF kd its=some n) (he:e∈n.es):
  ∃ n',nodF kd (setI its e.2.1 ByteArray.empty)=some n'∧n'.lv=n.lv∧n'.right=n.right∧n'.high=n.high∧n'.dead=n.dead∧n.es.Perm (e::n'.es):=by
 obtain ⟨y,l,rfl,rfl,hok,rfl⟩:=nodF_inv h
 have hm:∃ p∈rawE 1 l,e=parE (numS y 0 1) p:=by
  obtain ⟨p,hp,rfl⟩:=List.mem_map.1 ((srt_perm _ _).mem_iff.1 he)
  exact ⟨p,hp,rfl⟩
 obtain ⟨⟨s,z⟩,hpz,rfl⟩:=hm
 obtain ⟨hs1,hg,hz⟩:=rawE_at hpz
 have hsl:(parE (numS y 0 1) (s,z)).2.1=s:=by unfold parE; split<;>rfl
 obtain ⟨t,rfl⟩:∃ t,s=t+1:=⟨s - 1,by omega⟩
 rw [Nat.add_sub_cancel] at hg
 have hp:=rawE_clr (i:=1) hg hz
 have hbad:(rawE 1 l).any (badE (numS y 0 1))=false:=by
  cases hb:(rawE 1 l).any (badE (numS y 0 1)) with
  | false=>rfl
  | true=>simp [nodF,hok,hb] at h
 have hbad2:(rawE 1 (setI l t ByteArray.empty)).any (badE (numS y 0 1))=false:=by
  rw [List.any_eq_false] at hbad ⊢
  intro p hpm
  exact hbad p (hp.mem_iff.2 (List.mem_cons_of_mem _ hpm))
 rw [hsl,setI_cons,nodF_good hok hbad2]
 refine ⟨_,rfl,rfl,rfl,rfl,rfl,?_⟩
 show (srt _ _).Perm (_::srt _ _)
 refine (srt_perm _ _).trans ((hp.map (parE (numS y 0 1))).trans ?_)
 rw [List.map_cons,Nat.add_comm 1 t]
 exact (srt_perm _ _).symm.cons _
-- a new head
theorem bl_two (a b:Int):bl (strOfNums [a,b])=bl (strOfNums [a])++bl (strOfNums [b]):=rfl
theorem hdB_lv {lv rt:Int} {d:Bool} {hi:ByteArray} (h:0≤lv∧lv≤255):(numS (hdB lv rt d hi) 0 1:Int)=lv:=by
 rw [numS_at (s:=hdB lv rt d hi) (p:=0) (k:=1) (a:=[]) (b:=bl (strOfNums [lv])) (c:=bl (strOfNums [if d then 1 else 0])++bl (twoB (rt+1))++bl hi) (by rw [hdB,bl_append,bl_append,bl_two]; simp) rfl (by rw [bl_len,strOfNums_size]; rfl)]
 obtain ⟨m,rfl⟩:=Int.eq_ofNat_of_zero_le h.1
 simp [strOfNums,bl,numL]
 omega
theorem hdB_d {lv rt:Int} {d:Bool} {hi:ByteArray}:numS (hdB lv rt d hi) 1 1=if d then 1 else 0:=by
 rw [numS_at (s:=hdB lv rt d hi) (a:=bl (strOfNums [lv])) (b:=bl (strOfNums [if d then 1 else 0])) (c:=bl (twoB (rt+1))++bl hi) (by rw [hdB,bl_append,bl_append,bl_two]; simp) (by rw [bl_len,strOfNums_size]; rfl) (by rw [bl_len,strOfNums_size]; rfl)]
 cases d<;>rfl
theorem hdB_rt {lv rt:Int} {d:Bool} {hi:ByteArray} (h: -1≤rt∧rt≤65534):(numS (hdB lv rt d hi) 2 2:Int) - 1=rt:=by
 rw [numS_at (s:=hdB lv rt d hi) (a:=bl (strOfNums [lv,if d then 1 else 0])) (b:=bl (twoB (rt+1))) (c:=bl hi) (by rw [hdB,bl_append,bl_append,List.append_assoc]) (by rw [bl_len,two_sz]) (bl_twoB_len _),twoB_num]
 omega
theorem hdB_hi (lv rt:Int) (d:Bool) (hi:ByteArray):(hdB lv rt d hi).extract 4 (hdB lv rt d hi).size=hi:=by
 apply bl_inj
 rw [bl_extract,hdB_size,Nat.add_sub_cancel,hdB,bl_append]
 rw [List.drop_left' (by rw [bl_len,ByteArray.size_append,two_sz,twoB_size]),List.take_of_length_le (by rw [bl_len]; exact Nat.le_refl _)]
theorem hdB_ok {lv rt:Int} {d:Bool} {hi:ByteArray} (h:hi.size=0∨4≤hi.size):hdOk (hdB lv rt d hi)=true:=by
 have h1:numS (hdB lv rt d hi) 1 1≤1:=by rw [hdB_d]; cases d<;>decide
 rw [hdOk,hdB_size,decide_eq_true h1,decide_eq_true (show 4≤hi.size+4 by omega)]
 rcases h with h | h
 ·rw [decide_eq_true (show hi.size+4≤4 by omega)]; rfl
 ·rw [decide_eq_true (show 8≤hi.size+4 by omega),Bool.or_true]; rfl
/-- a node behind a new head -/
theorem nodF_head {kd:Int} {its:List ByteArray} {n:NoD} {rt:Int} {d:Bool} {hi:ByteArray} (h:nodF kd its=some n) (hlv:n.lv≤255) (hrt: -1≤rt∧rt≤65534) (hhi:hi.size=0∨4≤hi.size):nodF kd (setI its 0 (hdB n.lv rt d hi))=some ⟨n.lv,rt,hi,d,n.es,n.free⟩:=by
 obtain ⟨y,l,rfl,rfl,hok,rfl⟩:=nodF_inv h
 have hbad:(rawE 1 l).any (badE (numS y 0 1))=false:=by
  cases hb:(rawE 1 l).any (badE (numS y 0 1)) with
  | false=>rfl
  | true=>simp [nodF,hok,hb] at h
 dsimp only at hlv ⊢
 have e1:=hdB_lv (lv:=(numS y 0 1:Int)) (rt:=rt) (d:=d) (hi:=hi) ⟨by omega,hlv⟩
 rw [setI_zero,nodF_good (hdB_ok hhi) (by rw [e1]; exact hbad),e1,hdB_rt hrt,hdB_hi,hdB_d]
 cases d<;>rfl
-- a fresh page
theorem setI_end (l:List ByteArray) (x:ByteArray):setI l l.length x=l++[x]:=by
 rw [setI,show l.length+1 - l.length=1 by omega,List.set_append_right _ _ (Nat.le_refl _),Nat.sub_self]; rfl
def itI (lv:Int) (es:List EnD):List ByteArray:=es.map fun e=>itB lv e.2.2 e.1
theorem its_page {lv:Int} {i:Nat}:∀ {es:List EnD} {k:Nat} {ps:List PgS} {L:List ByteArray},ps.getD i pgs0=(2,0,L)→L.length=k→k+es.length≤101→i < ps.length→(doB ps (itsE (i:Int) lv k es)).getD i pgs0=(2,0,L++itI lv es)
 | [],k,ps,L,h, _, _, _=>by rw [itI,List.map_nil,List.append_nil]; exact h
 | e::es,k,ps,L,h,hk,hl,hi=>by
   rw [List.length_cons] at hl
   have h1:(do1B ps ((i:Int),(k:Int),itB lv e.2.2 e.1)).getD i pgs0=(2,0,L++[itB lv e.2.2 e.1]):=by
    rw [do1_at (decide_eq_true (by dsimp only; omega)) rfl,h,edP,if_neg (by dsimp only; omega)]
    dsimp only
    rw [Int.toNat_natCast,← hk,setI_end]
   have h2:=its_page (lv:=lv) (es:=es) (k:=k+1) h1 (by rw [List.length_append,hk]; rfl) (by omega) (by rw [do1B_len]; exact hi)
   rw [itsE]
   show (doB (do1B ps _) _).getD i pgs0= _
   rw [h2,List.append_assoc]; rfl
theorem fresh_page {lv rt:Int} {hi:ByteArray} {es:List EnD} {ps:List PgS} {i:Nat} (h:i < ps.length) (hl:es.length≤100):(doB ps (freshE (i:Int) lv rt hi es)).getD i pgs0=(2,0,hdB lv rt false hi::itI lv es):=by
 rw [freshE,doB_app]
 have h1:(do1B ps ((i:Int), -1,strOfNums [2])).getD i pgs0=(2,0,[]):=by
  rw [do1_at (decide_eq_true (by dsimp only; omega)) rfl]; rfl
 have h2:(do1B (do1B ps ((i:Int), -1,strOfNums [2])) ((i:Int),0,hdB lv rt false hi)).getD i pgs0=(2,0,[hdB lv rt false hi]):=by
  rw [do1_at (decide_eq_true (by rw [do1B_len]; dsimp only; omega)) rfl,h1]; rfl
 exact its_page h2 rfl (by omega) (by rw [do1B_len,do1B_len]; exact h)
/-- entries as a fresh page numbers them -/
def renumE (lv:Int):Nat→List EnD→List EnD
 | _,[]=>[]
 | k,e::l=>(e.1,k,if 0 < lv then e.2.2 else -1)::renumE lv (k+1) l
theorem rawE_itI {lv:Int}:∀ {es:List EnD} {k:Nat},(∀ e∈es,4≤e.1.size∧(0 < lv→0≤e.2.2∧e.2.2 < 65536))→(rawE k (itI lv es)).map (parE lv)=renumE lv k es∧(rawE k (itI lv es)).any (badE lv)=false
 | [], _, _=>⟨rfl,rfl⟩
 | e::es,k,h=>by
   have he:=h e (by simp)
   have hz:(itB lv e.2.2 e.1).size≠0:=by have:=itB_sz lv e.2.2 e.1; omega
   obtain ⟨h1,h2⟩:=rawE_itI (es:=es) (k:=k+1) (fun y hy=>h y (by simp [hy]))
   rw [show itI lv (e::es)=itB lv e.2.2 e.1::itI lv es from rfl,rawE_one hz,List.map_cons,List.any_cons,parE_itB he.2,badE_itB he.1,h1,h2]
   exact ⟨rfl,rfl⟩
/-- the node of a fresh page -/
theorem nodF_fresh {lv rt:Int} {hi:ByteArray} {es:List EnD} (hlv:0≤lv∧lv≤255) (hrt: -1≤rt∧rt≤65534) (hhi:hi.size=0∨4≤hi.size) (h:∀ e∈es,4≤e.1.size∧(0 < lv→0≤e.2.2∧e.2.2 < 65536)):
  ∃ n,nodF 2 (hdB lv rt false hi::itI lv es)=some n∧n.lv=lv∧n.right=rt∧n.high=hi∧n.dead=false∧n.es.Perm (renumE lv 1 es):=by
 obtain ⟨h1,h2⟩:=rawE_itI (k:=1) h
 have e1:=hdB_lv (rt:=rt) (d:=false) (hi:=hi) hlv
 rw [nodF_good (hdB_ok hhi) (by rw [e1]; exact h2)]
 refine ⟨_,rfl,e1,hdB_rt hrt,hdB_hi _ _ _ _,by dsimp only; rw [hdB_d]; rfl,?_⟩
 dsimp only
 rw [e1,← h1]
 exact srt_perm _ _
end
section
open Go.RowKit
/-- an entry without its slot -/
def kv (e:EnD):ByteArray×Int:=(e.1,e.2.2)
/-- a node but for its entries -/
def same4 (a b:NoD):Prop:=a.lv=b.lv∧a.right=b.right∧a.high=b.high∧a.dead=b.dead
theorem nd_at {ps:List PgS} {x:Int} {n:NoD} (h:ndAt ps x=some n):0≤x∧x < ps.length∧nodF (ps.getD x.toNat pgs0).1 (ps.getD x.toNat pgs0).2.2=some n:=by
 unfold ndAt at h
 split at h
 ·rename_i hx; exact ⟨hx.1,hx.2,h⟩
 ·cases h
theorem nd_of {ps:List PgS} {x:Int} {n:NoD} (h0:0≤x) (h1:x < ps.length) (h:nodF (ps.getD x.toNat pgs0).1 (ps.getD x.toNat pgs0).2.2=some n):ndAt ps x=some n:=by rw [ndAt,if_pos ⟨h0,h1⟩]; exact h
/-- edits of other pages -/
theorem nd_other {ps:List PgS} {L:List EdT} {x:Int} (h:∀ e∈L,e.1≠x):ndAt (doB ps L) x=ndAt ps x:=by
 by_cases hx:0≤x
 ·unfold ndAt
  rw [doB_len,doB_other fun e he=>by have:=h e he; omega]
 ·unfold ndAt; rw [if_neg (by omega),if_neg (by omega)]
theorem ed1 {ps:List PgS} {x s:Int} {y:ByteArray} (h0:0≤x) (h1:x < ps.length) (h2:0≤s) (h3:s≤100):(do1B ps (x,s,y)).getD x.toNat pgs0=((ps.getD x.toNat pgs0).1,(ps.getD x.toNat pgs0).2.1,setI (ps.getD x.toNat pgs0).2.2 s.toNat y):=by
 rw [do1_at (decide_eq_true (by dsimp only; omega)) (by dsimp only; omega),edP,if_neg (by dsimp only; omega)]
theorem freeE_spec:∀ (l:List ByteArray) (i d:Nat),d=i+l.length→i≤freeE i l d∧(l.getD (freeE i l d - i) ByteArray.empty).size=0∧freeE i l d≤i+l.countP nz
 | [],i,d,h=>by
   rw [freeE,h]
   exact ⟨Nat.le_add_right _ _,rfl,Nat.le_refl _⟩
 | x::l,i,d,h=>by
   rw [freeE]
   by_cases hx:x.size=0
   ·rw [if_pos hx]
    exact ⟨Nat.le_refl _,by rw [Nat.sub_self]; exact hx,Nat.le_add_right _ _⟩
   ·rw [if_neg hx]
    obtain ⟨h1,h2,h3⟩:=freeE_spec l (i+1) d (by rw [h,List.length_cons]; omega)
    refine ⟨by omega,?_,?_⟩
    ·rw [show freeE (i+1) l d - i=(freeE (i+1) l d - (i+1))+1 by omega,List.getD_cons_succ]; exact h2
    ·rw [List.countP_cons_of_pos (by simp [nz,hx])]; omega
theorem nd_free {k:Int} {its:List ByteArray} {n:NoD} (h:nodF k its=some n):∃ s,n.free=s+1∧(its.getD (s+1) ByteArray.empty).size=0∧s≤n.es.length:=by
 obtain ⟨y,l,rfl,rfl,hok,rfl⟩:=nodF_inv h
 obtain ⟨h1,h2,h3⟩:=freeE_spec l 1 (l.length+1) (by omega)
 refine ⟨freeE 1 l (l.length+1) - 1,by dsimp only; omega,?_,?_⟩
 ·rw [List.getD_cons_succ]; exact h2
 ·dsimp only
  rw [srt_len,rawE_cnt]; omega
/-- the head and the children of a node that was read -/
theorem nd_hd {k:Int} {its:List ByteArray} {n:NoD} (h:nodF k its=some n):(0≤n.lv∧n.lv≤255)∧(-1≤n.right∧n.right≤65534)∧(n.high.size=0∨4≤n.high.size)∧∀ e∈n.es,(0 < n.lv→0≤e.2.2∧e.2.2 < 65536)∧(¬ 0 < n.lv→e.2.2= -1):=by
 obtain ⟨y,l,rfl,rfl,hok,rfl⟩:=nodF_inv h
 have num:∀ (s:ByteArray) (p k:Nat),numS s p k < 256 ^ k:=fun s p k=>by have h:=numL_lt (s.extract p (p+k)).data.toList; have h2:(s.extract p (p+k)).data.toList.length≤k:=by {have h4:(s.extract p (p+k)).size≤k:=by {rw [ByteArray.size_extract]; omega}; show (bl (s.extract p (p+k))).length≤k; rw [bl_len]; exact h4}; have h3:(256:Nat) ^ (s.extract p (p+k)).data.toList.length≤256 ^ k:=Nat.pow_le_pow_right (by omega) h2; unfold numS; omega
 refine ⟨⟨by dsimp only; omega,?_⟩,⟨by dsimp only; omega,?_⟩,?_,fun e he=>?_⟩
 ·have:=num y 0 1; dsimp only; omega
 ·have:=num y 2 2; dsimp only; omega
 ·dsimp only
  simp only [hdOk,Bool.and_eq_true,Bool.or_eq_true,decide_eq_true_eq] at hok
  rw [ByteArray.size_extract]; omega
 ·obtain ⟨⟨s,z⟩,hp,rfl⟩:∃ p∈rawE 1 l,e=parE (numS y 0 1) p:=by
   obtain ⟨p,hp,rfl⟩:=List.mem_map.1 ((srt_perm _ _).mem_iff.1 he)
   exact ⟨p,hp,rfl⟩
  dsimp only
  unfold parE
  by_cases hl:0 < (numS y 0 1:Int)
  ·rw [if_pos hl]
   have:=num z (z.size - 2) 2
   exact ⟨fun _=>by dsimp only; omega,fun h=>absurd hl h⟩
  ·rw [if_neg hl]; exact ⟨fun h=>absurd h hl,fun _=>rfl⟩
/-- an item put into the free slot -/
theorem put_nd {ps:List PgS} {pos kid:Int} {x:ByteArray} {n:NoD} (h:ndAt ps pos=some n) (h8:n.es.length≤90) (hk:0 < n.lv→0≤kid∧kid < 65536) (h4:4≤x.size):
  ∃ n',ndAt (doB ps [(pos,(n.free:Int),itB n.lv kid x)]) pos=some n'∧same4 n' n∧n'.es.Perm ((x,n.free,if 0 < n.lv then kid else -1)::n.es):=by
 obtain ⟨h0,h1,hn⟩:=nd_at h
 obtain ⟨s,hs,hz,hl⟩:=nd_free hn
 obtain ⟨n',h2,h3,h5,h6,h7,h8⟩:=nodF_put hn hz hk h4
 refine ⟨n',nd_of h0 (by rw [doB_len]; exact h1) ?_,⟨h3,h5,h6,h7⟩,by rw [hs]; exact h8⟩
 show nodF ((do1B ps (pos,(n.free:Int),itB n.lv kid x)).getD pos.toNat pgs0).1 ((do1B ps (pos,(n.free:Int),itB n.lv kid x)).getD pos.toNat pgs0).2.2=some n'
 rw [ed1 h0 h1 (by omega) (by omega)]
 dsimp only
 rw [Int.toNat_natCast,hs]; exact h2
/-- a new head -/
theorem head_nd {ps:List PgS} {pos rt:Int} {d:Bool} {hi:ByteArray} {n:NoD} (h:ndAt ps pos=some n) (hrt: -1≤rt∧rt≤65534) (hhi:hi.size=0∨4≤hi.size):
  ndAt (doB ps [(pos,0,hdB n.lv rt d hi)]) pos=some ⟨n.lv,rt,hi,d,n.es,n.free⟩:=by
 obtain ⟨h0,h1,hn⟩:=nd_at h
 refine nd_of h0 (by rw [doB_len]; exact h1) ?_
 show nodF ((do1B ps (pos,0,hdB n.lv rt d hi)).getD pos.toNat pgs0).1 ((do1B ps (pos,0,hdB n.lv rt d hi)).getD pos.toNat pgs0).2.2= _
 rw [ed1 h0 h1 (by omega) (by omega)]
 exact nodF_head hn (nd_hd hn).1.2 hrt hhi
theorem slot_nd {ps:List PgS} {pos:Int} {n:NoD} {e:EnD} (h:ndAt ps pos=some n) (hits:(ps.getD pos.toNat pgs0).2.2.length≤101) (he:e∈n.es):1≤e.2.1∧e.2.1 < (ps.getD pos.toNat pgs0).2.2.length∧e.2.1≤100:=by
 obtain ⟨_, _, _,h3⟩:=nd_cnt h
 obtain ⟨h4,y,hy, _⟩:=h3 e he
 have:=(List.getElem?_eq_some_iff.1 hy).1
 exact ⟨h4,this,by omega⟩
/-- slots cleared -/
theorem clr_nd {pos:Int}:∀ {L R:List EnD} {ps:List PgS} {n:NoD},ndAt ps pos=some n→(ps.getD pos.toNat pgs0).2.2.length≤101→n.es.Perm (L++R)→
  ∃ n',ndAt (doB ps (clearE pos L)) pos=some n'∧same4 n' n∧n'.es.Perm R
 | [],R,ps,n,h, _,hp=>⟨n,h,⟨rfl,rfl,rfl,rfl⟩,hp⟩
 | e::L,R,ps,n,h,hits,hp=>by
   obtain ⟨h0,h1,hn⟩:=nd_at h
   have he:e∈n.es:=hp.mem_iff.2 (by simp)
   obtain ⟨hs1,hs2,hs3⟩:=slot_nd h hits he
   obtain ⟨n1,h2,h3,h4,h5,h6,h7⟩:=nodF_clr hn he
   have hg:(do1B ps (pos,(e.2.1:Int),ByteArray.empty)).getD pos.toNat pgs0= _:=ed1 h0 h1 (by omega) (by omega)
   have hn1:ndAt (do1B ps (pos,(e.2.1:Int),ByteArray.empty)) pos=some n1:=by
    refine nd_of h0 (by rw [do1B_len]; exact h1) ?_
    rw [hg]
    dsimp only
    rw [Int.toNat_natCast]; exact h2
   have hit1:((do1B ps (pos,(e.2.1:Int),ByteArray.empty)).getD pos.toNat pgs0).2.2.length≤101:=by
    rw [hg]
    dsimp only
    rw [Int.toNat_natCast,setI_len]; omega
   have hp1:n1.es.Perm (L++R):=(List.perm_cons e).1 (h7.symm.trans hp)
   obtain ⟨n2,h8,h9,h10⟩:=clr_nd (L:=L) hn1 hit1 hp1
   refine ⟨n2,h8,?_,h10⟩
   obtain ⟨a,b,c,d⟩:=h9
   exact ⟨a.trans h3,b.trans h4,c.trans h5,d.trans h6⟩
theorem renumE_kv {lv:Int}:∀ {es:List EnD} {k:Nat},(renumE lv k es).map kv=es.map fun e=>(e.1,if 0 < lv then e.2.2 else -1)
 | [], _=>rfl
 | e::l,k=>by rw [renumE,List.map_cons,List.map_cons,renumE_kv]; rfl
/-- a page made anew -/
theorem fresh_nd {ps:List PgS} {pg lv rt:Int} {hi:ByteArray} {es:List EnD} (h0:0≤pg) (h1:pg < ps.length) (hlv:0≤lv∧lv≤255) (hrt: -1≤rt∧rt≤65534) (hhi:hi.size=0∨4≤hi.size)
  (h:∀ e∈es,4≤e.1.size∧(0 < lv→0≤e.2.2∧e.2.2 < 65536)∧(¬ 0 < lv→e.2.2= -1)) (hl:es.length≤100):
  ∃ n,ndAt (doB ps (freshE pg lv rt hi es)) pg=some n∧n.lv=lv∧n.right=rt∧n.high=hi∧n.dead=false∧(n.es.map kv).Perm (es.map kv):=by
 obtain ⟨i,rfl⟩:=Int.eq_ofNat_of_zero_le h0
 have hp:=fresh_page (ps:=ps) (lv:=lv) (rt:=rt) (hi:=hi) (es:=es) (i:=i) (by omega) hl
 obtain ⟨n,h2,h3,h4,h5,h6,h7⟩:=nodF_fresh (rt:=rt) (hi:=hi) (es:=es) hlv hrt hhi fun e he=>⟨(h e he).1,(h e he).2.1⟩
 refine ⟨n,nd_of h0 (by rw [doB_len]; exact h1) ?_,h3,h4,h5,h6,?_⟩
 ·show nodF ((doB ps (freshE (i:Int) lv rt hi es)).getD (Int.ofNat i).toNat pgs0).1 ((doB ps (freshE (i:Int) lv rt hi es)).getD (Int.ofNat i).toNat pgs0).2.2= _
  rw [show (Int.ofNat i).toNat=i from rfl,hp]; exact h2
 ·refine (h7.map kv).trans ?_
  rw [renumE_kv]
  refine List.Perm.of_eq (List.map_congr_left fun e he=>?_)
  have:=(h e he).2.2
  by_cases hc:0 < lv
  ·rw [if_pos hc]; rfl
  ·rw [if_neg hc,← this hc]; rfl
/-- a node split -/
theorem cut_nd {ps:List PgS} {pos pg:Int} {n:NoD} (h:ndAt ps pos=some n) (hits:(ps.getD pos.toNat pgs0).2.2.length≤101) (h0:0≤pg) (h1:pg < ps.length) (hps:ps.length≤60000) (hne:pg≠pos) (hlen:n.es.length≤100) (hmid:4≤(midE n).size):
  (∃ n1,ndAt (doB ps (cutE pos n pg)) pg=some n1∧n1.lv=n.lv∧n1.right=n.right∧n1.high=n.high∧n1.dead=false∧(n1.es.map kv).Perm ((n.es.drop (n.es.length / 2)).map kv))∧
  (∃ n2,ndAt (doB ps (cutE pos n pg)) pos=some n2∧n2.lv=n.lv∧n2.right=pg∧n2.high=midE n∧n2.dead=false∧n2.es.Perm (n.es.take (n.es.length / 2)))∧
  ∀ q,q≠pg→q≠pos→ndAt (doB ps (cutE pos n pg)) q=ndAt ps q:=by
 obtain ⟨hp0,hp1,hn⟩:=nd_at h
 obtain ⟨a1,a2,a3,a4⟩:=nd_hd hn
 have hso:=nodF_sorted hn
 obtain ⟨n1,f1,f2,f3,f4,f5,f6⟩:=fresh_nd (ps:=ps) (pg:=pg) (lv:=n.lv) (rt:=n.right) (hi:=n.high) (es:=halfE n) h0 h1 a1 a2 a3 (fun e he=>⟨hso.2 e (List.mem_of_mem_drop he),a4 e (List.mem_of_mem_drop he)⟩) (by rw [halfE,List.length_drop]; omega)
 have hcl:∀ e∈clearE pos (halfE n),e.1=pos:=fun e he=>by obtain ⟨x, _,rfl⟩:=List.mem_map.1 he; rfl
 obtain ⟨ps1,hps1⟩:∃ z,doB ps (freshE pg n.lv n.right n.high (halfE n))=z:=⟨_,rfl⟩
 have hE:doB ps (cutE pos n pg)=doB (doB ps1 [(pos,0,hdB n.lv pg false (midE n))]) (clearE pos (halfE n)):=by rw [cutE,doB_app,doB_app,hps1]
 rw [hps1] at f1
 have hn1:ndAt ps1 pos=some n:=by rw [← hps1,nd_other (fun e he=>by rw [freshE_pg e he]; exact hne)]; exact h
 have hit1:(ps1.getD pos.toNat pgs0).2.2.length≤101:=by
  rw [← hps1,doB_other (fun e he=>by rw [freshE_pg e he]; omega)]; exact hits
 have hl1:ps1.length=ps.length:=by rw [← hps1,doB_len]
 have hh:=head_nd (rt:=pg) (d:=false) (hi:=midE n) hn1 ⟨by omega,by omega⟩ (.inr hmid)
 have hit2:((doB ps1 [(pos,0,hdB n.lv pg false (midE n))]).getD pos.toNat pgs0).2.2.length≤101:=by
  show ((do1B ps1 (pos,0,hdB n.lv pg false (midE n))).getD pos.toNat pgs0).2.2.length≤101
  rw [ed1 hp0 (by rw [hl1]; exact hp1) (by omega) (by omega)]
  dsimp only
  rw [setI_len]
  show max _ 1≤101
  omega
 obtain ⟨n2,c1,⟨c2,c3,c4,c5⟩,c6⟩:=clr_nd (L:=halfE n) (R:=n.es.take (n.es.length / 2)) hh hit2 (by dsimp only; exact (List.Perm.of_eq (List.take_append_drop (n.es.length / 2) n.es).symm).trans List.perm_append_comm)
 rw [hE]
 refine ⟨⟨n1,?_,f2,f3,f4,f5,f6⟩,⟨n2,c1,c2,c3,c4,c5,c6⟩,fun q hq1 hq2=>?_⟩
 ·rw [nd_other (fun e he=>by rw [hcl e he]; exact fun e=>hne e.symm),nd_other (fun e he=>by rw [List.mem_singleton.1 he]; exact fun e=>hne e.symm)]; exact f1
 ·rw [nd_other (fun e he=>by rw [hcl e he]; exact fun e=>hq2 e.symm),nd_other (fun e he=>by rw [List.mem_singleton.1 he]; exact fun e=>hq2 e.symm),← hps1,nd_other (fun e he=>by rw [freshE_pg e he]; exact fun e=>hq1 e.symm)]
-- a root that grows
theorem rawE_nil:∀ {l:List ByteArray} {i:Nat},(∀ k,(l.getD k ByteArray.empty).size=0)→rawE i l=[]
 | [], _, _=>rfl
 | x::l,i,h=>by rw [rawE_zero (x:=x) (h 0),rawE_nil fun k=>h (k+1)]
theorem setI_getD (l:List ByteArray) (k j:Nat) (x:ByteArray):(setI l k x).getD j ByteArray.empty=if j=k then x else l.getD j ByteArray.empty:=by
 by_cases h:j=k
 ·subst h; rw [if_pos rfl,setI_get]
 ·rw [if_neg h,setI,List.getD_eq_getElem?_getD,List.getElem?_set_ne (fun e=>h e.symm),List.getD_eq_getElem?_getD]
  by_cases hj:j < l.length
  ·rw [List.getElem?_append_left hj]
  ·rw [List.getElem?_append_right (by omega),List.getElem?_eq_none (l:=l) (by omega)]
   cases hq:(List.replicate (k+1 - l.length) ByteArray.empty)[j - l.length]? with
   | none=>rfl
   | some y=>rw [(List.mem_replicate.1 (List.mem_of_getElem? hq)).2]; rfl
theorem clr_its {pos:Int}:∀ {L:List EnD} {ps:List PgS},0≤pos→pos < ps.length→(∀ e∈L,e.2.1≤100)→
  ((doB ps (clearE pos L)).getD pos.toNat pgs0).1=(ps.getD pos.toNat pgs0).1∧∀ k,((doB ps (clearE pos L)).getD pos.toNat pgs0).2.2.getD k ByteArray.empty=if (∃ e∈L,e.2.1=k) then ByteArray.empty else (ps.getD pos.toNat pgs0).2.2.getD k ByteArray.empty
 | [],ps, _, _, _=>⟨rfl,fun k=>by rw [if_neg (by simp)]; rfl⟩
 | e::L,ps,h0,h1,h=>by
   have hg:(do1B ps (pos,(e.2.1:Int),ByteArray.empty)).getD pos.toNat pgs0= _:=ed1 h0 h1 (by omega) (by have:=h e (by simp); omega)
   obtain ⟨h2,h3⟩:=clr_its (L:=L) (ps:=do1B ps (pos,(e.2.1:Int),ByteArray.empty)) h0 (by rw [do1B_len]; exact h1) fun x hx=>h x (by simp [hx])
   rw [hg] at h2 h3
   refine ⟨h2,fun k=>(h3 k).trans ?_⟩
   dsimp only
   rw [Int.toNat_natCast,setI_getD]
   by_cases hc:∃ x∈L,x.2.1=k
   ·obtain ⟨x,hx,hxk⟩:=hc
    rw [if_pos ⟨x,hx,hxk⟩,if_pos ⟨x,by simp [hx],hxk⟩]
   ·rw [if_neg hc]
    by_cases hk:k=e.2.1
    ·rw [if_pos hk,if_pos ⟨e,by simp,hk.symm⟩]
    ·rw [if_neg hk,if_neg]
     rintro ⟨x,hx,hxk⟩
     rcases List.mem_cons.1 hx with rfl | hx
     ·exact hk hxk.symm
     ·exact hc ⟨x,hx,hxk⟩
/-- every item stands in some entry -/
theorem slot_of {k:Int} {its:List ByteArray} {n:NoD} (h:nodF k its=some n) {s:Nat} (hs:1≤s) (hz:(its.getD s ByteArray.empty).size≠0):∃ e∈n.es,e.2.1=s:=by
 obtain ⟨y,l,rfl,rfl,hok,rfl⟩:=nodF_inv h
 have key:∀ (l:List ByteArray) (i j:Nat),(l.getD j ByteArray.empty).size≠0→(i+j,l.getD j ByteArray.empty)∈rawE i l:=by
  intro l
  induction l with
  | nil=>intro i j hj; exact absurd rfl hj
  | cons x l ih=>
    intro i j hj
    rw [rawE]
    cases j with
    | zero=>
      have hx:x.size≠0:=hj
      rw [if_neg hx]; exact List.mem_cons_self ..
    | succ j=>
      rw [List.getD_cons_succ] at hj ⊢
      have:=ih (i+1) j hj
      rw [show i+1+j=i+(j+1) by omega] at this
      split
      ·exact this
      ·exact List.mem_cons_of_mem _ this
 obtain ⟨j,rfl⟩:∃ j,s=j+1:=⟨s - 1,by omega⟩
 rw [List.getD_cons_succ] at hz
 have hm:=key l 1 j hz
 rw [Nat.add_comm 1 j] at hm
 refine ⟨parE (numS y 0 1) (j+1,l.getD j ByteArray.empty),(srt_perm _ _).mem_iff.2 (List.mem_map.2 ⟨_,hm,rfl⟩),?_⟩
 unfold parE; split<;>rfl
theorem leastB_size:leastB.size=4:=by decide
theorem grow_nd {ps:List PgS} {pos pg:Int} {n:NoD} (h:ndAt ps pos=some n) (hits:(ps.getD pos.toNat pgs0).2.2.length≤101) (h0:0≤pg) (h1:pg < ps.length) (hps:ps.length≤60000) (hne:pg≠pos) (hlen:n.es.length≤100) (hlv:n.lv≤254):
  (∃ n1,ndAt (doB ps (growE pos n pg)) pg=some n1∧n1.lv=n.lv∧n1.right= -1∧n1.high=ByteArray.empty∧n1.dead=false∧(n1.es.map kv).Perm (n.es.map kv))∧
  (∃ n2,ndAt (doB ps (growE pos n pg)) pos=some n2∧n2.lv=n.lv+1∧n2.right= -1∧n2.high=ByteArray.empty∧n2.dead=false∧n2.es.map kv=[(leastB,pg)])∧
  ∀ q,q≠pg→q≠pos→ndAt (doB ps (growE pos n pg)) q=ndAt ps q:=by
 obtain ⟨hp0,hp1,hn⟩:=nd_at h
 obtain ⟨a1,a2,a3,a4⟩:=nd_hd hn
 have hso:=nodF_sorted hn
 obtain ⟨n1,f1,f2,f3,f4,f5,f6⟩:=fresh_nd (ps:=ps) (pg:=pg) (lv:=n.lv) (rt:= -1) (hi:=ByteArray.empty) (es:=n.es) h0 h1 a1 ⟨by omega,by omega⟩ (.inl rfl) (fun e he=>⟨hso.2 e he,a4 e he⟩) hlen
 have hcl:∀ e∈clearE pos n.es,e.1=pos:=fun e he=>by obtain ⟨x, _,rfl⟩:=List.mem_map.1 he; rfl
 obtain ⟨ps1,hps1⟩:∃ z,doB ps (freshE pg n.lv (-1) ByteArray.empty n.es)=z:=⟨_,rfl⟩
 have hl1:ps1.length=ps.length:=by rw [← hps1,doB_len]
 have hg1:ps1.getD pos.toNat pgs0=ps.getD pos.toNat pgs0:=by rw [← hps1]; exact doB_other fun e he=>by rw [freshE_pg e he]; omega
 obtain ⟨ps2,hps2⟩:∃ z,doB ps1 [(pos,0,hdB (n.lv+1) (-1) false ByteArray.empty)]=z:=⟨_,rfl⟩
 have hl2:ps2.length=ps.length:=by rw [← hps2,doB_len,hl1]
 have hg2:ps2.getD pos.toNat pgs0=((ps.getD pos.toNat pgs0).1,(ps.getD pos.toNat pgs0).2.1,setI (ps.getD pos.toNat pgs0).2.2 0 (hdB (n.lv+1) (-1) false ByteArray.empty)):=by
  rw [← hps2]
  show (do1B ps1 (pos,0,hdB (n.lv+1) (-1) false ByteArray.empty)).getD pos.toNat pgs0= _
  rw [ed1 hp0 (by rw [hl1]; exact hp1) (by omega) (by omega),hg1]; rfl
 obtain ⟨ps3,hps3⟩:∃ z,doB ps2 (clearE pos n.es)=z:=⟨_,rfl⟩
 have hl3:ps3.length=ps.length:=by rw [← hps3,doB_len,hl2]
 obtain ⟨g3,g4⟩:=clr_its (L:=n.es) (ps:=ps2) hp0 (by rw [hl2]; exact hp1) fun e he=>(slot_nd h hits he).2.2
 rw [hps3,hg2] at g3 g4
 have hE:doB ps (growE pos n pg)=doB ps3 [(pos,1,itB 1 pg leastB)]:=by rw [growE,doB_app,doB_app,doB_app,hps1,hps2,hps3]
 have hk2:(ps.getD pos.toNat pgs0).1=2:=(nodF_inv hn).elim fun y hy=>hy.elim fun l hl=>hl.2.1
 -- what the root holds
 obtain ⟨its3,hi3⟩:∃ z,(ps3.getD pos.toNat pgs0).2.2=z:=⟨_,rfl⟩
 rw [hi3] at g4
 dsimp only at g3 g4
 have hz0:its3.getD 0 ByteArray.empty=hdB (n.lv+1) (-1) false ByteArray.empty:=by
  rw [g4 0,if_neg,setI_get]
  rintro ⟨e,he,hes⟩
  have:=(slot_nd h hits he).1; omega
 have hzk:∀ k,(its3.getD (k+1) ByteArray.empty).size=0:=fun k=>by
  rw [g4 (k+1)]
  by_cases hc:∃ e∈n.es,e.2.1=k+1
  ·rw [if_pos hc]; rfl
  ·rw [if_neg hc,setI_getD,if_neg (by omega)]
   cases hq:decide (((ps.getD pos.toNat pgs0).2.2.getD (k+1) ByteArray.empty).size=0) with
   | true=>exact of_decide_eq_true hq
   | false=>exact absurd (slot_of hn (by omega) (of_decide_eq_false hq)) hc
 have hdz:(hdB (n.lv+1) (-1) false ByteArray.empty).size=4:=by rw [hdB_size]; rfl
 cases hit:its3 with
 | nil=>rw [hit] at hz0; have:=congrArg ByteArray.size hz0; rw [hdz] at this; exact absurd this (by decide)
 | cons y l=>
   rw [hit] at hz0 hzk
   have hy:y=hdB (n.lv+1) (-1) false ByteArray.empty:=hz0
   have hl:rawE 1 l=[]:=rawE_nil fun k=>hzk k
   have hlz:(l.getD 0 ByteArray.empty).size=0:=hzk 0
   have e1:=hdB_lv (lv:=n.lv+1) (rt:= -1) (d:=false) (hi:=ByteArray.empty) ⟨by omega,by omega⟩
   have hiz:(itB 1 pg leastB).size≠0:=by rw [itB_sz,leastB_size]; decide
   have hpr:=rawE_set hiz l 0 1 hlz
   rw [hl] at hpr
   have hpr:rawE 1 (setI l 0 (itB 1 pg leastB))=[(1,itB 1 pg leastB)]:=List.perm_singleton.1 hpr
   have hpos:(0:Int) < n.lv+1:=by omega
   have hb:(rawE 1 (setI l 0 (itB 1 pg leastB))).any (badE (n.lv+1))=false:=by
    rw [hpr]
    have:badE 1 (1,itB 1 pg leastB)=false:=badE_itB (by rw [leastB_size]; decide)
    have e2:badE (n.lv+1) (1,itB 1 pg leastB)=badE 1 (1,itB 1 pg leastB):=by unfold badE; rw [if_pos hpos,if_pos (by decide)]
    simp [e2,this]
   have e3:parE (n.lv+1) (1,itB 1 pg leastB)=(leastB,1,pg):=by
    have e4:parE (n.lv+1) (1,itB 1 pg leastB)=parE 1 (1,itB 1 pg leastB):=by unfold parE; rw [if_pos hpos,if_pos (by decide)]
    rw [e4,parE_itB (fun _=>⟨h0,by omega⟩),if_pos (by decide)]
   have hfin:nodF 2 (setI its3 1 (itB 1 pg leastB))=some ⟨n.lv+1, -1,ByteArray.empty,false,[(leastB,1,pg)],freeE 1 (setI l 0 (itB 1 pg leastB)) ((setI l 0 (itB 1 pg leastB)).length+1)⟩:=by
    rw [hit,setI_cons,hy,nodF_good (hdB_ok (.inl rfl)) (by rw [e1]; exact hb),e1,hdB_rt ⟨by omega,by omega⟩,hdB_hi,hdB_d,hpr]
    simp only [srt,List.map_cons,List.map_nil,e3]
    rfl
   rw [hE]
   refine ⟨⟨n1,?_,f2,f3,f4,f5,f6⟩,⟨⟨n.lv+1, -1,ByteArray.empty,false,[(leastB,1,pg)],freeE 1 (setI l 0 (itB 1 pg leastB)) ((setI l 0 (itB 1 pg leastB)).length+1)⟩,nd_of hp0 (by rw [doB_len,hl3]; exact hp1) ?_,rfl,rfl,rfl,rfl,rfl⟩,fun q hq1 hq2=>?_⟩
   ·rw [nd_other (fun e he=>by rw [List.mem_singleton.1 he]; exact fun e=>hne e.symm),← hps3,nd_other (fun e he=>by rw [hcl e he]; exact fun e=>hne e.symm),← hps2,nd_other (fun e he=>by rw [List.mem_singleton.1 he]; exact fun e=>hne e.symm),← hps1]; exact f1
   ·show nodF ((do1B ps3 (pos,1,itB 1 pg leastB)).getD pos.toNat pgs0).1 ((do1B ps3 (pos,1,itB 1 pg leastB)).getD pos.toNat pgs0).2.2= _
    rw [ed1 hp0 (by rw [hl3]; exact hp1) (by omega) (by omega),g3,hk2,hi3]
    exact hfin
   ·rw [nd_other (fun e he=>by rw [List.mem_singleton.1 he]; exact fun e=>hq2 e.symm),← hps3,nd_other (fun e he=>by rw [hcl e he]; exact fun e=>hq2 e.symm),← hps2,nd_other (fun e he=>by rw [List.mem_singleton.1 he]; exact fun e=>hq2 e.symm),← hps1,nd_other (fun e he=>by rw [freshE_pg e he]; exact fun e=>hq1 e.symm)]
end
end Go.Proofs.YtjlcoglmjldjbaaGreat

/- TreePagesRow: part 5 of the proof. -/
import Derived.Test.YtjlcoglmjldjbaaGreatZ4

set_option linter.unusedVariables false
set_option linter.unusedSimpArgs false
set_option maxRecDepth 100000
set_option maxHeartbeats 16000000
namespace Go.Proofs.YtjlcoglmjldjbaaGreat
section
open Go.RowKit
/-- neighbours in a node: a page and the page behind it -/
def ledC (es:List EnD) (pg rt:Int) (j:Nat):Bool:=((es.getD j en0).2.2==pg)&&((es.getD (j+1) en0).2.2==rt)
def ledM (m:NoD) (pg rt:Int):Option Nat:=if m.dead then none else (List.range (m.es.length - 1)).find? (ledC m.es pg rt)
def ledF (L:List (Int×NoD)) (pg rt:Int):Option (Nat×Nat):=(List.range L.length).findSome? fun i=>(ledM (L.getD i (0,nodZ)).2 pg rt).map fun j=>(i,j)
theorem fd_hit {p:Nat→Bool} {n j:Nat} (hj:j < n) (h0:∀ k < j,p k=false) (h1:p j=true):(List.range n).find? p=some j:=by
 rw [List.find?_range_eq_some]
 exact ⟨h1,List.mem_range.2 hj,fun k hk=>by rw [h0 k hk]; rfl⟩
theorem fd_none {p:Nat→Bool} {n:Nat} (h0:∀ k < n,p k=false):(List.range n).find? p=none:=by
 rw [List.find?_eq_none]
 intro k hk
 rw [h0 k (List.mem_range.1 hk)]; decide
theorem fs_none {α:Type} {f:Nat→Option α} {n:Nat} (h0:∀ k < n,f k=none):(List.range n).findSome? f=none:=by
 rw [List.findSome?_eq_none_iff]
 exact fun k hk=>h0 k (List.mem_range.1 hk)
theorem fs_hit {α:Type} {f:Nat→Option α} {n i:Nat} {a:α} (hi:i < n) (h0:∀ k < i,f k=none) (h1:f i=some a):(List.range n).findSome? f=some a:=by
 rw [List.findSome?_eq_some_iff]
 refine ⟨List.range i,i,(List.range (n - (i+1))).map (·+(i+1)),?_,h1,fun k hk=>h0 k (List.mem_range.1 hk)⟩
 apply List.ext_getElem
 ·simp; omega
 ·intro k h2 h3
  simp only [List.getElem_range]
  rcases Nat.lt_trichotomy k i with h | h | h
  ·rw [List.getElem_append_left (by simpa using h)]; simp
  ·subst h; rw [List.getElem_append_right (by simp)]; simp
  ·rw [List.getElem_append_right (by simp; omega)]
   simp only [List.length_range]
   rw [List.getElem_cons,dif_neg (by omega)]
   simp; omega
theorem led_some {L:List (Int×NoD)} {pg rt:Int} {i j:Nat} (h:ledF L pg rt=some (i,j)):i < L.length∧(L.getD i (0,nodZ)).2.dead=false∧j+1 < (L.getD i (0,nodZ)).2.es.length∧ledC (L.getD i (0,nodZ)).2.es pg rt j=true:=by
 obtain ⟨k,hk,hf⟩:=List.exists_of_findSome?_eq_some h
 have hk:=List.mem_range.1 hk
 cases hm:ledM (L.getD k (0,nodZ)).2 pg rt with
 | none=>rw [hm] at hf; cases hf
 | some q=>
   rw [hm] at hf
   injection hf with hf
   injection hf with h1 h2
   subst h1 h2
   unfold ledM at hm
   split at hm
   ·cases hm
   ·rename_i hd
    have h2:=List.find?_some hm
    have h3:=List.mem_range.1 (List.mem_of_find?_eq_some hm)
    exact ⟨hk,by simpa using hd,by omega,h2⟩
/-- nodes collected, their rows known -/
def eCX (SA:Option Addr) (xs:List YnD) (fp:List Nat):Ent:=⟨fp,fun W=>(∀ ad,SA=some ad→ad.block∈fp)∧At W SA (xs.flatMap ynC)∧∀ y∈xs,(∀ ad,y.2.2.1=some ad→ad.block∈fp)∧At W y.2.2.1 (y.1.es.flatMap enC)⟩
theorem eCX_loc (SA:Option Addr) (xs:List YnD) (fp:List Nat):(eCX SA xs fp).loc:=fun W W' hk h=>⟨h.1,at_blocks h.2.1 fun ad e _=>hk _ (h.1 ad e),fun y hy=>⟨(h.2.2 y hy).1,at_blocks (h.2.2 y hy).2 fun ad e _=>hk _ ((h.2.2 y hy).1 ad e)⟩⟩
theorem St.openCL {w W:World} {bor:List Nat} {SA:Option Addr} {L:List (Int×NoD)} {fp:List Nat} {R:List Ent} (h:St w bor (eCL SA L fp::R) W):∃ xs:List YnD,xs.map pgN=L∧St w bor (eCX SA xs fp::R) W:=by
 have h1:=h.ok (eCL SA L fp) (by simp)
 obtain ⟨xs,hx,h2⟩:=h1.holds
 refine ⟨xs,hx,h.upd,fun e he=>?_,List.pairwise_cons.2 ⟨fun e he=>(List.pairwise_cons.1 h.apart).1 e he,(List.pairwise_cons.1 h.apart).2⟩⟩
 rcases List.mem_cons.1 he with rfl | he
 ·exact ⟨h2,eCX_loc _ _ _,h1.own⟩
 ·exact h.ok e (by simp [he])
/-- may the leaf be taken out, and where its parent names it -/
def unOk (ab:List (Int×NoD)) (root:Int) (n:Int×NoD):Option (Nat×Nat):=if decide (0 < (n.2.es.length:Int))||(n.1==root)||n.2.dead then none else ledF ab n.1 n.2.right
def unE (ah:Option (Int×NoD)) (n m:Int×NoD) (j:Nat):List EdT:=
 ([(m.1,((m.2.es.getD j en0).2.1:Int),itB m.2.lv n.2.right (m.2.es.getD j en0).1),(m.1,((m.2.es.getD (j+1) en0).2.1:Int),ByteArray.empty)]:List EdT)++(match ah with | none=>([]:List EdT) | some a=>[(a.1,(0:Int),hdB a.2.lv n.2.right a.2.dead a.2.high)])++([(n.1,(0:Int),hdB n.2.lv n.2.right true n.2.high)]:List EdT)
def unlG (ab:List (Int×NoD)) (root:Int):Option (Int×NoD)→List (Int×NoD)→List EdT×Int×Int
 | _,[]=>([], -1, -1)
 | ah,n::l=>match unOk ab root n with
   | none=>unlG ab root (some n) l
   | some (i,j)=>(unE ah n (ab.getD i (0,nodZ)) j,n.1,n.2.right)
def unlF (ps:List PgS) (root:Int):List EdT×Int×Int:=unlG (rowF ps root 1) root none (rowF ps root 0)
def ahd (ah:Option (Int×NoD)) (pre:List (Int×NoD)):Option (Int×NoD):=match pre.getLast? with | some a=>some a | none=>ah
theorem unl_skip {ab:List (Int×NoD)} {root:Int}:∀ {pre r:List (Int×NoD)} {ah:Option (Int×NoD)},(∀ y∈pre,unOk ab root y=none)→unlG ab root ah (pre++r)=unlG ab root (ahd ah pre) r
 | [], _, _, _=>rfl
 | n::pre,r,ah,h=>by
   rw [List.cons_append,unlG,h n (by simp)]
   dsimp only
   rw [unl_skip fun y hy=>h y (by simp [hy])]
   congr 1
   unfold ahd
   cases pre with
   | nil=>rfl
   | cons a l=>rw [List.getLast?_cons_cons]; cases h2:(a::l).getLast? with
     | none=>simp at h2
     | some b=>rfl
theorem unl_hit {ab:List (Int×NoD)} {root:Int} {ah:Option (Int×NoD)} {n:Int×NoD} {l:List (Int×NoD)} {i j:Nat} (h:unOk ab root n=some (i,j)):unlG ab root ah (n::l)=(unE ah n (ab.getD i (0,nodZ)) j,n.1,n.2.right):=by rw [unlG,h]
def ynV (y:YnD):Value:= .agg #[.int .i64 y.2.1, .int .i64 y.1.lv, .int .i64 y.1.right, .string y.1.high, .bool y.1.dead, .slice y.2.2.1 y.1.es.length y.2.2.2, .int .i64 ((y.1.free:Int))]
def ledV (xs:List YnD) (pg rt:Int):Value:=match ledF (xs.map pgN) pg rt with
 | none=> .tuple #[kn0 0, .int .i64 0, .bool false]
 | some (i,j)=> .tuple #[ynV (xs.getD i yn0), .int .i64 (j:Int), .bool true]
theorem led_v {xs:List YnD} {pg rt:Int} {i j:Nat} (h:ledF (xs.map pgN) pg rt=some (i,j)):ledV xs pg rt= .tuple #[ynV (xs.getD i yn0), .int .i64 (j:Int), .bool true]:=by rw [ledV,h]
theorem led_v0 {xs:List YnD} {pg rt:Int} (h:ledF (xs.map pgN) pg rt=none):ledV xs pg rt= .tuple #[kn0 0, .int .i64 0, .bool false]:=by rw [ledV,h]
theorem ledF_at {xs:List YnD} {pg rt:Int} {i j:Nat} (hi:i < xs.length) (h0:∀ k < i,ledM (xs.getD k yn0).1 pg rt=none) (hd:(xs.getD i yn0).1.dead=false) (hj:j+1 < (xs.getD i yn0).1.es.length) (h1:∀ k < j,ledC (xs.getD i yn0).1.es pg rt k=false) (h2:ledC (xs.getD i yn0).1.es pg rt j=true):ledF (xs.map pgN) pg rt=some (i,j):=by
 refine fs_hit (i:=i) (by rw [List.length_map]; exact hi) (fun k hk=>?_) ?_
 ·rw [getD_pgN]; show (ledM (xs.getD k yn0).1 pg rt).map _=none; rw [h0 k hk]; rfl
 ·rw [getD_pgN]; show (ledM (xs.getD i yn0).1 pg rt).map _= _
  rw [ledM,if_neg (by rw [hd]; decide),fd_hit (j:=j) (by omega) h1 h2]; rfl
theorem ledF_no {xs:List YnD} {pg rt:Int} (h0:∀ k < xs.length,ledM (xs.getD k yn0).1 pg rt=none):ledF (xs.map pgN) pg rt=none:=by
 refine fs_none fun k hk=>?_
 rw [List.length_map] at hk
 rw [getD_pgN]; show (ledM (xs.getD k yn0).1 pg rt).map _=none; rw [h0 k hk]; rfl
theorem ledM_no {m:NoD} {pg rt:Int} {j:Nat} (h1:∀ k < j,ledC m.es pg rt k=false) (hj:¬ ((j:Int)+1 < (m.es.length:Int))∨m.dead=true):ledM m pg rt=none:=by
 unfold ledM; split
 ·rfl
 ·rename_i hd
  rcases hj with hj | hj
  ·exact fd_none fun k hk=>h1 k (by omega)
  ·exact absurd hj hd
theorem lt_step {p:Nat→Prop} {i:Nat} (h:∀ k < i,p k) (hi:p i):∀ k < i+1,p k:=fun k hk=>by
 rcases Nat.lt_or_ge k i with h1 | h1
 ·exact h k h1
 ·rwa [show k=i by omega]
theorem kled_any (SA:Option Addr) (sc:Nat) (xs:List YnD) (pg lv rt fr:Int) (hg:ByteArray) (dd:Bool) (EA:Option Addr) (en ec:Nat) (w:World) (hS:At w SA (xs.flatMap ynC)) (hR:∀ y∈xs,At w y.2.2.1 (y.1.es.flatMap enC)) (hN:∀ y∈xs,y.1.es.length≤100) (hxl:xs.length≤1000):
  Calls Tryz.prog 60 #[.slice SA xs.length sc, .agg #[.int .i64 pg, .int .i64 lv, .int .i64 rt, .string hg, .bool dd, .slice EA en ec, .int .i64 fr]] w (Ret (ledV xs pg rt) w):=by
 go_enter Tryz.func60,Tryz.ntmps60
 have hst0:=St.start w
 refine wp_seq (sqr ?_)
 refine sqbx #[vi pg,vi lv,vi rt, .string hg, .bool dd, .slice EA en ec,vi fr] hst0 fun B3_1 W1 hst1=>?_
 refine sqal #[vi 0,vi 0,vi 0, .string ByteArray.empty, .bool false, .slice none 0 0,vi 0] hst1 fun B4_2 W2 hst2=>?_
 refine sqp [.k 5 (vi 0), .k 6 (.bool false)] ?_
 refine then_normal (wp_seq (wp_seq (sqr (sqp [.m 10 0, .k 11 (vi ((xs.length:Int))), .k 12 (vi 0)] ?_))))
 refine then_normal (wp_block ?_)
 refine wp_loopT (fun t_ mz az W=>∃ i:Nat,i≤xs.length∧(∀ k < i,ledM (xs.getD k yn0).1 pg rt=none)∧mz=xs.length - i∧az=⟨(ovr (jv az) [(5,5,2,[]),(1,8,2,[]),(2,12,0,[vi ((i:Int))]),(0,13,40,[])] t_).toArray,[]⟩∧St w [] [eB B3_1 84 #[vi pg,vi lv,vi rt, .string hg, .bool dd, .slice EA en ec,vi fr],eB B4_2 84 #[vi 0,vi 0,vi 0, .string ByteArray.empty, .bool false, .slice none 0 0,vi 0]] W) (xs.length - 0) ?_ ?_
 · -- the loop begins
   exact ⟨0,Nat.zero_le _,(fun k hk=>absurd hk (Nat.not_lt_zero k)),rfl,(by kernel_rfl),hst2.pk [0,1]⟩
 rintro n8 a8 W8 ⟨i,hi,hno,rfl,hj_,hst8⟩
 refine ovz hj_ fun u8_=>?_
 refine wp_seq (sqr (sqp [.k 13 (.bool (decide ((i:Int) < (xs.length:Int))))] ?_))
 refine then_normal (wp_seq (wds (fun hs10 hs10p=>?_) fun hs10 hs10p=>?_))
 ·refine wp_skip (then_normal (wp_seq (wp_block (wp_seq ?_))))
  obtain ⟨y_,hy_⟩:∃ z,xs[i]? =some z:=⟨_,yn_get (by omega)⟩
  have hym_:=List.mem_of_getElem? hy_
  have hRy:=hR y_ hym_
  have hN1:=hN y_ hym_
  have hgd:xs.getD i yn0=y_:=by rw [List.getD_eq_getElem?_getD,hy_]; rfl
  refine sqr ?_
  refine sql (.pointer (some ((ad SA).add (i*7)))) hst8 (fun cx=>run_indexSlM (e:=84) (m:=i) (sz:=7) rfl (by kernel_rfl) (by kernel_rfl) (cx.ou 10) (cx.ou 12) (by omega) (by omega) (hS.ext cx.upd.to_ext) (flatPos (sz:=7) ynC_len (by decide) (by omega))) ?_
  refine sql (.agg #[vi y_.2.1,vi y_.1.lv,vi y_.1.right, .string y_.1.high, .bool y_.1.dead, .slice y_.2.2.1 y_.1.es.length y_.2.2.2,vi ((y_.1.free:Int))]) hst8 (fun cx=>run_loadElt (f:=ynC) (m:=i) (sz:=7) (off:=0) (n:=7) rfl (by kernel_rfl) (by kernel_rfl) (cx.ou 14) rfl ynC_len (hS.ext cx.upd.to_ext) hy_ (fun k hk=>match k,hk with | 0, _=>rfl | 1, _=>rfl | 2, _=>rfl | 3, _=>rfl | 4, _=>rfl | 5, _=>rfl | 6, _=>rfl | k+7,hk=>absurd hk (by omega))) ?_
  refine sqal #[vi 0,vi 0,vi 0, .string ByteArray.empty, .bool false, .slice none 0 0,vi 0] hst8 fun B8_13 W13 hst13=>?_
  refine sqst (n:=7) 2 #[vi y_.2.1,vi y_.1.lv,vi y_.1.right, .string y_.1.high, .bool y_.1.dead, .slice y_.2.2.1 y_.1.es.length y_.2.2.2,vi ((y_.1.free:Int))] hst13 fun W14 hst14=>?_
  refine then_normal (wp_seq (sqr (sqp [.k 9 (vi 0)] ?_)))
  refine then_normal (wp_block ?_)
  refine wp_loopT (fun t_ mz az W=>∃ j:Nat,j≤y_.1.es.length∧(∀ k < j,ledC y_.1.es pg rt k=false)∧mz=y_.1.es.length - j∧az=⟨(ovr (jv az) [(5,5,2,[]),(2,9,0,[vi ((j:Int))]),(6,16,36,[])] t_).toArray,[]⟩∧St w [] [eB B3_1 84 #[vi pg,vi lv,vi rt, .string hg, .bool dd, .slice EA en ec,vi fr],eB B4_2 84 #[vi 0,vi 0,vi 0, .string ByteArray.empty, .bool false, .slice none 0 0,vi 0],eB B8_13 84 #[vi y_.2.1,vi y_.1.lv,vi y_.1.right, .string y_.1.high, .bool y_.1.dead, .slice y_.2.2.1 y_.1.es.length y_.2.2.2,vi ((y_.1.free:Int))]] W) (y_.1.es.length - 0) ?_ ?_
  · -- the loop begins
    exact ⟨0,Nat.zero_le _,(fun k hk=>absurd hk (Nat.not_lt_zero k)),rfl,(by kernel_rfl),hst14.pk [0,1,2]⟩
  rintro n16 a16 W16 ⟨j,hj,hnj,rfl,hj_,hst16⟩
  refine ovz hj_ fun u16_=>?_
  refine wp_seq (wp_seq (sqr (sqp [.m 16 9,sI 17 ((j:Int)+1) (by omega), .k 18 (.pointer (some ⟨B8_13,5,none⟩))] ?_)))
  refine sqld 2 hst16 ?_
  refine sqp [.k 20 (vi ((y_.1.es.length:Int))), .k 21 (.bool (decide ((j:Int)+1 < (y_.1.es.length:Int)))), .m 22 21] ?_
  refine sqw' 22 [23,24,25] ?_ rfl (fun hq=>?_) ?_
  rotate_left
  ·refine sqp [.k 23 (.pointer (some ⟨B8_13,4,none⟩))] ?_
   refine sqld 2 hst16 ?_
   refine sqp [.k 25 (.bool (!(y_.1.dead)))] ?_
   exact sqe
  refine sqwx ?_
  refine sqp [sPa 26 (decide ((j:Int)+1 < (y_.1.es.length:Int))) (!(y_.1.dead))] ?_
  refine then_normal (wbs (fun hs28=>?_) fun hs28=>?_)
  ·have hs28p:=hs28
   simp only [zB] at hs28p
   obtain ⟨hs28p1,hs28p2⟩:=hs28p
   refine wp_skip (then_normal (wp_seq (wp_block (wp_seq (wp_region_Z [0,1,0,7,15,31,0,64,255,511,1023,2047,1023,5119,16383,32767,65535,1023,132095,524287,1048575] [[],[2],[],[],[],[],[],[0],[],[],[],[2],[],[],[],[],[],[],[0]] [.k 29 (.pointer (some ⟨B8_13,5,none⟩)), .c 30 (.slice y_.2.2.1 y_.1.es.length y_.2.2.2), .k 31 (vi ((j:Int))), .c 32 (.pointer (some ((ad y_.2.2.1).add (j*3)))), .c 33 (.pointer (some ((ad y_.2.2.1).add (j*3+2)))), .c 34 (vi ((y_.1.es.getD j en0).2.2)), .k 35 (vp B3_1), .c 36 (vi pg), .k 37 (.bool (((y_.1.es.getD j en0).2.2)==pg)), .k 38 (.bool (((y_.1.es.getD j en0).2.2)==pg)), .z 39 (((y_.1.es.getD j en0).2.2)==pg) (.pointer (some ⟨B8_13,5,none⟩)), .y 40 (((y_.1.es.getD j en0).2.2)==pg) (.slice y_.2.2.1 y_.1.es.length y_.2.2.2), .z 41 (((y_.1.es.getD j en0).2.2)==pg) (vi ((j:Int))), .y 42 (((y_.1.es.getD j en0).2.2)==pg) (vi ((j:Int)+1)), .y 43 (((y_.1.es.getD j en0).2.2)==pg) (.pointer (some ((ad y_.2.2.1).add ((j+1)*3)))), .y 44 (((y_.1.es.getD j en0).2.2)==pg) (.pointer (some ((ad y_.2.2.1).add ((j+1)*3+2)))), .y 45 (((y_.1.es.getD j en0).2.2)==pg) (vi ((y_.1.es.getD (j+1) en0).2.2)), .z 46 (((y_.1.es.getD j en0).2.2)==pg) (.pointer (some ⟨B3_1,2,none⟩)), .y 47 (((y_.1.es.getD j en0).2.2)==pg) (vi rt), .z 48 (((y_.1.es.getD j en0).2.2)==pg) (.bool (((y_.1.es.getD (j+1) en0).2.2)==rt)),tA 49 (((y_.1.es.getD j en0).2.2)==pg) (((y_.1.es.getD (j+1) en0).2.2)==rt)] [0,1,2] [1,3,4,5,7,11,13,14,15,16,18] [(29,0,21,50)] hst16 ?_ fun W29 hst29=>?_)))))
   ·refine ⟨?_,?_,?_,?_,?_,?_,?_,?_,?_,?_,?_,trivial⟩
    ·exact xs4 rfl id fun cx=>run_load1 rfl (by kernel_rfl) (cx.an 0) ((cx.bi 2 rfl).cell 5)
    ·exact xs4 rfl id fun cx=>run_indexSlM (e:=89) (m:=j) (sz:=3) rfl (by kernel_rfl) (by kernel_rfl) (cx.an 1) (cx.an 2) (by omega) (by omega) (hRy.ext cx.upd.to_ext) (flatPos (sz:=3) enC_len (by decide) (by omega))
    ·exact xs4 rfl id fun cx=>run_fieldAd rfl (by kernel_rfl) (cx.an 3)
    ·exact xs4 rfl id fun cx=>run_load1 rfl (by kernel_rfl) (cx.an 4) (At.eltc (f:=enC) (k:=2) enC_len (hRy.ext cx.upd.to_ext) (en_get (by omega)) rfl)
    ·exact xs4 rfl id fun cx=>run_load1 rfl (by kernel_rfl) (cx.an 6) ((cx.bi 0 rfl).cell 0)
    ·exact m2 rfl (fun _ _ _ h=>h) (fun cx=>(cx.an 9)) fun cx hq=>run_load1 rfl (by kernel_rfl) (mbv (cx.an 10) hq) ((cx.bi 2 rfl).cell 5)
    ·exact m2 rfl (fun _ _ _ h=>h) (fun cx=>(cx.an 9)) fun cx hq=>run_bin rfl (mbv (cx.an 12) hq) (cx.co _) (congrArg (fun z=>some (Value.int .i64 z)) ((IntWalk.i64_in _ (by have hq_:=hq; simp only [zB] at hq_; omega)).trans (by have hq_:=hq; simp only [zB] at hq_; omega)))
    ·exact m2 rfl (fun _ _ _ h=>h) (fun cx=>(cx.an 9)) fun cx hq=>run_indexSlM (e:=89) (m:=j+1) (sz:=3) rfl (by kernel_rfl) (by kernel_rfl) (mbv (cx.an 11) hq) (mbv (cx.an 13) hq) (by have hq_:=hq; simp only [zB] at hq_; omega) (by have hq_:=hq; simp only [zB] at hq_; omega) (hRy.ext cx.upd.to_ext) (flatPos (sz:=3) enC_len (by decide) (by have hq_:=hq; simp only [zB] at hq_; omega))
    ·exact m2 rfl (fun _ _ _ h=>h) (fun cx=>(cx.an 9)) fun cx hq=>run_fieldAd rfl (by kernel_rfl) (mbv (cx.an 14) hq)
    ·exact m2 rfl (fun _ _ _ h=>h) (fun cx=>(cx.an 9)) fun cx hq=>run_load1 rfl (by kernel_rfl) (mbv (cx.an 15) hq) (At.eltc (f:=enC) (k:=2) enC_len (hRy.ext cx.upd.to_ext) (en_get (by have hq_:=hq; simp only [zB] at hq_; omega)) rfl)
    ·exact m2 rfl (fun _ _ _ h=>h) (fun cx=>(cx.an 9)) fun cx hq=>run_load1 rfl (by kernel_rfl) (mbv (cx.an 17) hq) ((cx.bi 0 rfl).cell 2)
   refine then_normal (wbs (fun hs30=>?_) fun hs30=>?_)
   ·have hs30p:=hs30
    simp only [zB] at hs30p
    obtain ⟨hs30p1,hs30p2⟩:=hs30p
    refine wp_seq (sqr ?_)
    refine sqlb 2 7 hst29 ?_
    refine sqp [.m 51 9] ?_
    refine sqst (n:=7) 1 #[vi y_.2.1,vi y_.1.lv,vi y_.1.right, .string y_.1.high, .bool y_.1.dead, .slice y_.2.2.1 y_.1.es.length y_.2.2.2,vi ((y_.1.free:Int))] hst29 fun W33 hst33=>?_
    refine sqp [.m 5 51, .k 6 (.bool true)] ?_
    refine then_normal (wp_ret (blk_ret (then_ret (then_ret (blk_ret (blk_ret (then_ret (then_ret (blk_ret (then_ret ?_))))))))))
    refine bpr (.tuple #[.agg #[vi y_.2.1,vi y_.1.lv,vi y_.1.right, .string y_.1.high, .bool y_.1.dead, .slice y_.2.2.1 y_.1.es.length y_.2.2.2,vi ((y_.1.free:Int))],vi ((j:Int)), .bool true]) (results_3 Tryz.results60 (rpa (hst33.blk 1 rfl) 0 7) rpt rpt) ?_
    exact Ret.of (by rw [led_v (ledF_at (i:=i) (j:=j) (by omega) hno (by rw [hgd]; have h_:=hs28p2; simpa using h_) (by rw [hgd]; omega) (by rw [hgd]; exact hnj) (by rw [hgd,ledC]; exact hs30)),hgd]; rfl) hst33.ext
   have hs30p:=hs30
   simp only [zB] at hs30p
   refine wp_skip (blk_normal (then_normal (sqr (sqp [.m 27 9,sI 28 ((j:Int)+1) (by omega), .m 9 28] ?_))))
   refine then_normal ?_
   refine ⟨y_.1.es.length - ((j+1)),by omega,?_⟩
   exact ⟨(j+1),by omega,lt_step hnj (show ledC y_.1.es pg rt j=false from by rw [ledC]; exact hs30),rfl,(by kernel_rfl),hst29.pk [0,1,2]⟩
  have hs28p:=hs28
  simp only [zB] at hs28p
  refine wp_exit (then_exit (then_exit (blk_eq (blk_normal (then_normal (sqr (sqp [sI 52 ((i:Int)+1) (by omega), .m 12 52] ?_)))))))
  refine then_normal ?_
  have hend_:¬ ((j:Int)+1 < (y_.1.es.length:Int))∨y_.1.dead=true:=by have h_:=hs28; simp only [zB] at h_; simpa using h_
  refine ⟨xs.length - ((i+1)),by omega,?_⟩
  exact ⟨(i+1),by omega,lt_step hno (by rw [hgd]; exact ledM_no hnj hend_),rfl,(by kernel_rfl),hst16.pk [0,1]⟩
 refine wp_exit (then_exit (then_exit (blk_eq (then_normal (wp_seq (sqr (sqp [.k 53 (.agg #[vi 0,vi 0,vi 0, .string ByteArray.empty, .bool false, .slice none 0 0,vi 0])] ?_)))))))
 refine sqst (n:=7) 1 #[vi 0,vi 0,vi 0, .string ByteArray.empty, .bool false, .slice none 0 0,vi 0] hst8 fun W42 hst42=>?_
 refine sqp [.k 5 (vi 0), .k 6 (.bool false)] ?_
 refine then_normal (wp_ret ?_)
 refine bpr (.tuple #[.agg #[vi 0,vi 0,vi 0, .string ByteArray.empty, .bool false, .slice none 0 0,vi 0],vi 0, .bool false]) (results_3 Tryz.results60 (rpa (hst42.blk 1 rfl) 0 7) rpt rpt) ?_
 exact Ret.of (by rw [led_v0 (ledF_no fun k hk=>hno k (by omega))]; rfl) hst42.ext
theorem led_cx {SA:Option Addr} {sc:Nat} {xs:List YnD} {fp:List Nat} {pg lv rt fr:Int} {hg:ByteArray} {dd:Bool} {EA:Option Addr} {en ec:Nat} {w:World} (h:(eCX SA xs fp).holds w) (hN:∀ y∈xs,NdOk y.1) (hxl:xs.length≤1000):
  Calls Tryz.prog 60 #[.slice SA xs.length sc, .agg #[.int .i64 pg, .int .i64 lv, .int .i64 rt, .string hg, .bool dd, .slice EA en ec, .int .i64 fr]] w (Ret (ledV xs pg rt) w):=
 kled_any SA sc xs pg lv rt fr hg dd EA en ec w h.2.1 (fun y hy=>(h.2.2 y hy).2) (fun y hy=>(hN y hy).len) hxl
theorem ret_to {v v':Value} {f:FuncId} {args:Array Value} {w:World} (h:v=v') (hc:Calls Tryz.prog f args w (Ret v w)):Calls Tryz.prog f args w (Ret v' w):=h ▸ hc
theorem unOk_no {ab:List (Int×NoD)} {root:Int} {n:Int×NoD} (h:ledF ab n.1 n.2.right=none):unOk ab root n=none:=by unfold unOk; split<;>first | rfl | exact h
theorem unOk_off {ab:List (Int×NoD)} {root:Int} {n:Int×NoD} (h:(decide (0 < (n.2.es.length:Int))||(n.1==root)||n.2.dead)=true):unOk ab root n=none:=if_pos h
theorem unOk_on {ab:List (Int×NoD)} {root:Int} {n:Int×NoD} {q:Nat×Nat} (h:(decide (0 < (n.2.es.length:Int))||(n.1==root)||n.2.dead)=false) (h2:ledF ab n.1 n.2.right=some q):unOk ab root n=some q:=by unfold unOk; rw [if_neg (by rw [h]; decide)]; exact h2
theorem un_next {ab:List (Int×NoD)} {root:Int} {pre:List YnD} {xx:YnD} (h:∀ y∈pre.map pgN,unOk ab root y=none) (hx:unOk ab root (pgN xx)=none):∀ y∈(pre++[xx]).map pgN,unOk ab root y=none:=fun y hy=>by
 rw [List.map_append] at hy
 rcases List.mem_append.1 hy with hy | hy
 ·exact h y hy
 ·rw [List.map_singleton,List.mem_singleton] at hy; subst hy; exact hx
theorem ahd_snoc (pre:List YnD) (xx:YnD):ahd none ((pre++[xx]).map pgN)=some (pgN xx):=by simp [ahd]
theorem un_fin {ab r:List (Int×NoD)} {root:Int} {pre:List YnD} {xx:YnD} {i j:Nat} (h:∀ y∈pre.map pgN,unOk ab root y=none) (hx:unOk ab root (pgN xx)=some (i,j)):unlG ab root none ((pre++[xx]).map pgN++r)=(unE (ahd none (pre.map pgN)) (pgN xx) (ab.getD i (0,nodZ)) j,xx.2.1,xx.1.right):=by
 rw [List.map_append,List.append_assoc,unl_skip h]; exact unl_hit hx
def UnPost (r:List EdT×Int×Int) (w:World) (e:Ending) (w':World):Prop:=∃ A c,e= .returned (.tuple #[.slice A r.1.length c, .int .i64 r.2.1, .int .i64 r.2.2])∧St w [] [eO 67 3 (.slice A r.1.length c) r.1.length (r.1.flatMap edC)] w'
theorem un_ret {w W:World} {A:Option Addr} {c:Nat} {O:List EdT} {lf rt:Int} {r:List EdT×Int×Int} (h:r=(O,lf,rt)) (hs:St w [] [eO 67 3 (.slice A O.length c) O.length (O.flatMap edC)] W):UnPost r w (.returned (.tuple #[.slice A O.length c, .int .i64 lf, .int .i64 rt])) W:=by subst h; exact ⟨A,c,rfl,hs⟩
theorem ndok_z:NdOk nodZ:=⟨by decide,by decide,by decide,by decide,(fun e he=>absurd he (by simp [nodZ])),by decide⟩
theorem getD_mem_ {l:List YnD} {i:Nat} (h:i < l.length):l.getD i yn0∈l:=List.mem_of_getElem? (yn_get h)
theorem kunlink_g (tt:TypeId) (tv:Value) (root:Int) (ps:List PgS) (w:World) (hS:PgsOk w tt tv ps) (hok:OkS ps) (hoc:OkC ps):
  Calls Tryz.prog 22 #[.iface tt (tv), .int .i64 root] w (UnPost (unlF ps root) w):=by
 refine (callsIn_wide (n:=3)).1 (callsIn_of_wp_marks Tryz.func22 rfl trivial (wpIn_wide.2 ?_) rfl)
 simp only [Tryz.ntmps22,List.size_toArray,List.length_cons,List.length_nil,Nat.reduceAdd,Nat.reduceSub,Array.replicate_succ,Array.replicate_zero,List.push_toArray,List.append_toArray,List.nil_append,List.cons_append]
 have hst0:=St.start w
 refine wp_seq (wp_region_Y [0,0,0,0] [] [[0],[1],[2],[3]] [] [.a 3, .a 4, .a 5, .a 6] (fun ix σ β X=>match ix with | 0=>σ 3=vp (pb (β 3))∧X 0=eB (pb (β 3)) 3 #[vi root] | 1=>σ 4=vp (pb (β 4))∧X 1=eB (pb (β 4)) 28 #[.slice none 0 0] | 2=>σ 5=vp (pb (β 5))∧X 2=eB (pb (β 5)) 3 #[vi 0] | 3=>σ 6=vp (pb (β 6))∧X 3=eB (pb (β 6)) 3 #[vi 0] | _=>True) [0,1,2,3] [0,1,2,3] [(3,0,4,7)] hst0 ?_ ?_ ?_)
 ·exact fun ix _ _ _ _ _ _ hs hb hx h=>match ix,h with
  | 0,h=>by dsimp only; rw [← hs 3 rfl,← hb 3 rfl,← hx 0 rfl]; exact h
  | 1,h=>by dsimp only; rw [← hs 4 rfl,← hb 4 rfl,← hx 1 rfl]; exact h
  | 2,h=>by dsimp only; rw [← hs 5 rfl,← hb 5 rfl,← hx 2 rfl]; exact h
  | 3,h=>by dsimp only; rw [← hs 6 rfl,← hb 6 rfl,← hx 3 rfl]; exact h
  | _+4, _=>trivial
 ·refine ⟨?_,?_,?_,?_,trivial⟩
  ·refine svA fun ρ β W X cx=>?_
   exact dv_box (cs:=#[vi root]) rfl (cx.ou 1) rfl rfl rfl (fun σ β' X' hs hb hv hx=>⟨hv,hx⟩)
  ·refine svA fun ρ β W X cx=>?_
   exact dv_alloc (cs:=#[.slice none 0 0]) rfl (by kernel_rfl) rfl rfl (fun σ β' X' hs hb hv hx=>⟨hv,hx⟩)
  ·refine svA fun ρ β W X cx=>?_
   exact dv_alloc (cs:=#[vi 0]) rfl (by kernel_rfl) rfl rfl (fun σ β' X' hs hb hv hx=>⟨hv,hx⟩)
  ·refine svA fun ρ β W X cx=>?_
   exact dv_alloc (cs:=#[vi 0]) rfl (by kernel_rfl) rfl rfl (fun σ β' X' hs hb hv hx=>⟨hv,hx⟩)
 intro σ β X W1 hD hst1 fr hfr
 obtain ⟨B3_1,hu_B3_1⟩:∃ z,pb (β 3)=z:=⟨_,rfl⟩
 obtain ⟨B4_1,hu_B4_1⟩:∃ z,pb (β 4)=z:=⟨_,rfl⟩
 obtain ⟨B5_1,hu_B5_1⟩:∃ z,pb (β 5)=z:=⟨_,rfl⟩
 obtain ⟨B6_1,hu_B6_1⟩:∃ z,pb (β 6)=z:=⟨_,rfl⟩
 simp only [exq 0 ((dTn (hD 0 lq)).2),exq 1 ((dTn (hD 1 lq)).2),exq 2 ((dTn (hD 2 lq)).2),exq 3 ((dTn (hD 3 lq)).2),hu_B3_1,hu_B4_1,hu_B5_1,hu_B6_1] at hst1
 simp only [ed 3 ((dTn (hD 0 lq)).1),ed 4 ((dTn (hD 1 lq)).1),ed 5 ((dTn (hD 2 lq)).1),ed 6 ((dTn (hD 3 lq)).1),hu_B3_1,hu_B4_1,hu_B5_1,hu_B6_1] at hfr
 clear hD hu_B3_1 hu_B4_1 hu_B5_1 hu_B6_1; subst hfr; clear σ β X
 refine then_normal (wp_seq (wp_region_Y [0,0,3,7,0,31] [[],[0],[],[4,5,6],[],[8]] [[],[],[4,5,6],[7],[8],[9]] [[],[],[],[],[],[8]] [.k 14 (.iface tt (tv)), .c 15 (vi root), .a 16, .a 17, .a 7, .n] (fun ix σ β X=>match ix with | 0=>True | 1=>True | 2=>σ 16= .func (.func 101) #[] #[vp (pcp 0 (β 16)),vp (pcp 1 (β 16)),vp (pcp 2 (β 16))]∧X 4=eB (pcp 0 (β 16)) 78 #[.iface tt (tv)]∧X 5=eB (pcp 1 (β 16)) 3 #[vi root]∧X 6=eB (pcp 2 (β 16)) 3 #[vi 1] | 3=>σ 17= .slice (sA (β 17)) (((rowF ps root 1)).length) (sC (β 17))∧X 7=eCL (sA (β 17)) (rowF ps root 1) ((X 7).fp) | 4=>σ 7=vp (pb (β 7))∧X 8=eB (pb (β 7)) 131 #[.slice none 0 0] | 5=>X 9=eB (pb (β 7)) 131 #[.slice (sA (β 17)) (((rowF ps root 1)).length) (sC (β 17))] | _=>True) [0,1,2,3,4,5,6,7,9] [1,2,3,4,5] [(7,4,1,8),(6,0,4,10)] hst1 ?_ ?_ ?_))
 ·exact fun ix _ _ _ _ _ _ hs hb hx h=>match ix,h with
  | 2,h=>by dsimp only; rw [← hs 16 rfl,← hb 16 rfl,← hx 4 rfl,← hx 5 rfl,← hx 6 rfl]; exact h
  | 3,h=>by dsimp only; rw [← hs 17 rfl,← hb 17 rfl,← hx 7 rfl]; exact h
  | 4,h=>by dsimp only; rw [← hs 7 rfl,← hb 7 rfl,← hx 8 rfl]; exact h
  | 5,h=>by dsimp only; rw [← hb 7 rfl,← hb 17 rfl,← hx 9 rfl]; exact h
  | 0, _ | 1, _ | _+6, _=>trivial
 ·refine ⟨?_,?_,?_,?_,?_,trivial⟩
  ·exact xs4 rfl id fun cx=>run_load1 rfl (by kernel_rfl) (cx.ou 3) ((cx.bi 0 rfl).cell 0)
  ·refine svA fun ρ β W X cx=>?_
   refine DoesU.call (run_callF (args:=#[.iface tt (tv),vi root,vi 1]) rfl cx.sees rfl (by kernel_rfl) (map3 (cx.an 0) (cx.an 1) (cx.co _))) ?_
   refine (krowc_any tt tv root 1 _).mono ?_
   rintro e W1 ⟨B4,B5,B6,rfl,hs4⟩
   refine ⟨_,rfl,post_st [eB B4 78 #[.iface tt (tv)],eB B5 3 #[vi root],eB B6 3 #[vi 1]] rfl rfl hs4 (fun σ β' X' hs hb hv hN=>?_)⟩
   have hv1:=(hv 16 rfl).1; have hv2:=(hv 16 rfl).2
   exact ⟨hv1.trans (by rw [hv2]; rfl),(by rw [hv2]; exact (List.cons.inj hN).1),(by rw [hv2]; exact (List.cons.inj (List.cons.inj hN).2).1),(by rw [hv2]; exact (List.cons.inj (List.cons.inj (List.cons.inj hN).2).2).1)⟩
  ·refine svA fun ρ β W X cx=>?_
   refine DoesU.call (run_callF (args:=#[.func (.func 101) #[] #[vp (pcp 0 (β 16)),vp (pcp 1 (β 16)),vp (pcp 2 (β 16))]]) rfl cx.sees rfl (by kernel_rfl) (map1 (dTn (cx.an 2)).1)) ?_
   refine (kcol_g _ _ _ (rowF ps root 1) _ _ _ (krow_seqG _ _ _ _ _ _ _ hok hoc) (fun A hA=>⟨Blk.ext (cx.blk (dTn (cx.an 2)).2.1 rfl) hA,Blk.ext (cx.blk (dTn (cx.an 2)).2.2.1 rfl) hA,Blk.ext (cx.blk (dTn (cx.an 2)).2.2.2 rfl) hA,(hS.ext cx.upd.to_ext).ext hA⟩)).mono ?_
   rintro e W1 ⟨A4,c4,fp4,rfl,hs4⟩
   refine ⟨_,rfl,post_st [eCL A4 ((rowF ps root 1)) fp4] rfl rfl hs4 (fun σ β' X' hs hb hv hN=>?_)⟩
   have hv1:=(hv 17 rfl).1; have hv2:=(hv 17 rfl).2
   exact ⟨hv1.trans (by rw [hv2]; rfl),(by rw [hv2]; exact eCL_self ((List.cons.inj hN).1))⟩
  ·refine svA fun ρ β W X cx=>?_
   exact dv_alloc (cs:=#[.slice none 0 0]) rfl (by kernel_rfl) rfl rfl (fun σ β' X' hs hb hv hx=>⟨hv,hx⟩)
  ·refine svA fun ρ β W X cx=>?_
   exact dv_store (n:=1) rfl (dTn (cx.an 4)).1 (dTn (cx.an 3)).1 (by kernel_rfl) (by kernel_rfl) (by kernel_rfl) cx (dTn (cx.an 4)).2 rfl (nle rfl) (by kernel_rfl) rfl rfl rfl (fun σ β' X' hs hb hx=>by rw [hb 7,hb 17]; exact hx)
 intro σ β X W2 hD hst2 fr hfr
 obtain ⟨B16a_2,hu_B16a_2⟩:∃ z,pcp 0 (β 16)=z:=⟨_,rfl⟩
 obtain ⟨B16b_2,hu_B16b_2⟩:∃ z,pcp 1 (β 16)=z:=⟨_,rfl⟩
 obtain ⟨B16c_2,hu_B16c_2⟩:∃ z,pcp 2 (β 16)=z:=⟨_,rfl⟩
 obtain ⟨A17_2,hu_A17_2⟩:∃ z,sA (β 17)=z:=⟨_,rfl⟩
 obtain ⟨c17_2,hu_c17_2⟩:∃ z,sC (β 17)=z:=⟨_,rfl⟩
 obtain ⟨B7_2,hu_B7_2⟩:∃ z,pb (β 7)=z:=⟨_,rfl⟩
 have xX7:X 7= _:=(dTn (hD 3 lq)).2
 obtain ⟨r7_2,hu_r7_2⟩:∃ z,(X 7).fp=z:=⟨_,rfl⟩
 rw [hu_r7_2] at xX7
 clear hu_r7_2
 simp only [exq 4 ((dTn (hD 2 lq)).2.1),exq 5 ((dTn (hD 2 lq)).2.2.1),exq 6 ((dTn (hD 2 lq)).2.2.2),xX7,exq 9 ((dTn (hD 5 lq))),hu_B16a_2,hu_B16b_2,hu_B16c_2,hu_A17_2,hu_c17_2,hu_B7_2] at hst2
 simp only [ed 16 ((dTn (hD 2 lq)).1),ed 17 ((dTn (hD 3 lq)).1),ed 7 ((dTn (hD 4 lq)).1),hu_B16a_2,hu_B16b_2,hu_B16c_2,hu_A17_2,hu_c17_2,hu_B7_2] at hfr
 clear hD xX7 hu_B16a_2 hu_B16b_2 hu_B16c_2 hu_A17_2 hu_c17_2 hu_B7_2; subst hfr; clear σ β X
 refine then_normal (wp_seq ?_)
 obtain ⟨ln,hN_ln⟩:∃ z,((rowF ps root 1)).length=z:=⟨_,rfl⟩
 rw [hN_ln] at hst2 ⊢
 obtain ⟨xs,hxs,hsx_⟩:=St.openCL (hst2.pick [7,0,1,2,3,4,5,6,8] (by decide) rfl)
 have hsx2_:St w [] [eCX A17_2 xs r7_2,eB B3_1 3 #[vi root],eB B4_1 28 #[.slice none 0 0],eB B5_1 3 #[vi 0],eB B6_1 3 #[vi 0],eB B16a_2 78 #[.iface tt (tv)],eB B16b_2 3 #[vi root],eB B16c_2 3 #[vi 1],eB B7_2 131 #[.slice A17_2 (ln) c17_2]] _:=hsx_
 obtain rfl:ln=xs.length:=by rw [← hN_ln,← hxs,List.length_map]
 have hxl_:xs.length≤1000:=by rw [← hN_ln]; exact row_len _ _ _
 have hXN:∀ y∈xs,NdOk y.1:=fun y hy=>nd_ok hok (row_nd (pgN y) (by rw [← hxs]; exact List.mem_map.2 ⟨y,hy,rfl⟩)).1
 clear hsx_ hst2
 refine wp_region_Y [0,0,3] [[],[],[9]] [[],[9],[10]] [[],[],[9]] [.k 18 (.agg #[vi (-1),vi 0,vi 0, .string ByteArray.empty, .bool false, .slice none 0 0,vi 0]), .a 8, .n] (fun ix σ β X=>match ix with | 0=>True | 1=>σ 8=vp (pb (β 8))∧X 9=eB (pb (β 8)) 84 #[vi 0,vi 0,vi 0, .string ByteArray.empty, .bool false, .slice none 0 0,vi 0] | 2=>X 10=eB (pb (β 8)) 84 #[vi (-1),vi 0,vi 0, .string ByteArray.empty, .bool false, .slice none 0 0,vi 0] | _=>True) [0,1,2,3,4,5,6,7,8,10] [1,2] [(8,1,1,9),(9,0,1,10)] hsx2_ ?_ ?_ ?_
 ·exact fun ix _ _ _ _ _ _ hs hb hx h=>match ix,h with
  | 1,h=>by dsimp only; rw [← hs 8 rfl,← hb 8 rfl,← hx 9 rfl]; exact h
  | 2,h=>by dsimp only; rw [← hb 8 rfl,← hx 10 rfl]; exact h
  | 0, _ | _+3, _=>trivial
 ·refine ⟨?_,?_,trivial⟩
  ·refine svA fun ρ β W X cx=>?_
   exact dv_alloc (cs:=#[vi 0,vi 0,vi 0, .string ByteArray.empty, .bool false, .slice none 0 0,vi 0]) rfl (by kernel_rfl) rfl rfl (fun σ β' X' hs hb hv hx=>⟨hv,hx⟩)
  ·refine svA fun ρ β W X cx=>?_
   exact dv_store (n:=7) rfl (dTn (cx.an 1)).1 (cx.an 0) (by kernel_rfl) (by kernel_rfl) (by kernel_rfl) cx (dTn (cx.an 1)).2 rfl (nle rfl) (by kernel_rfl) rfl rfl rfl (fun σ β' X' hs hb hx=>by rw [hb 8]; exact hx)
 intro σ β X W3 hD hst3 fr hfr
 obtain ⟨B8_3,hu_B8_3⟩:∃ z,pb (β 8)=z:=⟨_,rfl⟩
 simp only [exq 10 ((dTn (hD 2 lq))),hu_B8_3] at hst3
 simp only [ed 8 ((dTn (hD 1 lq)).1),hu_B8_3] at hfr
 clear hD hu_B8_3; subst hfr; clear σ β X
 refine then_normal (wp_seq (wp_seq (wp_region_Y [0,0,3] [[],[1]] [[],[],[10,11,12]] [] [.k 19 (.iface tt (tv)), .c 20 (vi root), .a 21] (fun ix σ β X=>match ix with | 0=>True | 1=>True | 2=>σ 21= .func (.func 101) #[] #[vp (pcp 0 (β 21)),vp (pcp 1 (β 21)),vp (pcp 2 (β 21))]∧X 10=eB (pcp 0 (β 21)) 78 #[.iface tt (tv)]∧X 11=eB (pcp 1 (β 21)) 3 #[vi root]∧X 12=eB (pcp 2 (β 21)) 3 #[vi 0] | _=>True) [0,1,2,3,4,5,6,7,8,9,10,11,12] [1,2] [(19,0,3,22)] hst3 ?_ ?_ ?_)))
 ·exact fun ix _ _ _ _ _ _ hs hb hx h=>match ix,h with
  | 2,h=>by dsimp only; rw [← hs 21 rfl,← hb 21 rfl,← hx 10 rfl,← hx 11 rfl,← hx 12 rfl]; exact h
  | 0, _ | 1, _ | _+3, _=>trivial
 ·refine ⟨?_,?_,trivial⟩
  ·exact xs4 rfl id fun cx=>run_load1 rfl (by kernel_rfl) (cx.ou 3) ((cx.bi 1 rfl).cell 0)
  ·refine svA fun ρ β W X cx=>?_
   refine DoesU.call (run_callF (args:=#[.iface tt (tv),vi root,vi 0]) rfl cx.sees rfl (by kernel_rfl) (map3 (cx.an 0) (cx.an 1) (cx.co _))) ?_
   refine (krowc_any tt tv root 0 _).mono ?_
   rintro e W1 ⟨B4,B5,B6,rfl,hs4⟩
   refine ⟨_,rfl,post_st [eB B4 78 #[.iface tt (tv)],eB B5 3 #[vi root],eB B6 3 #[vi 0]] rfl rfl hs4 (fun σ β' X' hs hb hv hN=>?_)⟩
   have hv1:=(hv 21 rfl).1; have hv2:=(hv 21 rfl).2
   exact ⟨hv1.trans (by rw [hv2]; rfl),(by rw [hv2]; exact (List.cons.inj hN).1),(by rw [hv2]; exact (List.cons.inj (List.cons.inj hN).2).1),(by rw [hv2]; exact (List.cons.inj (List.cons.inj (List.cons.inj hN).2).2).1)⟩
 intro σ β X W4 hD hst4 fr hfr
 obtain ⟨B21a_4,hu_B21a_4⟩:∃ z,pcp 0 (β 21)=z:=⟨_,rfl⟩
 obtain ⟨B21b_4,hu_B21b_4⟩:∃ z,pcp 1 (β 21)=z:=⟨_,rfl⟩
 obtain ⟨B21c_4,hu_B21c_4⟩:∃ z,pcp 2 (β 21)=z:=⟨_,rfl⟩
 simp only [exq 10 ((dTn (hD 2 lq)).2.1),exq 11 ((dTn (hD 2 lq)).2.2.1),exq 12 ((dTn (hD 2 lq)).2.2.2),hu_B21a_4,hu_B21b_4,hu_B21c_4] at hst4
 simp only [ed 21 ((dTn (hD 2 lq)).1),hu_B21a_4,hu_B21b_4,hu_B21c_4] at hfr
 clear hD hu_B21a_4 hu_B21b_4 hu_B21c_4; subst hfr; clear σ β X
 refine then_normal (wp_block ?_)
 have hp6:=hst4.pick [1,2,3,4,8,9,0] (by decide) rfl
 refine wp_rangeSG (α:=YnD) hp6 rfl (enters_of Tryz.func101 (by kernel_rfl) rfl) (encs:=ynE) (Ex:=ynR) (N:=1000) (Z:=YnZ (rowF ps root 0)) (krow_seqG _ _ _ _ _ _ _ hok hoc) (fun A hA=>RdR.keep (hst4.pick [10,11,12,1,2,3,4,8,9,0] (by decide) rfl) hS hA) (fun _=>rfl) (fun bb pre L=>cond bb (∃ apg:Int,∃ an:NoD,∃ AA:Option Addr,∃ ac:Nat,(∀ y∈pre.map pgN,unOk (xs.map pgN) root y=none)∧ahd none (pre.map pgN)=(if apg < 0 then none else some (apg,an))∧ -1≤apg∧NdOk an∧L=[eB B3_1 3 #[vi root],eB B4_1 28 #[.slice none 0 0],eB B5_1 3 #[vi 0],eB B6_1 3 #[vi 0],eB B7_2 131 #[.slice A17_2 (xs.length) c17_2],eB B8_3 84 #[vi apg,vi an.lv,vi an.right, .string an.high, .bool an.dead, .slice AA an.es.length ac,vi ((an.free:Int))],eCX A17_2 xs r7_2]) (∃ O:List EdT,∃ lf:Int,∃ rt:Int,∃ on:Nat,∃ OA:Option Addr,∃ oc:Nat,on=O.length∧(∀ r,unlG (xs.map pgN) root none (pre.map pgN++r)=(O,lf,rt))∧L=[eB B4_1 28 #[.slice OA on oc],eB B5_1 3 #[vi lf],eB B6_1 3 #[vi rt],eO 67 3 (.slice OA on oc) on (O.flatMap edC)])) ⟨(-1),nodZ,none,0,(fun y hy=>absurd hy (by simp)),rfl,Int.le_refl _,ndok_z,rfl⟩ (fun xx a_ E_=>∃ BV:Nat,a_=⟨([.iface tt (tv),vi root,undef,vp B3_1,vp B4_1,vp B5_1,vp B6_1,vp B7_2,vp B8_3,vp BV,undef,undef,undef,undef, .iface tt (tv),vi root, .func (.func 101) #[] #[vp B16a_2,vp B16b_2,vp B16c_2], .slice A17_2 (xs.length) c17_2, .agg #[vi (-1),vi 0,vi 0, .string ByteArray.empty, .bool false, .slice none 0 0,vi 0], .iface tt (tv),vi root, .func (.func 101) #[] #[vp B21a_4,vp B21b_4,vp B21c_4], .agg #[vi xx.2.1,vi xx.1.lv,vi xx.1.right, .string xx.1.high, .bool xx.1.dead, .slice xx.2.2.1 xx.1.es.length xx.2.2.2,vi ((xx.1.free:Int))],undef,undef,undef,undef,undef,undef,undef,undef,undef,undef,undef,undef,undef,undef,undef,undef,undef,undef,undef,undef,undef,undef,undef,undef,undef,undef,undef,undef,undef,undef,undef,undef,undef,undef,undef,undef,undef,undef,undef,undef,undef,undef,undef,undef,undef,undef,undef,undef,undef,undef,undef,undef,undef,undef,undef,undef,undef,undef,undef,undef,undef,undef,undef,undef,undef,undef,undef,undef,undef,undef,undef,undef,undef,undef,undef,undef,undef,undef,undef,undef]).toArray,[]⟩∧E_=eB BV 84 #[vi xx.2.1,vi xx.1.lv,vi xx.1.right, .string xx.1.high, .bool xx.1.dead, .slice xx.2.2.1 xx.1.es.length xx.2.2.2,vi ((xx.1.free:Int))]) (fun xx=>[.iface tt (tv),vi root,undef,vp B3_1,vp B4_1,vp B5_1,vp B6_1,vp B7_2,vp B8_3,undef,undef,undef,undef,undef, .iface tt (tv),vi root, .func (.func 101) #[] #[vp B16a_2,vp B16b_2,vp B16c_2], .slice A17_2 (xs.length) c17_2, .agg #[vi (-1),vi 0,vi 0, .string ByteArray.empty, .bool false, .slice none 0 0,vi 0], .iface tt (tv),vi root, .func (.func 101) #[] #[vp B21a_4,vp B21b_4,vp B21c_4], .agg #[vi xx.2.1,vi xx.1.lv,vi xx.1.right, .string xx.1.high, .bool xx.1.dead, .slice xx.2.2.1 xx.1.es.length xx.2.2.2,vi ((xx.1.free:Int))],undef,undef,undef,undef,undef,undef,undef,undef,undef,undef,undef,undef,undef,undef,undef,undef,undef,undef,undef,undef,undef,undef,undef,undef,undef,undef,undef,undef,undef,undef,undef,undef,undef,undef,undef,undef,undef,undef,undef,undef,undef,undef,undef,undef,undef,undef,undef,undef,undef,undef,undef,undef,undef,undef,undef,undef,undef,undef,undef,undef,undef,undef,undef,undef,undef,undef,undef,undef,undef,undef,undef,undef,undef,undef,undef,undef,undef,undef,undef,undef]) (fun xx=>by kernel_rfl) ?_ ?_ ?_ ?_
 ·intro rl xx W5 K hK
  have hst5:=St.start W5
  refine wpIn_region_Y [0,1] [[],[0]] [[0],[1]] [[],[0]] [.a 9, .n] (fun ix σ β X=>match ix with | 0=>σ 9=vp (pb (β 9))∧X 0=eB (pb (β 9)) 84 #[vi 0,vi 0,vi 0, .string ByteArray.empty, .bool false, .slice none 0 0,vi 0] | 1=>X 1=eB (pb (β 9)) 84 #[vi xx.2.1,vi xx.1.lv,vi xx.1.right, .string xx.1.high, .bool xx.1.dead, .slice xx.2.2.1 xx.1.es.length xx.2.2.2,vi ((xx.1.free:Int))] | _=>True) [1] [0,1] [(9,0,1,10)] hst5 ?_ ?_ ?_
  ·exact fun ix _ _ _ _ _ _ hs hb hx h=>match ix,h with
   | 0,h=>by dsimp only; rw [← hs 9 rfl,← hb 9 rfl,← hx 0 rfl]; exact h
   | 1,h=>by dsimp only; rw [← hb 9 rfl,← hx 1 rfl]; exact h
   | _+2, _=>trivial
  ·refine ⟨?_,?_,trivial⟩
   ·refine svA fun ρ β W X cx=>?_
    exact dv_alloc (cs:=#[vi 0,vi 0,vi 0, .string ByteArray.empty, .bool false, .slice none 0 0,vi 0]) rfl (by kernel_rfl) rfl rfl (fun σ β' X' hs hb hv hx=>⟨hv,hx⟩)
   ·refine svA fun ρ β W X cx=>?_
    exact dv_store (n:=7) rfl (dTn (cx.an 0)).1 (cx.ou 22) (by kernel_rfl) (by kernel_rfl) (by kernel_rfl) cx (dTn (cx.an 0)).2 rfl (nle rfl) (by kernel_rfl) rfl rfl rfl (fun σ β' X' hs hb hx=>by rw [hb 9]; exact hx)
  intro σ β X W7 hD hst7 fr hfr
  obtain ⟨B9_7,hu_B9_7⟩:∃ z,pb (β 9)=z:=⟨_,rfl⟩
  simp only [exq 1 ((dTn (hD 1 lq))),hu_B9_7] at hst7
  simp only [ed 9 ((dTn (hD 0 lq)).1),hu_B9_7] at hfr
  clear hD hu_B9_7; subst hfr; clear σ β X
  exact hK _ _ _ ⟨_,rfl,rfl⟩ (hst7.pick [0] (by decide) rfl)
 ·rintro rl pre xx W8 L8 a8 E8 ⟨apg,an,AA,ac,hall,hah,hap,han,rfl⟩ hlen8 hPx8 ⟨BV,rfl,rfl⟩ hst8r
  have hst8:St W8 (fps ([eB B3_1 3 #[vi root],eB B4_1 28 #[.slice none 0 0],eB B5_1 3 #[vi 0],eB B6_1 3 #[vi 0],eB B7_2 131 #[.slice A17_2 (xs.length) c17_2],eB B8_3 84 #[vi apg,vi an.lv,vi an.right, .string an.high, .bool an.dead, .slice AA an.es.length ac,vi ((an.free:Int))],eCX A17_2 xs r7_2]++[eO 89 3 (.slice xx.2.2.1 xx.1.es.length xx.2.2.2) xx.1.es.length (xx.1.es.flatMap enC),eB BV 84 #[vi xx.2.1,vi xx.1.lv,vi xx.1.right, .string xx.1.high, .bool xx.1.dead, .slice xx.2.2.1 xx.1.es.length xx.2.2.2,vi ((xx.1.free:Int))]])) [eB B3_1 3 #[vi root],eB B4_1 28 #[.slice none 0 0],eB B5_1 3 #[vi 0],eB B6_1 3 #[vi 0],eB B7_2 131 #[.slice A17_2 (xs.length) c17_2],eB B8_3 84 #[vi apg,vi an.lv,vi an.right, .string an.high, .bool an.dead, .slice AA an.es.length ac,vi ((an.free:Int))],eCX A17_2 xs r7_2,eO 89 3 (.slice xx.2.2.1 xx.1.es.length xx.2.2.2) xx.1.es.length (xx.1.es.flatMap enC),eB BV 84 #[vi xx.2.1,vi xx.1.lv,vi xx.1.right, .string xx.1.high, .bool xx.1.dead, .slice xx.2.2.1 xx.1.es.length xx.2.2.2,vi ((xx.1.free:Int))]] W8:=hst8r
  clear hst8r
  have hN0:=nd_ok hok hPx8
  have hN1:=hN0.len
  have hN2:=hN0.rt
  have hN3:=hN0.hi
  have hN4:=hN0.lv
  have hN5:=(nd_at hPx8).1
  have hA1:=han.len
  have hA2:=han.rt
  have hA3:=han.hi
  have hA4:=han.lv
  refine wpIn_block (wpIn_seq ?_)
  rcases hld:ledF (xs.map pgN) xx.2.1 xx.1.right with _ | ⟨i,j⟩
  ·refine wpIn_region_Y [0,0,3,7,15,15,15,0,159,447,1023] [[4],[8],[6],[],[],[],[],[],[9]] [[],[],[],[],[],[],[],[9],[10]] [[],[],[],[],[],[],[],[],[9]] [.c 24 (.slice A17_2 (xs.length) c17_2), .c 25 (.agg #[vi xx.2.1,vi xx.1.lv,vi xx.1.right, .string xx.1.high, .bool xx.1.dead, .slice xx.2.2.1 xx.1.es.length xx.2.2.2,vi ((xx.1.free:Int))]), .c 26 (.tuple #[.agg #[vi 0,vi 0,vi 0, .string ((⟨#[]⟩:ByteArray)), .bool false, .slice none 0 0,vi 0],vi 0, .bool false]), .k 23 (.tuple #[.agg #[vi 0,vi 0,vi 0, .string ((⟨#[]⟩:ByteArray)), .bool false, .slice none 0 0,vi 0],vi 0, .bool false]), .k 27 (.agg #[vi 0,vi 0,vi 0, .string ((⟨#[]⟩:ByteArray)), .bool false, .slice none 0 0,vi 0]), .k 28 (vi 0), .k 29 (.bool false), .a 10, .n, .k 11 (vi 0), .k 12 (.bool false)] (fun ix σ β X=>match ix with | 0=>True | 1=>True | 2=>True | 3=>True | 4=>True | 5=>True | 6=>True | 7=>σ 10=vp (pb (β 10))∧X 9=eB (pb (β 10)) 84 #[vi 0,vi 0,vi 0, .string ByteArray.empty, .bool false, .slice none 0 0,vi 0] | 8=>X 10=eB (pb (β 10)) 84 #[vi 0,vi 0,vi 0, .string ((⟨#[]⟩:ByteArray)), .bool false, .slice none 0 0,vi 0] | _=>True) [0,1,2,3,4,5,6,7,8,10] [0,1,2,7,8] [(10,7,4,13),(10,3,1,11),(0,0,3,3),(0,4,3,3)] hst8 ?_ ?_ ?_
   ·exact fun ix _ _ _ _ _ _ hs hb hx h=>match ix,h with
    | 7,h=>by dsimp only; rw [← hs 10 rfl,← hb 10 rfl,← hx 9 rfl]; exact h
    | 8,h=>by dsimp only; rw [← hb 10 rfl,← hx 10 rfl]; exact h
    | 0, _ | 1, _ | 2, _ | 3, _ | 4, _ | 5, _ | 6, _ | _+9, _=>trivial
   ·refine ⟨?_,?_,?_,?_,?_,trivial⟩
    ·exact xs4 rfl id fun cx=>run_load1 rfl (by kernel_rfl) (cx.ou 7) ((cx.bi 4 rfl).cell 0)
    ·exact xs4 rfl id fun cx=>run_loadB (n:=7) rfl (by kernel_rfl) (by kernel_rfl) (cx.ou 9) (cx.bi 8 rfl) (nle rfl) rfl
    ·exact xsc rfl id rfl rfl fun cx=>⟨_,ret_to (led_v0 hld) (led_cx (CtxV.holdF cx (cx.init 6 _ rfl) rfl) hXN hxl_),(map2 (cx.an 0) (cx.an 1))⟩
    ·refine svA fun ρ β W X cx=>?_
     exact dv_alloc (cs:=#[vi 0,vi 0,vi 0, .string ByteArray.empty, .bool false, .slice none 0 0,vi 0]) rfl (by kernel_rfl) rfl rfl (fun σ β' X' hs hb hv hx=>⟨hv,hx⟩)
    ·refine svA fun ρ β W X cx=>?_
     exact dv_store (n:=7) rfl (dTn (cx.an 7)).1 (cx.an 4) (by kernel_rfl) (by kernel_rfl) (by kernel_rfl) cx (dTn (cx.an 7)).2 rfl (nle rfl) (by kernel_rfl) rfl rfl rfl (fun σ β' X' hs hb hx=>by rw [hb 10]; exact hx)
   intro σ β X W9 hD hst9 fr hfr
   obtain ⟨B10_9,hu_B10_9⟩:∃ z,pb (β 10)=z:=⟨_,rfl⟩
   simp only [exq 10 ((dTn (hD 8 lq))),hu_B10_9] at hst9
   simp only [ed 10 ((dTn (hD 7 lq)).1),hu_B10_9] at hfr
   clear hD hu_B10_9; subst hfr; clear σ β X
   refine then_normal (wpIn_seq (wpIn_seq ?_))
   have hd11:((((decide (0 < (xx.1.es.length:Int)))||(xx.2.1==root))||xx.1.dead)||true)=true:=Bool.or_true _
   refine wpIn_region_Z [0,1,3,7,15,31,63,31,255,511,1023,2047,4095,8191,16383,32767,65535,131071] [[],[8],[],[],[],[],[8],[0],[],[],[],[],[8]] [.k 30 (.pointer (some ⟨BV,5,none⟩)), .c 31 (.slice xx.2.2.1 xx.1.es.length xx.2.2.2), .k 32 (vi ((xx.1.es.length:Int))), .k 33 (.bool (decide (0 < (xx.1.es.length:Int)))), .k 34 (.bool (decide (0 < (xx.1.es.length:Int)))), .z 35 (!(decide (0 < (xx.1.es.length:Int)))) (vp BV), .y 36 (!(decide (0 < (xx.1.es.length:Int)))) (vi xx.2.1), .y 37 (!(decide (0 < (xx.1.es.length:Int)))) (vi root), .z 38 (!(decide (0 < (xx.1.es.length:Int)))) (.bool (xx.2.1==root)),tO 39 (decide (0 < (xx.1.es.length:Int))) (xx.2.1==root), .k 40 (.bool ((decide (0 < (xx.1.es.length:Int)))||(xx.2.1==root))), .z 41 (!((decide (0 < (xx.1.es.length:Int)))||(xx.2.1==root))) (.pointer (some ⟨BV,4,none⟩)), .y 42 (!((decide (0 < (xx.1.es.length:Int)))||(xx.2.1==root))) (.bool xx.1.dead),tO 43 ((decide (0 < (xx.1.es.length:Int)))||(xx.2.1==root)) xx.1.dead, .k 44 (.bool (((decide (0 < (xx.1.es.length:Int)))||(xx.2.1==root))||xx.1.dead)), .z 45 (!(((decide (0 < (xx.1.es.length:Int)))||(xx.2.1==root))||xx.1.dead)) (.bool false), .z 46 (!(((decide (0 < (xx.1.es.length:Int)))||(xx.2.1==root))||xx.1.dead)) (.bool true),tOk' 47 (((decide (0 < (xx.1.es.length:Int)))||(xx.2.1==root))||xx.1.dead) true true hd11] [0,1,2,3,4,5,6,7,8,9] [1,6,7,12] [(30,0,18,48)] hst9 ?_ fun W10 hst10=>?_
   ·refine ⟨?_,?_,?_,?_,trivial⟩
    ·exact xs4 rfl id fun cx=>run_load1 rfl (by kernel_rfl) (cx.an 0) ((cx.bi 8 rfl).cell 5)
    ·exact m2 rfl (fun _ _ _ h=>h) (fun cx=>(cx.an 4)) fun cx hq=>run_load1 rfl (by kernel_rfl) (mbv (cx.an 5) hq) ((cx.bi 8 rfl).cell 0)
    ·exact m2 rfl (fun _ _ _ h=>h) (fun cx=>(cx.an 4)) fun cx hq=>run_load1 rfl (by kernel_rfl) (cx.ou 3) ((cx.bi 0 rfl).cell 0)
    ·exact m2 rfl (fun _ _ _ h=>h) (fun cx=>(cx.an 10)) fun cx hq=>run_load1 rfl (by kernel_rfl) (mbv (cx.an 11) hq) ((cx.bi 8 rfl).cell 4)
   refine then_normal (wpIn_cond_true (show Act.eval _ _= .bool true from rfl) (wpIn_seq (wpIn_region_Y [0,1] [[8],[5]] [[],[10]] [[],[5]] [.c 48 (.agg #[vi xx.2.1,vi xx.1.lv,vi xx.1.right, .string xx.1.high, .bool xx.1.dead, .slice xx.2.2.1 xx.1.es.length xx.2.2.2,vi ((xx.1.free:Int))]), .n] (fun ix σ β X=>match ix with | 0=>True | 1=>X 10=eB B8_3 84 #[vi xx.2.1,vi xx.1.lv,vi xx.1.right, .string xx.1.high, .bool xx.1.dead, .slice xx.2.2.1 xx.1.es.length xx.2.2.2,vi ((xx.1.free:Int))] | _=>True) [0,1,2,3,4,6,7,8,9,10] [0,1] [(48,0,1,49)] hst10 ?_ ?_ ?_)))
   ·exact fun ix _ _ _ _ _ _ hs hb hx h=>match ix,h with
    | 1,h=>by dsimp only; rw [← hx 10 rfl]; exact h
    | 0, _ | _+2, _=>trivial
   ·refine ⟨?_,?_,trivial⟩
    ·exact xs4 rfl id fun cx=>run_loadB (n:=7) rfl (by kernel_rfl) (by kernel_rfl) (cx.ou 9) (cx.bi 8 rfl) (nle rfl) rfl
    ·refine svA fun ρ β W X cx=>?_
     exact dv_store (n:=7) rfl (cx.ou 8) (cx.an 0) (by kernel_rfl) (by kernel_rfl) (by kernel_rfl) cx (cx.init 5 _ rfl) rfl (nle rfl) (by kernel_rfl) rfl rfl rfl (fun σ β' X' hs hb hx=>hx)
   intro σ β X W12 hD hst12 fr hfr
   simp only [exq 10 ((dTn (hD 1 lq)))] at hst12
   clear hD; subst hfr; clear σ β X
   refine then_normal (wpIn_exit (then_exit (blk_eq ?_)))
   exact ⟨true, .inl ⟨rfl,rfl⟩, _,⟨xx.2.1,xx.1,xx.2.2.1,xx.2.2.2,un_next hall (unOk_no hld),by rw [ahd_snoc,if_neg (by omega)]; rfl,by omega,hN0,rfl⟩,hst12.pick [0,1,2,3,4,9,5,6] (by decide) rfl⟩
  ·obtain ⟨hi_,hd_,hj_,hlc_⟩:=led_some hld
   rw [List.length_map] at hi_
   rw [getD_pgN] at hd_ hj_ hlc_
   obtain ⟨m_,hm_⟩:∃ z,xs.getD i yn0=z:=⟨_,rfl⟩
   rw [hm_] at hd_ hj_ hlc_
   have hj_:j+1 < m_.1.es.length:=hj_
   have hmm_:m_∈xs:=by rw [← hm_]; exact (getD_mem_ hi_)
   have hM0:=hXN m_ hmm_
   have hM1:=hM0.len
   have hM4:=hM0.lv
   have hmz:∀ e∈m_.1.es,e.1.size≤1000000:=fun e he=>Nat.le_trans (hM0.es e he) (by decide)
   refine wpIn_region_Y [0,0,3,7,15,15,15,0,159,447,1023] [[4],[8],[6],[],[],[],[],[],[9]] [[],[],[],[],[],[],[],[9],[10]] [[],[],[],[],[],[],[],[],[9]] [.c 24 (.slice A17_2 (xs.length) c17_2), .c 25 (.agg #[vi xx.2.1,vi xx.1.lv,vi xx.1.right, .string xx.1.high, .bool xx.1.dead, .slice xx.2.2.1 xx.1.es.length xx.2.2.2,vi ((xx.1.free:Int))]), .c 26 (.tuple #[.agg #[vi m_.2.1,vi m_.1.lv,vi m_.1.right, .string m_.1.high, .bool m_.1.dead, .slice m_.2.2.1 m_.1.es.length m_.2.2.2,vi ((m_.1.free:Int))],vi ((j:Int)), .bool true]), .k 23 (.tuple #[.agg #[vi m_.2.1,vi m_.1.lv,vi m_.1.right, .string m_.1.high, .bool m_.1.dead, .slice m_.2.2.1 m_.1.es.length m_.2.2.2,vi ((m_.1.free:Int))],vi ((j:Int)), .bool true]), .k 27 (.agg #[vi m_.2.1,vi m_.1.lv,vi m_.1.right, .string m_.1.high, .bool m_.1.dead, .slice m_.2.2.1 m_.1.es.length m_.2.2.2,vi ((m_.1.free:Int))]), .k 28 (vi ((j:Int))), .k 29 (.bool true), .a 10, .n, .k 11 (vi ((j:Int))), .k 12 (.bool true)] (fun ix σ β X=>match ix with | 0=>True | 1=>True | 2=>True | 3=>True | 4=>True | 5=>True | 6=>True | 7=>σ 10=vp (pb (β 10))∧X 9=eB (pb (β 10)) 84 #[vi 0,vi 0,vi 0, .string ByteArray.empty, .bool false, .slice none 0 0,vi 0] | 8=>X 10=eB (pb (β 10)) 84 #[vi m_.2.1,vi m_.1.lv,vi m_.1.right, .string m_.1.high, .bool m_.1.dead, .slice m_.2.2.1 m_.1.es.length m_.2.2.2,vi ((m_.1.free:Int))] | _=>True) [0,1,2,3,4,5,6,7,8,10] [0,1,2,7,8] [(10,7,4,13),(10,3,1,11),(0,0,3,3),(0,4,3,3)] hst8 ?_ ?_ ?_
   ·exact fun ix _ _ _ _ _ _ hs hb hx h=>match ix,h with
    | 7,h=>by dsimp only; rw [← hs 10 rfl,← hb 10 rfl,← hx 9 rfl]; exact h
    | 8,h=>by dsimp only; rw [← hb 10 rfl,← hx 10 rfl]; exact h
    | 0, _ | 1, _ | 2, _ | 3, _ | 4, _ | 5, _ | 6, _ | _+9, _=>trivial
   ·refine ⟨?_,?_,?_,?_,?_,trivial⟩
    ·exact xs4 rfl id fun cx=>run_load1 rfl (by kernel_rfl) (cx.ou 7) ((cx.bi 4 rfl).cell 0)
    ·exact xs4 rfl id fun cx=>run_loadB (n:=7) rfl (by kernel_rfl) (by kernel_rfl) (cx.ou 9) (cx.bi 8 rfl) (nle rfl) rfl
    ·exact xsc rfl id rfl rfl fun cx=>⟨_,ret_to ((led_v hld).trans (by rw [hm_]; rfl)) (led_cx (CtxV.holdF cx (cx.init 6 _ rfl) rfl) hXN hxl_),(map2 (cx.an 0) (cx.an 1))⟩
    ·refine svA fun ρ β W X cx=>?_
     exact dv_alloc (cs:=#[vi 0,vi 0,vi 0, .string ByteArray.empty, .bool false, .slice none 0 0,vi 0]) rfl (by kernel_rfl) rfl rfl (fun σ β' X' hs hb hv hx=>⟨hv,hx⟩)
    ·refine svA fun ρ β W X cx=>?_
     exact dv_store (n:=7) rfl (dTn (cx.an 7)).1 (cx.an 4) (by kernel_rfl) (by kernel_rfl) (by kernel_rfl) cx (dTn (cx.an 7)).2 rfl (nle rfl) (by kernel_rfl) rfl rfl rfl (fun σ β' X' hs hb hx=>by rw [hb 10]; exact hx)
   intro σ β X W13 hD hst13 fr hfr
   obtain ⟨B10_13,hu_B10_13⟩:∃ z,pb (β 10)=z:=⟨_,rfl⟩
   simp only [exq 10 ((dTn (hD 8 lq))),hu_B10_13] at hst13
   simp only [ed 10 ((dTn (hD 7 lq)).1),hu_B10_13] at hfr
   clear hD hu_B10_13; subst hfr; clear σ β X
   refine then_normal (wpIn_seq (wpIn_seq (wpIn_region_Z [0,1,3,7,15,31,63,31,255,511,1023,2047,4095,8191,16383,32767,65535,131071] [[],[8],[],[],[],[],[8],[0],[],[],[],[],[8]] [.k 30 (.pointer (some ⟨BV,5,none⟩)), .c 31 (.slice xx.2.2.1 xx.1.es.length xx.2.2.2), .k 32 (vi ((xx.1.es.length:Int))), .k 33 (.bool (decide (0 < (xx.1.es.length:Int)))), .k 34 (.bool (decide (0 < (xx.1.es.length:Int)))), .z 35 (!(decide (0 < (xx.1.es.length:Int)))) (vp BV), .y 36 (!(decide (0 < (xx.1.es.length:Int)))) (vi xx.2.1), .y 37 (!(decide (0 < (xx.1.es.length:Int)))) (vi root), .z 38 (!(decide (0 < (xx.1.es.length:Int)))) (.bool (xx.2.1==root)),tO 39 (decide (0 < (xx.1.es.length:Int))) (xx.2.1==root), .k 40 (.bool ((decide (0 < (xx.1.es.length:Int)))||(xx.2.1==root))), .z 41 (!((decide (0 < (xx.1.es.length:Int)))||(xx.2.1==root))) (.pointer (some ⟨BV,4,none⟩)), .y 42 (!((decide (0 < (xx.1.es.length:Int)))||(xx.2.1==root))) (.bool xx.1.dead),tO 43 ((decide (0 < (xx.1.es.length:Int)))||(xx.2.1==root)) xx.1.dead, .k 44 (.bool (((decide (0 < (xx.1.es.length:Int)))||(xx.2.1==root))||xx.1.dead)), .z 45 (!(((decide (0 < (xx.1.es.length:Int)))||(xx.2.1==root))||xx.1.dead)) (.bool true), .z 46 (!(((decide (0 < (xx.1.es.length:Int)))||(xx.2.1==root))||xx.1.dead)) (.bool false),tO 47 (((decide (0 < (xx.1.es.length:Int)))||(xx.2.1==root))||xx.1.dead) false] [0,1,2,3,4,5,6,7,8,9] [1,6,7,12] [(30,0,18,48)] hst13 ?_ fun W14 hst14=>?_)))
   ·refine ⟨?_,?_,?_,?_,trivial⟩
    ·exact xs4 rfl id fun cx=>run_load1 rfl (by kernel_rfl) (cx.an 0) ((cx.bi 8 rfl).cell 5)
    ·exact m2 rfl (fun _ _ _ h=>h) (fun cx=>(cx.an 4)) fun cx hq=>run_load1 rfl (by kernel_rfl) (mbv (cx.an 5) hq) ((cx.bi 8 rfl).cell 0)
    ·exact m2 rfl (fun _ _ _ h=>h) (fun cx=>(cx.an 4)) fun cx hq=>run_load1 rfl (by kernel_rfl) (cx.ou 3) ((cx.bi 0 rfl).cell 0)
    ·exact m2 rfl (fun _ _ _ h=>h) (fun cx=>(cx.an 10)) fun cx hq=>run_load1 rfl (by kernel_rfl) (mbv (cx.an 11) hq) ((cx.bi 8 rfl).cell 4)
   refine then_normal ?_
   rcases Bool.eq_false_or_eq_true ((((decide (0 < (xx.1.es.length:Int)))||(xx.2.1==root))||xx.1.dead)||false) with hs15 | hs15
   ·have hs15p:=hs15
    simp only [zB] at hs15p
    refine wpIn_cond_true (show Act.eval _ _= .bool true from (congrArg Value.bool hs15)) (wpIn_seq (wpIn_region_Y [0,1] [[8],[5]] [[],[10]] [[],[5]] [.c 48 (.agg #[vi xx.2.1,vi xx.1.lv,vi xx.1.right, .string xx.1.high, .bool xx.1.dead, .slice xx.2.2.1 xx.1.es.length xx.2.2.2,vi ((xx.1.free:Int))]), .n] (fun ix σ β X=>match ix with | 0=>True | 1=>X 10=eB B8_3 84 #[vi xx.2.1,vi xx.1.lv,vi xx.1.right, .string xx.1.high, .bool xx.1.dead, .slice xx.2.2.1 xx.1.es.length xx.2.2.2,vi ((xx.1.free:Int))] | _=>True) [0,1,2,3,4,6,7,8,9,10] [0,1] [(48,0,1,49)] hst14 ?_ ?_ ?_))
    ·exact fun ix _ _ _ _ _ _ hs hb hx h=>match ix,h with
     | 1,h=>by dsimp only; rw [← hx 10 rfl]; exact h
     | 0, _ | _+2, _=>trivial
    ·refine ⟨?_,?_,trivial⟩
     ·exact xs4 rfl id fun cx=>run_loadB (n:=7) rfl (by kernel_rfl) (by kernel_rfl) (cx.ou 9) (cx.bi 8 rfl) (nle rfl) rfl
     ·refine svA fun ρ β W X cx=>?_
      exact dv_store (n:=7) rfl (cx.ou 8) (cx.an 0) (by kernel_rfl) (by kernel_rfl) (by kernel_rfl) cx (cx.init 5 _ rfl) rfl (nle rfl) (by kernel_rfl) rfl rfl rfl (fun σ β' X' hs hb hx=>hx)
    intro σ β X W16 hD hst16 fr hfr
    simp only [exq 10 ((dTn (hD 1 lq)))] at hst16
    clear hD; subst hfr; clear σ β X
    refine then_normal (wpIn_exit (then_exit (blk_eq ?_)))
    exact ⟨true, .inl ⟨rfl,rfl⟩, _,⟨xx.2.1,xx.1,xx.2.2.1,xx.2.2.2,un_next hall (unOk_off (by have h_:=hs15; first | exact h_ | (rw [Bool.or_false] at h_; exact h_))),by rw [ahd_snoc,if_neg (by omega)]; rfl,by omega,hN0,rfl⟩,hst16.pick [0,1,2,3,4,9,5,6] (by decide) rfl⟩
   have hs15p:=hs15
   simp only [zB] at hs15p
   obtain ⟨⟨⟨hs15p1,hs15p2⟩,hs15p3⟩,hs15p4⟩:=hs15p
   refine wpIn_cond_false (show Act.eval _ _= .bool false from (congrArg Value.bool hs15)) (wpIn_skip (then_normal (wpIn_seq (wpIn_region_Y [0,1,0,7,15,0,63] [[],[9],[],[6],[6],[],[10]] [[],[],[],[],[],[10],[11]] [[],[],[],[],[],[],[10]] [.k 49 (.pointer (some ⟨B10_13,5,none⟩)), .c 50 (.slice m_.2.2.1 m_.1.es.length m_.2.2.2), .k 51 (vi ((j:Int))), .c 52 (.pointer (some ((ad m_.2.2.1).add (j*3)))), .c 53 (.agg #[.string ((m_.1.es.getD j en0).1),vi (((m_.1.es.getD j en0).2.1:Int)),vi ((m_.1.es.getD j en0).2.2)]), .a 13, .n] (fun ix σ β X=>match ix with | 0=>True | 1=>True | 2=>True | 3=>True | 4=>True | 5=>σ 13=vp (pb (β 13))∧X 10=eB (pb (β 13)) 89 #[.string ByteArray.empty,vi 0,vi 0] | 6=>X 11=eB (pb (β 13)) 89 #[.string ((m_.1.es.getD j en0).1),vi (((m_.1.es.getD j en0).2.1:Int)),vi ((m_.1.es.getD j en0).2.2)] | _=>True) [0,1,2,3,4,5,6,7,8,9,11] [1,3,4,5,6] [(13,5,1,14),(35,0,5,40)] hst14 ?_ ?_ ?_))))
   ·exact fun ix _ _ _ _ _ _ hs hb hx h=>match ix,h with
    | 5,h=>by dsimp only; rw [← hs 13 rfl,← hb 13 rfl,← hx 10 rfl]; exact h
    | 6,h=>by dsimp only; rw [← hb 13 rfl,← hx 11 rfl]; exact h
    | 0, _ | 1, _ | 2, _ | 3, _ | 4, _ | _+7, _=>trivial
   ·refine ⟨?_,?_,?_,?_,?_,trivial⟩
    ·exact xs4 rfl id fun cx=>run_load1 rfl (by kernel_rfl) (cx.an 0) ((cx.bi 9 rfl).cell 5)
    ·exact xs4 rfl id fun cx=>run_indexSlM (e:=89) (m:=j) (sz:=3) rfl (by kernel_rfl) (by kernel_rfl) (cx.an 1) (cx.an 2) (by omega) (by omega) ((CtxV.holdF cx (cx.init 6 _ rfl) rfl).2.2 m_ hmm_).2 (by have h_:=flatLen (f:=enC) (sz:=3) enC_len m_.1.es; show 0 < (List.flatMap enC m_.1.es).length; omega)
    ·exact xs4 rfl id fun cx=>run_loadElt (f:=enC) (m:=j) (sz:=3) (off:=0) (n:=3) rfl (by kernel_rfl) (by kernel_rfl) (cx.an 3) rfl enC_len ((CtxV.holdF cx (cx.init 6 _ rfl) rfl).2.2 m_ hmm_).2 (en_get (by omega)) (fun k hk=>match k,hk with | 0, _=>rfl | 1, _=>rfl | 2, _=>rfl | k+3,hk=>absurd hk (by omega))
    ·refine svA fun ρ β W X cx=>?_
     exact dv_alloc (cs:=#[.string ByteArray.empty,vi 0,vi 0]) rfl (by kernel_rfl) rfl rfl (fun σ β' X' hs hb hv hx=>⟨hv,hx⟩)
    ·refine svA fun ρ β W X cx=>?_
     exact dv_store (n:=3) rfl (dTn (cx.an 5)).1 (cx.an 4) (by kernel_rfl) (by kernel_rfl) (by kernel_rfl) cx (dTn (cx.an 5)).2 rfl (nle rfl) (by kernel_rfl) rfl rfl rfl (fun σ β' X' hs hb hx=>by rw [hb 13]; exact hx)
   intro σ β X W17 hD hst17 fr hfr
   obtain ⟨B13_17,hu_B13_17⟩:∃ z,pb (β 13)=z:=⟨_,rfl⟩
   simp only [exq 11 ((dTn (hD 6 lq))),hu_B13_17] at hst17
   simp only [ed 13 ((dTn (hD 5 lq)).1),hu_B13_17] at hfr
   clear hD hu_B13_17; subst hfr; clear σ β X
   refine then_normal (wpIn_seq (wpIn_region_Y [0,1,3,7] [[],[8],[],[10]] [[],[],[],[11]] [[],[],[],[10]] [.k 54 (.pointer (some ⟨BV,2,none⟩)), .c 55 (vi xx.1.right), .k 56 (.pointer (some ⟨B13_17,2,none⟩)), .n] (fun ix σ β X=>match ix with | 0=>True | 1=>True | 2=>True | 3=>X 11=eB B13_17 89 #[.string ((m_.1.es.getD j en0).1),vi (((m_.1.es.getD j en0).2.1:Int)),vi xx.1.right] | _=>True) [0,1,2,3,4,5,6,7,8,9,11] [1,3] [(54,0,3,57)] hst17 ?_ ?_ ?_))
   ·exact fun ix _ _ _ _ _ _ hs hb hx h=>match ix,h with
    | 3,h=>by dsimp only; rw [← hx 11 rfl]; exact h
    | 0, _ | 1, _ | 2, _ | _+4, _=>trivial
   ·refine ⟨?_,?_,trivial⟩
    ·exact xs4 rfl id fun cx=>run_load1 rfl (by kernel_rfl) (cx.an 0) ((cx.bi 8 rfl).cell 2)
    ·refine svA fun ρ β W X cx=>?_
     exact dv_store (n:=1) rfl (cx.an 2) (cx.an 1) (by kernel_rfl) (by kernel_rfl) (by kernel_rfl) cx (cx.init 10 _ rfl) rfl (nle rfl) (by kernel_rfl) rfl rfl rfl (fun σ β' X' hs hb hx=>hx)
   intro σ β X W18 hD hst18 fr hfr
   simp only [exq 11 ((dTn (hD 3 lq)))] at hst18
   clear hD; subst hfr; clear σ β X
   refine then_normal (wpIn_seq (wpIn_region_Y [0,1,0,4,0,0,48,127,0,256,0,1024,0,4096,15360,31744,64512,130816,262143,524287] [[],[9],[],[10],[9],[10],[],[],[],[9],[],[9],[],[],[6],[],[6],[],[],[1]] [[],[],[],[],[],[],[],[],[],[],[],[],[],[],[],[],[],[],[11],[12]] [[],[],[],[],[],[],[],[],[],[],[],[],[],[],[],[],[],[],[],[1]] [.k 57 (vp B10_13), .c 58 (vi m_.2.1), .k 59 (.pointer (some ⟨B13_17,1,none⟩)), .c 60 (vi (((m_.1.es.getD j en0).2.1:Int))), .c 61 (.agg #[vi m_.2.1,vi m_.1.lv,vi m_.1.right, .string m_.1.high, .bool m_.1.dead, .slice m_.2.2.1 m_.1.es.length m_.2.2.2,vi ((m_.1.free:Int))]), .c 62 (.agg #[.string ((m_.1.es.getD j en0).1),vi (((m_.1.es.getD j en0).2.1:Int)),vi xx.1.right]), .c 63 (.string (itB m_.1.lv xx.1.right ((m_.1.es.getD j en0).1))), .k 64 (.agg #[vi m_.2.1,vi (((m_.1.es.getD j en0).2.1:Int)), .string (itB m_.1.lv xx.1.right ((m_.1.es.getD j en0).1))]), .k 65 (vp B10_13), .c 66 (vi m_.2.1), .k 67 (.pointer (some ⟨B10_13,5,none⟩)), .c 68 (.slice m_.2.2.1 m_.1.es.length m_.2.2.2), .k 69 (vi ((j:Int))),tI 70 ((j:Int)+1) (by omega), .c 71 (.pointer (some ((ad m_.2.2.1).add ((j+1)*3)))), .c 72 (.pointer (some ((ad m_.2.2.1).add ((j+1)*3+1)))), .c 73 (vi (((m_.1.es.getD (j+1) en0).2.1:Int))), .k 74 (.agg #[vi m_.2.1,vi (((m_.1.es.getD (j+1) en0).2.1:Int)), .string ByteArray.empty]), .a 75, .n] (fun ix σ β X=>match ix with | 0=>True | 1=>True | 2=>True | 3=>True | 4=>True | 5=>True | 6=>True | 7=>True | 8=>True | 9=>True | 10=>True | 11=>True | 12=>True | 13=>True | 14=>True | 15=>True | 16=>True | 17=>True | 18=>σ 75= .slice ((some ⟨(pb' (β 75)),0,none⟩)) 2 2∧X 11=eO 67 3 (.slice ((some ⟨(pb' (β 75)),0,none⟩)) 2 2) 2 (([(m_.2.1,((m_.1.es.getD j en0).2.1:Int),itB m_.1.lv xx.1.right ((m_.1.es.getD j en0).1)),(m_.2.1,((m_.1.es.getD (j+1) en0).2.1:Int),ByteArray.empty)]:List EdT).flatMap edC) | 19=>X 12=eB B4_1 28 #[.slice ((some ⟨(pb' (β 75)),0,none⟩)) 2 2] | _=>True) [0,2,3,4,5,6,7,8,9,10,11,12] [1,3,4,5,6,9,11,14,15,16,18,19] [(57,0,19,76)] hst18 ?_ ?_ ?_))
   ·exact fun ix _ _ _ _ _ _ hs hb hx h=>match ix,h with
    | 18,h=>by dsimp only; rw [← hs 75 rfl,← hb 75 rfl,← hx 11 rfl]; exact h
    | 19,h=>by dsimp only; rw [← hb 75 rfl,← hx 12 rfl]; exact h
    | 0, _ | 1, _ | 2, _ | 3, _ | 4, _ | 5, _ | 6, _ | 7, _ | 8, _ | 9, _ | 10, _ | 11, _ | 12, _ | 13, _ | 14, _ | 15, _ | 16, _ | 17, _ | _+20, _=>trivial
   ·refine ⟨?_,?_,?_,?_,?_,?_,?_,?_,?_,?_,?_,?_,trivial⟩
    ·exact xs4 rfl id fun cx=>run_load1 rfl (by kernel_rfl) (cx.an 0) ((cx.bi 9 rfl).cell 0)
    ·exact xs4 rfl id fun cx=>run_load1 rfl (by kernel_rfl) (cx.an 2) ((cx.bi 10 rfl).cell 1)
    ·exact xs4 rfl id fun cx=>run_loadB (n:=7) rfl (by kernel_rfl) (by kernel_rfl) (cx.ou 10) (cx.bi 9 rfl) (nle rfl) rfl
    ·exact xs4 rfl id fun cx=>run_loadB (n:=3) rfl (by kernel_rfl) (by kernel_rfl) (cx.ou 13) (cx.bi 10 rfl) (nle rfl) rfl
    ·exact xsc rfl id rfl rfl fun cx=>⟨_,kitem_any m_.2.1 m_.1.lv m_.1.right (m_.1.free:Int) m_.1.high m_.1.dead _ _ _ ((m_.1.es.getD j en0).1) ((m_.1.es.getD j en0).2.1:Int) xx.1.right _ (getD_size hmz _),(map2 (cx.an 4) (cx.an 5))⟩
    ·exact xs4 rfl id fun cx=>run_load1 rfl (by kernel_rfl) (cx.an 8) ((cx.bi 9 rfl).cell 0)
    ·exact xs4 rfl id fun cx=>run_load1 rfl (by kernel_rfl) (cx.an 10) ((cx.bi 9 rfl).cell 5)
    ·exact xs4 rfl id fun cx=>run_indexSlM (e:=89) (m:=j+1) (sz:=3) rfl (by kernel_rfl) (by kernel_rfl) (cx.an 11) (cx.an 13) (by omega) (by omega) ((CtxV.holdF cx (cx.init 6 _ rfl) rfl).2.2 m_ hmm_).2 (by have h_:=flatLen (f:=enC) (sz:=3) enC_len m_.1.es; show 0 < (List.flatMap enC m_.1.es).length; omega)
    ·exact xs4 rfl id fun cx=>run_fieldAd rfl (by kernel_rfl) (cx.an 14)
    ·exact xs4 rfl id fun cx=>run_load1 rfl (by kernel_rfl) (cx.an 15) (At.eltc (f:=enC) (k:=1) enC_len ((CtxV.holdF cx (cx.init 6 _ rfl) rfl).2.2 m_ hmm_).2 (en_get (by omega)) rfl)
    ·refine svA fun ρ β W X cx=>?_
     have fF64:ρ (.tmp 64)= .agg #[vi m_.2.1,vi (((m_.1.es.getD j en0).2.1:Int)), .string (itB m_.1.lv xx.1.right ((m_.1.es.getD j en0).1))]:=(cx.an 7)
     have fF74:ρ (.tmp 74)= .agg #[vi m_.2.1,vi (((m_.1.es.getD (j+1) en0).2.1:Int)), .string ByteArray.empty]:=(cx.an 17)
     exact dv_litN (e:=67) (sz:=3) (xs:=[vi m_.2.1,vi (((m_.1.es.getD j en0).2.1:Int)), .string (itB m_.1.lv xx.1.right ((m_.1.es.getD j en0).1)),vi m_.2.1,vi (((m_.1.es.getD (j+1) en0).2.1:Int)), .string ByteArray.empty]) rfl (by simp [go_sem,fF64,fF74]) rfl (by decide) rfl rfl (fun σ β' X' hs hb hv hx=>⟨hv,hx⟩)
    ·refine svA fun ρ β W X cx=>?_
     exact dv_store (n:=1) rfl (cx.ou 4) (dTn (cx.an 18)).1 (by kernel_rfl) (by kernel_rfl) (by kernel_rfl) cx (cx.init 1 _ rfl) rfl (nle rfl) (by kernel_rfl) rfl rfl rfl (fun σ β' X' hs hb hx=>by rw [hb 75]; exact hx)
   intro σ β X W19 hD hst19 fr hfr
   obtain ⟨B75_19,hu_B75_19⟩:∃ z,pb' (β 75)=z:=⟨_,rfl⟩
   simp only [exq 11 ((dTn (hD 18 lq)).2),exq 12 ((dTn (hD 19 lq))),hu_B75_19] at hst19
   simp only [ed 75 ((dTn (hD 18 lq)).1),hu_B75_19] at hfr
   clear hD hu_B75_19; subst hfr; clear σ β X
   refine then_normal (wpIn_seq (wpIn_seq (wpIn_region_Z [0,1,3] [[],[4]] [.k 76 (vp B8_3), .c 77 (vi apg), .k 78 (.bool (decide (0≤apg)))] [0,1,2,3,4,5,6,7,8,9,10,11] [1] [(76,0,3,79)] hst19 ?_ fun W20 hst20=>?_)))
   ·refine ⟨?_,trivial⟩
    ·exact xs4 rfl id fun cx=>run_load1 rfl (by kernel_rfl) (cx.an 0) ((cx.bi 4 rfl).cell 0)
   refine then_normal ?_
   rcases Bool.eq_false_or_eq_true (decide (0≤apg)) with hs21 | hs21
   ·have hs21p:0≤apg:=by simpa using hs21
    refine wpIn_cond_true (show Act.eval _ _= .bool true from (congrArg Value.bool hs21)) (wpIn_seq (wpIn_region_Y [0,1,3,7] [[],[7],[],[4]] [[],[],[],[12]] [[],[],[],[4]] [.k 79 (.pointer (some ⟨BV,2,none⟩)), .c 80 (vi xx.1.right), .k 81 (.pointer (some ⟨B8_3,2,none⟩)), .n] (fun ix σ β X=>match ix with | 0=>True | 1=>True | 2=>True | 3=>X 12=eB B8_3 84 #[vi apg,vi an.lv,vi xx.1.right, .string an.high, .bool an.dead, .slice AA an.es.length ac,vi ((an.free:Int))] | _=>True) [0,1,2,3,5,6,7,8,9,10,11,12] [1,3] [(79,0,3,82)] hst20 ?_ ?_ ?_))
    ·exact fun ix _ _ _ _ _ _ hs hb hx h=>match ix,h with
     | 3,h=>by dsimp only; rw [← hx 12 rfl]; exact h
     | 0, _ | 1, _ | 2, _ | _+4, _=>trivial
    ·refine ⟨?_,?_,trivial⟩
     ·exact xs4 rfl id fun cx=>run_load1 rfl (by kernel_rfl) (cx.an 0) ((cx.bi 7 rfl).cell 2)
     ·refine svA fun ρ β W X cx=>?_
      exact dv_store (n:=1) rfl (cx.an 2) (cx.an 1) (by kernel_rfl) (by kernel_rfl) (by kernel_rfl) cx (cx.init 4 _ rfl) rfl (nle rfl) (by kernel_rfl) rfl rfl rfl (fun σ β' X' hs hb hx=>hx)
    intro σ β X W22 hD hst22 fr hfr
    simp only [exq 12 ((dTn (hD 3 lq)))] at hst22
    clear hD; subst hfr; clear σ β X
    refine then_normal (wpIn_region_Y [0,0,2,0,8,30,62,127,255] [[10],[],[11],[11],[],[],[],[12,9],[10]] [[],[],[],[],[],[],[12],[13],[14]] [[],[],[],[],[],[],[],[9],[10]] [.c 82 (.slice ((some ⟨B75_19,0,none⟩)) 2 2), .k 83 (vp B8_3), .c 84 (vi apg), .c 85 (.agg #[vi apg,vi an.lv,vi xx.1.right, .string an.high, .bool an.dead, .slice AA an.es.length ac,vi ((an.free:Int))]), .c 86 (.string (hdB an.lv xx.1.right an.dead an.high)), .k 87 (.agg #[vi apg,vi 0, .string (hdB an.lv xx.1.right an.dead an.high)]), .a 88, .a 89, .n] (fun ix σ β X=>match ix with | 0=>True | 1=>True | 2=>True | 3=>True | 4=>True | 5=>True | 6=>σ 88= .slice ((some ⟨(pb' (β 88)),0,none⟩)) 1 1∧X 12=eO 67 3 (.slice ((some ⟨(pb' (β 88)),0,none⟩)) 1 1) 1 (edC (apg,0,hdB an.lv xx.1.right an.dead an.high)) | 7=>σ 89= .slice (sA (β 89)) 3 (sC (β 89))∧X 13=eO 67 3 (.slice (sA (β 89)) 3 (sC (β 89))) 3 ((([(m_.2.1,((m_.1.es.getD j en0).2.1:Int),itB m_.1.lv xx.1.right ((m_.1.es.getD j en0).1)),(m_.2.1,((m_.1.es.getD (j+1) en0).2.1:Int),ByteArray.empty)]:List EdT)++[(apg,0,hdB an.lv xx.1.right an.dead an.high)]).flatMap edC) | 8=>X 14=eB B4_1 28 #[.slice (sA (β 89)) 3 (sC (β 89))] | _=>True) [0,1,2,3,4,5,6,7,8,11,12,13,14] [0,2,3,4,6,7,8] [(82,0,8,90)] hst22 ?_ ?_ ?_)
    ·exact fun ix _ _ _ _ _ _ hs hb hx h=>match ix,h with
     | 6,h=>by dsimp only; rw [← hs 88 rfl,← hb 88 rfl,← hx 12 rfl]; exact h
     | 7,h=>by dsimp only; rw [← hs 89 rfl,← hb 89 rfl,← hx 13 rfl]; exact h
     | 8,h=>by dsimp only; rw [← hb 89 rfl,← hx 14 rfl]; exact h
     | 0, _ | 1, _ | 2, _ | 3, _ | 4, _ | 5, _ | _+9, _=>trivial
    ·refine ⟨?_,?_,?_,?_,?_,?_,?_,trivial⟩
     ·exact xs4 rfl id fun cx=>run_load1 rfl (by kernel_rfl) (cx.ou 4) ((cx.bi 10 rfl).cell 0)
     ·exact xs4 rfl id fun cx=>run_load1 rfl (by kernel_rfl) (cx.an 1) ((cx.bi 11 rfl).cell 0)
     ·exact xs4 rfl id fun cx=>run_loadB (n:=7) rfl (by kernel_rfl) (by kernel_rfl) (cx.ou 8) (cx.bi 11 rfl) (nle rfl) rfl
     ·exact xsc rfl id rfl rfl fun cx=>⟨_,khead_le apg an.lv xx.1.right (an.free:Int) an.high an.dead _ _ _ _ (by omega) (by omega) (by first | omega | decide),(map1 (cx.an 3))⟩
     ·refine svA fun ρ β W X cx=>?_
      have fF87:ρ (.tmp 87)= .agg #[vi apg,vi 0, .string (hdB an.lv xx.1.right an.dead an.high)]:=(cx.an 5)
      exact dv_litN (e:=67) (sz:=3) (xs:=[vi apg,vi 0, .string (hdB an.lv xx.1.right an.dead an.high)]) rfl (by simp [go_sem,fF87]) rfl (by decide) rfl rfl (fun σ β' X' hs hb hv hx=>⟨hv,hx⟩)
     ·refine svA fun ρ β W X cx=>?_
      obtain ⟨i0,hi0,hz0,hz1,hz2⟩:=info_parts Tryz.infoEdit
      refine dv_appendN (n:=2) (m:=1) (nm:=3) (sz:=3) (xs:=([(m_.2.1,((m_.1.es.getD j en0).2.1:Int),itB m_.1.lv xx.1.right ((m_.1.es.getD j en0).1)),(m_.2.1,((m_.1.es.getD (j+1) en0).2.1:Int),ByteArray.empty)]:List EdT).flatMap edC) (news:=edC (apg,0,hdB an.lv xx.1.right an.dead an.high)) (xs':=(([(m_.2.1,((m_.1.es.getD j en0).2.1:Int),itB m_.1.lv xx.1.right ((m_.1.es.getD j en0).1)),(m_.2.1,((m_.1.es.getD (j+1) en0).2.1:Int),ByteArray.empty)]:List EdT)++[(apg,0,hdB an.lv xx.1.right an.dead an.high)]).flatMap edC) rfl (ty:=28) rfl (by kernel_rfl) hi0 hz0 hz1 hz2 rfl (by decide) (cx.an 0) cx (cx.init 9 _ rfl) rfl (dTn (cx.an 6)).1 (by rfl) (At.of_ownN (cx.row (dTn (cx.an 6)).2 rfl)) (by simp [edC,Value.oneCell']) (by simp only [maxLen]; omega) (by omega) rfl rfl rfl (by omega) (ed_snoc _ _) (fun σ β' X' hs hb hv hx=>?_)
      exact ⟨hv,hx⟩
     ·refine svA fun ρ β W X cx=>?_
      exact dv_store (n:=1) rfl (cx.ou 4) (dTn (cx.an 7)).1 (by kernel_rfl) (by kernel_rfl) (by kernel_rfl) cx (cx.init 10 _ rfl) rfl (nle rfl) (by kernel_rfl) rfl rfl rfl (fun σ β' X' hs hb hx=>by rw [hb 89]; exact hx)
    intro σ β X W23 hD hst23 fr hfr
    obtain ⟨B88_23,hu_B88_23⟩:∃ z,pb' (β 88)=z:=⟨_,rfl⟩
    obtain ⟨A89_23,hu_A89_23⟩:∃ z,sA (β 89)=z:=⟨_,rfl⟩
    obtain ⟨c89_23,hu_c89_23⟩:∃ z,sC (β 89)=z:=⟨_,rfl⟩
    simp only [exq 12 ((dTn (hD 6 lq)).2),exq 13 ((dTn (hD 7 lq)).2),exq 14 ((dTn (hD 8 lq))),hu_B88_23,hu_A89_23,hu_c89_23] at hst23
    simp only [ed 88 ((dTn (hD 6 lq)).1),ed 89 ((dTn (hD 7 lq)).1),hu_B88_23,hu_A89_23,hu_c89_23] at hfr
    clear hD hu_B88_23 hu_A89_23 hu_c89_23; subst hfr; clear σ β X
    refine then_normal (wpIn_seq (wpIn_region_Y [0,1] [[],[6]] [[],[13]] [[],[6]] [.k 90 (.pointer (some ⟨BV,4,none⟩)), .n] (fun ix σ β X=>match ix with | 0=>True | 1=>X 13=eB BV 84 #[vi xx.2.1,vi xx.1.lv,vi xx.1.right, .string xx.1.high, .bool true, .slice xx.2.2.1 xx.1.es.length xx.2.2.2,vi ((xx.1.free:Int))] | _=>True) [0,1,2,3,4,5,7,8,9,10,11,12,13] [1] [(90,0,1,91)] hst23 ?_ ?_ ?_))
    ·exact fun ix _ _ _ _ _ _ hs hb hx h=>match ix,h with
     | 1,h=>by dsimp only; rw [← hx 13 rfl]; exact h
     | 0, _ | _+2, _=>trivial
    ·refine ⟨?_,trivial⟩
     ·refine svA fun ρ β W X cx=>?_
      exact dv_store (n:=1) rfl (cx.an 0) (cx.co _) (by kernel_rfl) (by kernel_rfl) (by kernel_rfl) cx (cx.init 6 _ rfl) rfl (nle rfl) (by kernel_rfl) rfl rfl rfl (fun σ β' X' hs hb hx=>hx)
    intro σ β X W24 hD hst24 fr hfr
    simp only [exq 13 ((dTn (hD 1 lq)))] at hst24
    clear hD; subst hfr; clear σ β X
    refine then_normal (wpIn_seq (wpIn_region_Y [0,0,2,0,8,30,62,127,0,256,0,1024,255,5119,16383] [[11],[],[12],[12],[],[],[],[13,10],[],[12],[],[12],[11],[1],[2]] [[],[],[],[],[],[],[13],[14],[],[],[],[],[15],[16],[17]] [[],[],[],[],[],[],[],[10],[],[],[],[],[11],[1],[2]] [.c 91 (.slice A89_23 3 c89_23), .k 92 (vp BV), .c 93 (vi xx.2.1), .c 94 (.agg #[vi xx.2.1,vi xx.1.lv,vi xx.1.right, .string xx.1.high, .bool true, .slice xx.2.2.1 xx.1.es.length xx.2.2.2,vi ((xx.1.free:Int))]), .c 95 (.string (hdB xx.1.lv xx.1.right true xx.1.high)), .k 96 (.agg #[vi xx.2.1,vi 0, .string (hdB xx.1.lv xx.1.right true xx.1.high)]), .a 97, .a 98, .k 99 (vp BV), .c 100 (vi xx.2.1), .k 101 (.pointer (some ⟨BV,2,none⟩)), .c 102 (vi xx.1.right), .n, .n, .n] (fun ix σ β X=>match ix with | 0=>True | 1=>True | 2=>True | 3=>True | 4=>True | 5=>True | 6=>σ 97= .slice ((some ⟨(pb' (β 97)),0,none⟩)) 1 1∧X 13=eO 67 3 (.slice ((some ⟨(pb' (β 97)),0,none⟩)) 1 1) 1 (edC (xx.2.1,0,hdB xx.1.lv xx.1.right true xx.1.high)) | 7=>σ 98= .slice (sA (β 98)) 4 (sC (β 98))∧X 14=eO 67 3 (.slice (sA (β 98)) 4 (sC (β 98))) 4 (((([(m_.2.1,((m_.1.es.getD j en0).2.1:Int),itB m_.1.lv xx.1.right ((m_.1.es.getD j en0).1)),(m_.2.1,((m_.1.es.getD (j+1) en0).2.1:Int),ByteArray.empty)]:List EdT)++[(apg,0,hdB an.lv xx.1.right an.dead an.high)])++[(xx.2.1,0,hdB xx.1.lv xx.1.right true xx.1.high)]).flatMap edC) | 8=>True | 9=>True | 10=>True | 11=>True | 12=>X 15=eB B4_1 28 #[.slice (sA (β 98)) 4 (sC (β 98))] | 13=>X 16=eB B5_1 3 #[vi xx.2.1] | 14=>X 17=eB B6_1 3 #[vi xx.1.right] | _=>True) [0,3,4,5,6,7,8,9,12,13,14,15,16,17] [0,2,3,4,6,7,9,11,12,13,14] [(91,0,12,103)] hst24 ?_ ?_ ?_))
    ·exact fun ix _ _ _ _ _ _ hs hb hx h=>match ix,h with
     | 6,h=>by dsimp only; rw [← hs 97 rfl,← hb 97 rfl,← hx 13 rfl]; exact h
     | 7,h=>by dsimp only; rw [← hs 98 rfl,← hb 98 rfl,← hx 14 rfl]; exact h
     | 12,h=>by dsimp only; rw [← hb 98 rfl,← hx 15 rfl]; exact h
     | 13,h=>by dsimp only; rw [← hx 16 rfl]; exact h
     | 14,h=>by dsimp only; rw [← hx 17 rfl]; exact h
     | 0, _ | 1, _ | 2, _ | 3, _ | 4, _ | 5, _ | 8, _ | 9, _ | 10, _ | 11, _ | _+15, _=>trivial
    ·refine ⟨?_,?_,?_,?_,?_,?_,?_,?_,?_,?_,?_,trivial⟩
     ·exact xs4 rfl id fun cx=>run_load1 rfl (by kernel_rfl) (cx.ou 4) ((cx.bi 11 rfl).cell 0)
     ·exact xs4 rfl id fun cx=>run_load1 rfl (by kernel_rfl) (cx.an 1) ((cx.bi 12 rfl).cell 0)
     ·exact xs4 rfl id fun cx=>run_loadB (n:=7) rfl (by kernel_rfl) (by kernel_rfl) (cx.ou 9) (cx.bi 12 rfl) (nle rfl) rfl
     ·exact xsc rfl id rfl rfl fun cx=>⟨_,khead_le xx.2.1 xx.1.lv xx.1.right (xx.1.free:Int) xx.1.high true _ _ _ _ (by omega) (by omega) (by first | omega | decide),(map1 (cx.an 3))⟩
     ·refine svA fun ρ β W X cx=>?_
      have fF96:ρ (.tmp 96)= .agg #[vi xx.2.1,vi 0, .string (hdB xx.1.lv xx.1.right true xx.1.high)]:=(cx.an 5)
      exact dv_litN (e:=67) (sz:=3) (xs:=[vi xx.2.1,vi 0, .string (hdB xx.1.lv xx.1.right true xx.1.high)]) rfl (by simp [go_sem,fF96]) rfl (by decide) rfl rfl (fun σ β' X' hs hb hv hx=>⟨hv,hx⟩)
     ·refine svA fun ρ β W X cx=>?_
      obtain ⟨i0,hi0,hz0,hz1,hz2⟩:=info_parts Tryz.infoEdit
      refine dv_appendN (n:=3) (m:=1) (nm:=4) (sz:=3) (xs:=(([(m_.2.1,((m_.1.es.getD j en0).2.1:Int),itB m_.1.lv xx.1.right ((m_.1.es.getD j en0).1)),(m_.2.1,((m_.1.es.getD (j+1) en0).2.1:Int),ByteArray.empty)]:List EdT)++[(apg,0,hdB an.lv xx.1.right an.dead an.high)]).flatMap edC) (news:=edC (xx.2.1,0,hdB xx.1.lv xx.1.right true xx.1.high)) (xs':=((([(m_.2.1,((m_.1.es.getD j en0).2.1:Int),itB m_.1.lv xx.1.right ((m_.1.es.getD j en0).1)),(m_.2.1,((m_.1.es.getD (j+1) en0).2.1:Int),ByteArray.empty)]:List EdT)++[(apg,0,hdB an.lv xx.1.right an.dead an.high)])++[(xx.2.1,0,hdB xx.1.lv xx.1.right true xx.1.high)]).flatMap edC) rfl (ty:=28) rfl (by kernel_rfl) hi0 hz0 hz1 hz2 rfl (by decide) (cx.an 0) cx (cx.init 10 _ rfl) rfl (dTn (cx.an 6)).1 (by rfl) (At.of_ownN (cx.row (dTn (cx.an 6)).2 rfl)) (by simp [edC,Value.oneCell']) (by simp only [maxLen]; omega) (by omega) rfl rfl rfl (by omega) (ed_snoc _ _) (fun σ β' X' hs hb hv hx=>?_)
      exact ⟨hv,hx⟩
     ·exact xs4 rfl id fun cx=>run_load1 rfl (by kernel_rfl) (cx.an 8) ((cx.bi 12 rfl).cell 0)
     ·exact xs4 rfl id fun cx=>run_load1 rfl (by kernel_rfl) (cx.an 10) ((cx.bi 12 rfl).cell 2)
     ·refine svA fun ρ β W X cx=>?_
      exact dv_store (n:=1) rfl (cx.ou 4) (dTn (cx.an 7)).1 (by kernel_rfl) (by kernel_rfl) (by kernel_rfl) cx (cx.init 11 _ rfl) rfl (nle rfl) (by kernel_rfl) rfl rfl rfl (fun σ β' X' hs hb hx=>by rw [hb 98]; exact hx)
     ·refine svA fun ρ β W X cx=>?_
      exact dv_store (n:=1) rfl (cx.ou 5) (cx.an 9) (by kernel_rfl) (by kernel_rfl) (by kernel_rfl) cx (cx.init 1 _ rfl) rfl (nle rfl) (by kernel_rfl) rfl rfl rfl (fun σ β' X' hs hb hx=>hx)
     ·refine svA fun ρ β W X cx=>?_
      exact dv_store (n:=1) rfl (cx.ou 6) (cx.an 11) (by kernel_rfl) (by kernel_rfl) (by kernel_rfl) cx (cx.init 2 _ rfl) rfl (nle rfl) (by kernel_rfl) rfl rfl rfl (fun σ β' X' hs hb hx=>hx)
    intro σ β X W25 hD hst25 fr hfr
    obtain ⟨B97_25,hu_B97_25⟩:∃ z,pb' (β 97)=z:=⟨_,rfl⟩
    obtain ⟨A98_25,hu_A98_25⟩:∃ z,sA (β 98)=z:=⟨_,rfl⟩
    obtain ⟨c98_25,hu_c98_25⟩:∃ z,sC (β 98)=z:=⟨_,rfl⟩
    simp only [exq 13 ((dTn (hD 6 lq)).2),exq 14 ((dTn (hD 7 lq)).2),exq 15 ((dTn (hD 12 lq))),exq 16 ((dTn (hD 13 lq))),exq 17 ((dTn (hD 14 lq))),hu_B97_25,hu_A98_25,hu_c98_25] at hst25
    simp only [ed 97 ((dTn (hD 6 lq)).1),ed 98 ((dTn (hD 7 lq)).1),hu_B97_25,hu_A98_25,hu_c98_25] at hfr
    clear hD hu_B97_25 hu_A98_25 hu_c98_25; subst hfr; clear σ β X
    refine then_normal (wpIn_ret (blk_ret ?_))
    exact ⟨false, .inr ⟨rfl,rfl⟩, _,⟨((([(m_.2.1,((m_.1.es.getD j en0).2.1:Int),itB m_.1.lv xx.1.right ((m_.1.es.getD j en0).1)),(m_.2.1,((m_.1.es.getD (j+1) en0).2.1:Int),ByteArray.empty)]:List EdT)++[(apg,0,hdB an.lv xx.1.right an.dead an.high)])++[(xx.2.1,0,hdB xx.1.lv xx.1.right true xx.1.high)]),xx.2.1,xx.1.right,4,A98_25,c98_25,rfl,(fun r=>by rw [un_fin hall (unOk_on (by have h_:=hs15; first | exact h_ | (rw [Bool.or_false] at h_; exact h_)) hld),hah,if_neg (by omega),getD_pgN,hm_]; rfl),rfl⟩,hst25.pick [11,12,13,10,3] (by decide) rfl⟩
   have hs21p:¬ (0≤apg):=by simpa using hs21
   refine wpIn_cond_false (show Act.eval _ _= .bool false from (congrArg Value.bool hs21)) (wpIn_skip (then_normal (wpIn_seq (wpIn_region_Y [0,1] [[],[7]] [[],[12]] [[],[7]] [.k 90 (.pointer (some ⟨BV,4,none⟩)), .n] (fun ix σ β X=>match ix with | 0=>True | 1=>X 12=eB BV 84 #[vi xx.2.1,vi xx.1.lv,vi xx.1.right, .string xx.1.high, .bool true, .slice xx.2.2.1 xx.1.es.length xx.2.2.2,vi ((xx.1.free:Int))] | _=>True) [0,1,2,3,4,5,6,8,9,10,11,12] [1] [(90,0,1,91)] hst20 ?_ ?_ ?_))))
   ·exact fun ix _ _ _ _ _ _ hs hb hx h=>match ix,h with
    | 1,h=>by dsimp only; rw [← hx 12 rfl]; exact h
    | 0, _ | _+2, _=>trivial
   ·refine ⟨?_,trivial⟩
    ·refine svA fun ρ β W X cx=>?_
     exact dv_store (n:=1) rfl (cx.an 0) (cx.co _) (by kernel_rfl) (by kernel_rfl) (by kernel_rfl) cx (cx.init 7 _ rfl) rfl (nle rfl) (by kernel_rfl) rfl rfl rfl (fun σ β' X' hs hb hx=>hx)
   intro σ β X W26 hD hst26 fr hfr
   simp only [exq 12 ((dTn (hD 1 lq)))] at hst26
   clear hD; subst hfr; clear σ β X
   refine then_normal (wpIn_seq (wpIn_region_Y [0,0,2,0,8,30,62,127,0,256,0,1024,255,5119,16383] [[10],[],[11],[11],[],[],[],[12,9],[],[11],[],[11],[10],[1],[2]] [[],[],[],[],[],[],[12],[13],[],[],[],[],[14],[15],[16]] [[],[],[],[],[],[],[],[9],[],[],[],[],[10],[1],[2]] [.c 91 (.slice ((some ⟨B75_19,0,none⟩)) 2 2), .k 92 (vp BV), .c 93 (vi xx.2.1), .c 94 (.agg #[vi xx.2.1,vi xx.1.lv,vi xx.1.right, .string xx.1.high, .bool true, .slice xx.2.2.1 xx.1.es.length xx.2.2.2,vi ((xx.1.free:Int))]), .c 95 (.string (hdB xx.1.lv xx.1.right true xx.1.high)), .k 96 (.agg #[vi xx.2.1,vi 0, .string (hdB xx.1.lv xx.1.right true xx.1.high)]), .a 97, .a 98, .k 99 (vp BV), .c 100 (vi xx.2.1), .k 101 (.pointer (some ⟨BV,2,none⟩)), .c 102 (vi xx.1.right), .n, .n, .n] (fun ix σ β X=>match ix with | 0=>True | 1=>True | 2=>True | 3=>True | 4=>True | 5=>True | 6=>σ 97= .slice ((some ⟨(pb' (β 97)),0,none⟩)) 1 1∧X 12=eO 67 3 (.slice ((some ⟨(pb' (β 97)),0,none⟩)) 1 1) 1 (edC (xx.2.1,0,hdB xx.1.lv xx.1.right true xx.1.high)) | 7=>σ 98= .slice (sA (β 98)) 3 (sC (β 98))∧X 13=eO 67 3 (.slice (sA (β 98)) 3 (sC (β 98))) 3 ((([(m_.2.1,((m_.1.es.getD j en0).2.1:Int),itB m_.1.lv xx.1.right ((m_.1.es.getD j en0).1)),(m_.2.1,((m_.1.es.getD (j+1) en0).2.1:Int),ByteArray.empty)]:List EdT)++[(xx.2.1,0,hdB xx.1.lv xx.1.right true xx.1.high)]).flatMap edC) | 8=>True | 9=>True | 10=>True | 11=>True | 12=>X 14=eB B4_1 28 #[.slice (sA (β 98)) 3 (sC (β 98))] | 13=>X 15=eB B5_1 3 #[vi xx.2.1] | 14=>X 16=eB B6_1 3 #[vi xx.1.right] | _=>True) [0,3,4,5,6,7,8,11,12,13,14,15,16] [0,2,3,4,6,7,9,11,12,13,14] [(91,0,12,103)] hst26 ?_ ?_ ?_))
   ·exact fun ix _ _ _ _ _ _ hs hb hx h=>match ix,h with
    | 6,h=>by dsimp only; rw [← hs 97 rfl,← hb 97 rfl,← hx 12 rfl]; exact h
    | 7,h=>by dsimp only; rw [← hs 98 rfl,← hb 98 rfl,← hx 13 rfl]; exact h
    | 12,h=>by dsimp only; rw [← hb 98 rfl,← hx 14 rfl]; exact h
    | 13,h=>by dsimp only; rw [← hx 15 rfl]; exact h
    | 14,h=>by dsimp only; rw [← hx 16 rfl]; exact h
    | 0, _ | 1, _ | 2, _ | 3, _ | 4, _ | 5, _ | 8, _ | 9, _ | 10, _ | 11, _ | _+15, _=>trivial
   ·refine ⟨?_,?_,?_,?_,?_,?_,?_,?_,?_,?_,?_,trivial⟩
    ·exact xs4 rfl id fun cx=>run_load1 rfl (by kernel_rfl) (cx.ou 4) ((cx.bi 10 rfl).cell 0)
    ·exact xs4 rfl id fun cx=>run_load1 rfl (by kernel_rfl) (cx.an 1) ((cx.bi 11 rfl).cell 0)
    ·exact xs4 rfl id fun cx=>run_loadB (n:=7) rfl (by kernel_rfl) (by kernel_rfl) (cx.ou 9) (cx.bi 11 rfl) (nle rfl) rfl
    ·exact xsc rfl id rfl rfl fun cx=>⟨_,khead_le xx.2.1 xx.1.lv xx.1.right (xx.1.free:Int) xx.1.high true _ _ _ _ (by omega) (by omega) (by first | omega | decide),(map1 (cx.an 3))⟩
    ·refine svA fun ρ β W X cx=>?_
     have fF96:ρ (.tmp 96)= .agg #[vi xx.2.1,vi 0, .string (hdB xx.1.lv xx.1.right true xx.1.high)]:=(cx.an 5)
     exact dv_litN (e:=67) (sz:=3) (xs:=[vi xx.2.1,vi 0, .string (hdB xx.1.lv xx.1.right true xx.1.high)]) rfl (by simp [go_sem,fF96]) rfl (by decide) rfl rfl (fun σ β' X' hs hb hv hx=>⟨hv,hx⟩)
    ·refine svA fun ρ β W X cx=>?_
     obtain ⟨i0,hi0,hz0,hz1,hz2⟩:=info_parts Tryz.infoEdit
     refine dv_appendN (n:=2) (m:=1) (nm:=3) (sz:=3) (xs:=([(m_.2.1,((m_.1.es.getD j en0).2.1:Int),itB m_.1.lv xx.1.right ((m_.1.es.getD j en0).1)),(m_.2.1,((m_.1.es.getD (j+1) en0).2.1:Int),ByteArray.empty)]:List EdT).flatMap edC) (news:=edC (xx.2.1,0,hdB xx.1.lv xx.1.right true xx.1.high)) (xs':=(([(m_.2.1,((m_.1.es.getD j en0).2.1:Int),itB m_.1.lv xx.1.right ((m_.1.es.getD j en0).1)),(m_.2.1,((m_.1.es.getD (j+1) en0).2.1:Int),ByteArray.empty)]:List EdT)++[(xx.2.1,0,hdB xx.1.lv xx.1.right true xx.1.high)]).flatMap edC) rfl (ty:=28) rfl (by kernel_rfl) hi0 hz0 hz1 hz2 rfl (by decide) (cx.an 0) cx (cx.init 9 _ rfl) rfl (dTn (cx.an 6)).1 (by rfl) (At.of_ownN (cx.row (dTn (cx.an 6)).2 rfl)) (by simp [edC,Value.oneCell']) (by simp only [maxLen]; omega) (by omega) rfl rfl rfl (by omega) (ed_snoc _ _) (fun σ β' X' hs hb hv hx=>?_)
     exact ⟨hv,hx⟩
    ·exact xs4 rfl id fun cx=>run_load1 rfl (by kernel_rfl) (cx.an 8) ((cx.bi 11 rfl).cell 0)
    ·exact xs4 rfl id fun cx=>run_load1 rfl (by kernel_rfl) (cx.an 10) ((cx.bi 11 rfl).cell 2)
    ·refine svA fun ρ β W X cx=>?_
     exact dv_store (n:=1) rfl (cx.ou 4) (dTn (cx.an 7)).1 (by kernel_rfl) (by kernel_rfl) (by kernel_rfl) cx (cx.init 10 _ rfl) rfl (nle rfl) (by kernel_rfl) rfl rfl rfl (fun σ β' X' hs hb hx=>by rw [hb 98]; exact hx)
    ·refine svA fun ρ β W X cx=>?_
     exact dv_store (n:=1) rfl (cx.ou 5) (cx.an 9) (by kernel_rfl) (by kernel_rfl) (by kernel_rfl) cx (cx.init 1 _ rfl) rfl (nle rfl) (by kernel_rfl) rfl rfl rfl (fun σ β' X' hs hb hx=>hx)
    ·refine svA fun ρ β W X cx=>?_
     exact dv_store (n:=1) rfl (cx.ou 6) (cx.an 11) (by kernel_rfl) (by kernel_rfl) (by kernel_rfl) cx (cx.init 2 _ rfl) rfl (nle rfl) (by kernel_rfl) rfl rfl rfl (fun σ β' X' hs hb hx=>hx)
   intro σ β X W27 hD hst27 fr hfr
   obtain ⟨B97_27,hu_B97_27⟩:∃ z,pb' (β 97)=z:=⟨_,rfl⟩
   obtain ⟨A98_27,hu_A98_27⟩:∃ z,sA (β 98)=z:=⟨_,rfl⟩
   obtain ⟨c98_27,hu_c98_27⟩:∃ z,sC (β 98)=z:=⟨_,rfl⟩
   simp only [exq 12 ((dTn (hD 6 lq)).2),exq 13 ((dTn (hD 7 lq)).2),exq 14 ((dTn (hD 12 lq))),exq 15 ((dTn (hD 13 lq))),exq 16 ((dTn (hD 14 lq))),hu_B97_27,hu_A98_27,hu_c98_27] at hst27
   simp only [ed 97 ((dTn (hD 6 lq)).1),ed 98 ((dTn (hD 7 lq)).1),hu_B97_27,hu_A98_27,hu_c98_27] at hfr
   clear hD hu_B97_27 hu_A98_27 hu_c98_27; subst hfr; clear σ β X
   refine then_normal (wpIn_ret (blk_ret ?_))
   exact ⟨false, .inr ⟨rfl,rfl⟩, _,⟨(([(m_.2.1,((m_.1.es.getD j en0).2.1:Int),itB m_.1.lv xx.1.right ((m_.1.es.getD j en0).1)),(m_.2.1,((m_.1.es.getD (j+1) en0).2.1:Int),ByteArray.empty)]:List EdT)++[(xx.2.1,0,hdB xx.1.lv xx.1.right true xx.1.high)]),xx.2.1,xx.1.right,3,A98_27,c98_27,rfl,(fun r=>by rw [un_fin hall (unOk_on (by have h_:=hs15; first | exact h_ | (rw [Bool.or_false] at h_; exact h_)) hld),hah,if_pos (by omega),getD_pgN,hm_]; rfl),rfl⟩,hst27.pick [10,11,12,9,4] (by decide) rfl⟩
 ·rintro D5 W5d L5 XS_ E_ ⟨apg,an,AA,ac,hall,hah,hap,han,rfl⟩ hZ_ hst5r
  have hst5d:St w [] [eB B3_1 3 #[vi root],eB B4_1 28 #[.slice none 0 0],eB B5_1 3 #[vi 0],eB B6_1 3 #[vi 0],eB B7_2 131 #[.slice A17_2 (xs.length) c17_2],eB B8_3 84 #[vi apg,vi an.lv,vi an.right, .string an.high, .bool an.dead, .slice AA an.es.length ac,vi ((an.free:Int))],eCX A17_2 xs r7_2,E_,eDfr D5] W5d:=hst5r
  clear hst5r
  refine blk_normal (then_normal (wp_seq (wp_region_Y [0,1,3] [[1],[2],[3]] [[9],[10],[11]] [[1],[2],[3]] [.n, .n, .n] (fun ix σ β X=>match ix with | 0=>X 9=eB B4_1 28 #[.slice none 0 0] | 1=>X 10=eB B5_1 3 #[vi (-1)] | 2=>X 11=eB B6_1 3 #[vi (-1)] | _=>True) [0,4,5,6,7,8,9,10,11] [0,1,2] [] hst5d ?_ ?_ ?_)))
  ·exact fun ix _ _ _ _ _ _ hs hb hx h=>match ix,h with
   | 0,h=>by dsimp only; rw [← hx 9 rfl]; exact h
   | 1,h=>by dsimp only; rw [← hx 10 rfl]; exact h
   | 2,h=>by dsimp only; rw [← hx 11 rfl]; exact h
   | _+3, _=>trivial
  ·refine ⟨?_,?_,?_,trivial⟩
   ·refine svA fun ρ β W X cx=>?_
    exact dv_store (n:=1) rfl (cx.ou 4) (cx.co _) (by kernel_rfl) (by kernel_rfl) (by kernel_rfl) cx (cx.init 1 _ rfl) rfl (nle rfl) (by kernel_rfl) rfl rfl rfl (fun σ β' X' hs hb hx=>hx)
   ·refine svA fun ρ β W X cx=>?_
    exact dv_store (n:=1) rfl (cx.ou 5) (cx.co _) (by kernel_rfl) (by kernel_rfl) (by kernel_rfl) cx (cx.init 2 _ rfl) rfl (nle rfl) (by kernel_rfl) rfl rfl rfl (fun σ β' X' hs hb hx=>hx)
   ·refine svA fun ρ β W X cx=>?_
    exact dv_store (n:=1) rfl (cx.ou 6) (cx.co _) (by kernel_rfl) (by kernel_rfl) (by kernel_rfl) cx (cx.init 3 _ rfl) rfl (nle rfl) (by kernel_rfl) rfl rfl rfl (fun σ β' X' hs hb hx=>hx)
  intro σ β X W28 hD hst28 fr hfr
  simp only [exq 9 ((dTn (hD 0 lq))),exq 10 ((dTn (hD 1 lq))),exq 11 ((dTn (hD 2 lq)))] at hst28
  clear hD; subst hfr; clear σ β X
  refine then_normal (wp_ret ?_)
  refine bpm_take (L:=[eB B3_1 3 #[vi root],eB B7_2 131 #[.slice A17_2 (xs.length) c17_2],eB B8_3 84 #[vi apg,vi an.lv,vi an.right, .string an.high, .bool an.dead, .slice AA an.es.length ac,vi ((an.free:Int))],eCX A17_2 xs r7_2,E_,eB B4_1 28 #[.slice none 0 0],eB B5_1 3 #[vi (-1)],eB B6_1 3 #[vi (-1)]]) (hst28.pick [0,1,2,3,4,6,7,8,5] (by decide) rfl) fun Wt29 ht29=>?_
  refine ⟨.tuple #[.slice none 0 0,vi (-1),vi (-1)],(results_3 Tryz.results22 (rpc (ht29.blk 5 rfl) 0) (rpc (ht29.blk 6 rfl) 0) (rpc (ht29.blk 7 rfl) 0)),?_⟩
  have hn30:=nilrowN ht29 67 3
  simp only [List.cons_append,List.nil_append] at hn30
  exact un_ret (O:=[]) (by rw [unlF,← hZ_.2.1 rfl,← hxs,show (XS_.map pgN)=XS_.map pgN++[] from (List.append_nil _).symm,unl_skip hall]; rfl) (hn30.pick [8] (by decide) rfl)
 ·rintro D5 W5d L5 XS_ E_ ⟨O,lf,rt,on,OA,oc,hon,hun,rfl⟩ hZ_ hst5r
  have hst5d:St w [] [eB B4_1 28 #[.slice OA on oc],eB B5_1 3 #[vi lf],eB B6_1 3 #[vi rt],eO 67 3 (.slice OA on oc) on (O.flatMap edC),E_,eDfr D5] W5d:=hst5r
  clear hst5r
  refine blk_ret (then_ret ?_)
  refine bpm_take (L:=[eB B4_1 28 #[.slice OA on oc],eB B5_1 3 #[vi lf],eB B6_1 3 #[vi rt],eO 67 3 (.slice OA on oc) on (O.flatMap edC),E_]) (hst5d.pick [0,1,2,3,4,5] (by decide) rfl) fun Wt31 ht31=>?_
  refine ⟨.tuple #[.slice OA on oc,vi lf,vi rt],(results_3 Tryz.results22 (rpc (ht31.blk 0 rfl) 0) (rpc (ht31.blk 1 rfl) 0) (rpc (ht31.blk 2 rfl) 0)),?_⟩
  subst hon; obtain ⟨r_,hr_⟩:=hZ_.2.2; exact un_ret (by rw [unlF,← hr_,← hxs]; exact hun r_) (ht31.pick [3] (by decide) rfl)
end
section
open Go.RowKit
abbrev Kv:=ByteArray×Int
/-- a node: its page, the least entry that it may hold, its entries -/
structure AbN where
 pg:Int
 low:ByteArray
 es:List Kv
def rtA:List AbN→Int
 | []=> -1
 | b:: _=>b.pg
def hiA:List AbN→ByteArray
 | []=>ByteArray.empty
 | b:: _=>b.low
/-- the page holds the node, suf being the nodes behind it -/
def IsN (ps:List PgS) (lv:Int) (a:AbN) (suf:List AbN):Prop:=∃ n,ndAt ps a.pg=some n∧n.lv=lv∧n.dead=false∧n.right=rtA suf∧n.high=hiA suf∧n.es.map kv=a.es
def RepL (ps:List PgS) (lv:Int):List AbN→Prop
 | []=>True
 | a::suf=>IsN ps lv a suf∧RepL ps lv suf
-- order
theorem ops_nn (x:ByteArray):0≤opF x∧0≤osF x:=by
 unfold opF osF ppF psF
 constructor<;>split<;>omega
theorem bytesLess_nil (l:List UInt8):Op.bytesLess l []=false:=by cases l<;>rfl
theorem least_le (x:ByteArray):lessF x leastB=false:=by
 have h1:okF leastB=ByteArray.empty:=by decide
 have h2:opF leastB=0:=by decide
 have h3:osF leastB=0:=by decide
 have h4:ltB (okF x) ByteArray.empty=false:=bytesLess_nil _
 have:=ops_nn x
 unfold lessF
 rw [h1,h2,h3,h4]
 simp only [Bool.false_eq_true,if_false]
 split
 ·rfl
 ·rw [if_neg (by omega)]
  split
  ·rfl
  ·exact decide_eq_false (by omega)
theorem sort_eq:∀ {l1 l2:List Kv},l1.Perm l2→l1.Pairwise (fun x y=>lessF y.1 x.1=false)→l2.Pairwise (fun x y=>lessF x.1 y.1=true)→l1=l2
 | l1,[],hp, _, _=>List.Perm.eq_nil hp
 | [],y::l2,hp, _, _=>absurd hp.length_eq (by simp)
 | x::l1,y::l2,hp,h1,h2=>by
   have h1':=List.pairwise_cons.1 h1
   have h2':=List.pairwise_cons.1 h2
   have hxy:x=y:=by
    rcases List.mem_cons.1 (hp.mem_iff.1 (List.mem_cons_self ..):x∈y::l2) with h | hx
    ·exact h
    ·rcases List.mem_cons.1 (hp.mem_iff.2 (List.mem_cons_self ..):y∈x::l1) with h | hy
     ·exact h.symm
     ·have a:=h2'.1 x hx
      have b:=h1'.1 y hy
      rw [a] at b; cases b
   subst hxy
   rw [sort_eq ((List.perm_cons x).1 hp) h1'.2 h2'.2]
/-- an entry goes to its place -/
def insA (x:Kv):List Kv→List Kv
 | []=>[x]
 | y::l=>if lessF x.1 y.1 then x::y::l else y::insA x l
theorem insA_perm (x:Kv):∀ l,(insA x l).Perm (x::l)
 | []=>List.Perm.refl _
 | y::l=>by
   rw [insA]
   split
   ·exact List.Perm.refl _
   ·exact ((insA_perm x l).cons y).trans (List.Perm.swap _ _ _)
theorem insA_ris {x:Kv} (hx:4≤x.1.size):∀ {l:List Kv},(∀ y∈l,4≤y.1.size∧y.1≠x.1)→l.Pairwise (fun a b=>lessF a.1 b.1=true)→(insA x l).Pairwise (fun a b=>lessF a.1 b.1=true)
 | [], _, _=>List.pairwise_singleton _ _
 | y::l,h,hp=>by
   obtain ⟨h1,h2⟩:=List.pairwise_cons.1 hp
   rw [insA]
   split
   ·rename_i hl
    refine List.pairwise_cons.2 ⟨fun z hz=>?_,hp⟩
    rcases List.mem_cons.1 hz with rfl | hz
    ·exact hl
    ·exact lessF_trans hl (h1 z hz)
   ·rename_i hl
    have hl:lessF x.1 y.1=false:=by simpa using hl
    refine List.pairwise_cons.2 ⟨fun z hz=>?_,insA_ris hx (fun z hz=>h z (by simp [hz])) h2⟩
    rcases List.mem_cons.1 ((insA_perm x l).mem_iff.1 hz) with rfl | hz
    ·cases hc:lessF y.1 z.1 with
     | true=>rfl
     | false=>exact absurd (lessF_total (h y (by simp)).1 hx hc hl) (h y (by simp)).2
    ·exact h1 z hz
/-- a head that stays -/
theorem insA_head {x y:Kv} {l:List Kv} (h:lessF x.1 y.1=false):insA x (y::l)=y::insA x l:=by rw [insA,h]; rfl
/-- the entries of a node that was read, in order -/
theorem nd_srt {ps:List PgS} {x:Int} {n:NoD} (h:ndAt ps x=some n):(n.es.map kv).Pairwise (fun a b=>lessF b.1 a.1=false)∧∀ e∈n.es,4≤e.1.size:=by
 obtain ⟨h1,h2⟩:=nodF_sorted (nd_at h).2.2
 exact ⟨List.pairwise_map.2 h1,h2⟩
theorem nd_eq {ps:List PgS} {x:Int} {n:NoD} {l:List Kv} (h:ndAt ps x=some n) (hp:(n.es.map kv).Perm l) (hr:l.Pairwise (fun a b=>lessF a.1 b.1=true)):n.es.map kv=l:=sort_eq hp (nd_srt h).1 hr
-- frames
theorem RepL.mem {ps:List PgS} {lv:Int}:∀ {pre:List AbN} {a:AbN} {suf:List AbN},RepL ps lv (pre++a::suf)→IsN ps lv a suf∧RepL ps lv suf
 | [], _, _,h=>h
 | _::pre, _, _,h=>RepL.mem (pre:=pre) h.2
theorem IsN.cong {ps ps':List PgS} {lv:Int} {a:AbN} {suf suf':List AbN} (h:IsN ps lv a suf) (hn:ndAt ps' a.pg=ndAt ps a.pg) (hr:rtA suf'=rtA suf) (hh:hiA suf'=hiA suf):IsN ps' lv a suf':=by
 obtain ⟨n,h1,h2,h3,h4,h5,h6⟩:=h
 exact ⟨n,hn.trans h1,h2,h3,h4.trans hr.symm,h5.trans hh.symm,h6⟩
/-- a level none of whose pages has changed -/
theorem RepL.keep {ps ps':List PgS} {lv:Int}:∀ {l:List AbN},RepL ps lv l→(∀ a∈l,ndAt ps' a.pg=ndAt ps a.pg)→RepL ps' lv l
 | [], _, _=>trivial
 | a::l,h,hn=>⟨h.1.cong (hn a (by simp)) rfl rfl,RepL.keep h.2 fun b hb=>hn b (by simp [hb])⟩
/-- a level where one node has become others; the first of them has its page and its least entry -/
theorem RepL.repl {ps ps':List PgS} {lv:Int} {a a':AbN} {suf suf':List AbN} (hpg:a'.pg=a.pg) (hlow:a'.low=a.low) (hnew:RepL ps' lv (a'::suf')):∀ {pre:List AbN},RepL ps lv (pre++a::suf)→(∀ b∈pre,ndAt ps' b.pg=ndAt ps b.pg)→RepL ps' lv (pre++a'::suf')
 | [], _, _=>hnew
 | b::pre,h,hn=>by
   refine ⟨h.1.cong (hn b (by simp)) ?_ ?_,RepL.repl hpg hlow hnew (pre:=pre) h.2 fun c hc=>hn c (by simp [hc])⟩
   ·cases pre with
    | nil=>exact hpg
    | cons c l=>rfl
   ·cases pre with
    | nil=>exact hlow
    | cons c l=>rfl
-- valid
structure NdV (a:AbN):Prop where
 ris:a.es.Pairwise (fun x y=>lessF x.1 y.1=true)
 ge:∀ e∈a.es,lessF e.1 a.low=false
 z4:∀ e∈a.es,4≤e.1.size
 l4:4≤a.low.size
 len:a.es.length≤8
def LtA (a b:AbN):Prop:=lessF a.low b.low=true∧∀ e∈a.es,lessF e.1 b.low=true
structure LvOk (l:List AbN):Prop where
 pw:l.Pairwise LtA
 nd:∀ a∈l,NdV a
 hd:∃ a t,l=a::t∧a.low=leastB
/-- the entries of a level lead to nodes of the level below -/
def InOk (up below:List AbN):Prop:=∀ a∈up,(∃ k t,a.es=(a.low,k)::t)∧∀ e∈a.es,∃ m∈below,m.pg=e.2∧m.low=e.1
def pgsA (T:List (List AbN)):List Int:=T.flatten.map AbN.pg
structure Tr (ps:List PgS) (T:List (List AbN)) (root:Int):Prop where
 rep:∀ (k:Nat) l,T[k]? =some l→RepL ps (k:Int) l
 lv:∀ l∈T,LvOk l
 inn:∀ (k:Nat) up below,T[k+1]? =some up→T[k]? =some below→InOk up below
 top:∃ r,T.getLast?=some [r]∧r.pg=root
 dist:(pgsA T).Nodup
 ht:T.length≤200
theorem Tr.level {ps:List PgS} {T:List (List AbN)} {root:Int} (h:Tr ps T root) {k:Nat} {l:List AbN} (hk:T[k]? =some l):RepL ps (k:Int) l∧LvOk l:=⟨h.rep k l hk,h.lv l (List.mem_of_getElem? hk)⟩
/-- a node, found: its place -/
theorem Tr.node {ps:List PgS} {T:List (List AbN)} {root:Int} (h:Tr ps T root) {k:Nat} {pre suf:List AbN} {a:AbN} (hk:T[k]? =some (pre++a::suf)):∃ n,ndAt ps a.pg=some n∧n.lv=(k:Int)∧n.dead=false∧n.right=rtA suf∧n.high=hiA suf∧n.es.map kv=a.es:=(RepL.mem (h.rep k _ hk)).1
theorem pgs_mem {T:List (List AbN)} {k:Nat} {l:List AbN} {a:AbN} (hk:T[k]? =some l) (ha:a∈l):a.pg∈pgsA T:=List.mem_map.2 ⟨a,List.mem_flatten.2 ⟨l,List.mem_of_getElem? hk,ha⟩,rfl⟩
-- levels as lists
theorem lv_split {T:List (List AbN)} {k:Nat} {l:List AbN} (h:T[k]? =some l):∃ T1 T2,T=T1++l::T2∧T1.length=k∧∀ l',T.set k l'=T1++l'::T2:=by
 obtain ⟨hk,rfl⟩:=List.getElem?_eq_some_iff.1 h
 refine ⟨T.take k,T.drop (k+1),?_,by rw [List.length_take]; omega,fun l'=>?_⟩
 ·rw [List.getElem_cons_drop,List.take_append_drop]
 ·rw [List.set_eq_take_append_cons_drop,if_pos hk]
theorem pgs_app (T1:List (List AbN)) (l:List AbN) (T2:List (List AbN)):pgsA (T1++l::T2)=pgsA T1++(l.map AbN.pg++pgsA T2):=by simp [pgsA]
theorem Tr.other {ps:List PgS} {T:List (List AbN)} {root:Int} (h:Tr ps T root) {k j:Nat} {l m:List AbN} (hk:T[k]? =some l) (hj:T[j]? =some m) (hkj:k≠j) {a b:AbN} (ha:a∈l) (hb:b∈m):a.pg≠b.pg:=by
 intro e
 have key:∀ {k j:Nat} {l m:List AbN},T[k]? =some l→T[j]? =some m→k < j→∀ {a b:AbN},a∈l→b∈m→a.pg≠b.pg:=by
  intro k j l m hk hj hlt a b ha hb e
  obtain ⟨T1,T2,rfl,h1, _⟩:=lv_split hk
  have hm:m∈T2:=by
   rw [List.getElem?_append_right (by omega)] at hj
   obtain ⟨i,hi⟩:∃ i,j - T1.length=i+1:=⟨j - T1.length - 1,by omega⟩
   rw [hi,List.getElem?_cons_succ] at hj
   exact List.mem_of_getElem? hj
  have hd:=h.dist
  rw [pgs_app] at hd
  have h2:=(List.nodup_append.1 hd).2.1
  have h3:=(List.nodup_append.1 h2).2.2
  exact h3 a.pg (List.mem_map.2 ⟨a,ha,rfl⟩) b.pg (List.mem_map.2 ⟨b,List.mem_flatten.2 ⟨m,hm,hb⟩,rfl⟩) e
 rcases Nat.lt_or_ge k j with h1 | h1
 ·exact key hk hj h1 ha hb e
 ·exact key hj hk (by omega) hb ha e.symm
theorem Tr.same {ps:List PgS} {T:List (List AbN)} {root:Int} (h:Tr ps T root) {k:Nat} {pre suf:List AbN} {a:AbN} (hk:T[k]? =some (pre++a::suf)):(∀ b∈pre,b.pg≠a.pg)∧∀ b∈suf,b.pg≠a.pg:=by
 obtain ⟨T1,T2,rfl,h1, _⟩:=lv_split hk
 have hd:=h.dist
 rw [pgs_app] at hd
 have h2:=(List.nodup_append.1 (List.nodup_append.1 hd).2.1).1
 rw [List.map_append,List.map_cons] at h2
 have h3:=List.nodup_append.1 h2
 refine ⟨fun b hb e=>h3.2.2 b.pg (List.mem_map.2 ⟨b,hb,rfl⟩) a.pg (List.mem_cons_self ..) e,fun b hb e=>?_⟩
 exact (List.nodup_cons.1 h3.2.1).1 (by rw [← e]; exact List.mem_map.2 ⟨b,hb,rfl⟩)
/-- one node has become others, the first of them in its page and with its least entry -/
theorem Tr.repl {ps ps':List PgS} {T:List (List AbN)} {root:Int} (h:Tr ps T root) {k:Nat} {pre suf mid:List AbN} {a a':AbN} (hk:T[k]? =some (pre++a::suf)) (hpg:a'.pg=a.pg) (hlow:a'.low=a.low)
  (hnd:∀ q∈pgsA T,q≠a.pg→ndAt ps' q=ndAt ps q) (hrep:RepL ps' (k:Int) (a'::(mid++suf))) (hlv:LvOk (pre++a'::(mid++suf)))
  (hin:∀ k0 below,k=k0+1→T[k0]? =some below→InOk (pre++a'::(mid++suf)) below) (hmid:(mid.map AbN.pg).Nodup) (hnew:∀ b∈mid,b.pg∉pgsA T) (htop:k+1 < T.length∨mid=[]):
  Tr ps' (T.set k (pre++a'::(mid++suf))) root:=by
 obtain ⟨hkl, -⟩:=List.getElem?_eq_some_iff.1 hk
 obtain ⟨hpre,hsuf⟩:=h.same hk
 have get:∀ j l,(T.set k (pre++a'::(mid++suf)))[j]? =some l→(j=k∧l=pre++a'::(mid++suf))∨(j≠k∧T[j]? =some l):=fun j l hj=>by
  by_cases e:j=k
  ·subst e
   rw [List.getElem?_set_self hkl] at hj
   injection hj with hj
   exact .inl ⟨rfl,hj.symm⟩
  ·rw [List.getElem?_set_ne (fun e2=>e e2.symm)] at hj
   exact .inr ⟨e,hj⟩
 have hmem:∀ {j l b},T[j]? =some l→b∈l→j≠k→ndAt ps' b.pg=ndAt ps b.pg:=fun hj hb hjk=>
  hnd _ (pgs_mem hj hb) (h.other hj hk hjk hb (by simp))
 refine ⟨fun j l hj=>?_,fun l hl=>?_,fun j up below hu hb=>?_,?_,?_,by rw [List.length_set]; exact h.ht⟩
 ·rcases get j l hj with ⟨rfl,rfl⟩ | ⟨hjk,hj⟩
  ·exact RepL.repl hpg hlow hrep (h.rep _ _ hk) fun b hb=>hnd _ (pgs_mem hk (by simp [hb])) (hpre b hb)
  ·exact (h.rep j l hj).keep fun b hb=>hmem hj hb hjk
 ·obtain ⟨j,hj⟩:=List.mem_iff_getElem?.1 hl
  rcases get j l hj with ⟨_,rfl⟩ | ⟨_,hj⟩
  ·exact hlv
  ·exact h.lv l (List.mem_of_getElem? hj)
 ·rcases get _ _ hu with ⟨e1,rfl⟩ | ⟨hjk,hu2⟩
  ·rcases get _ _ hb with ⟨e2, _⟩ | ⟨_,hb⟩
   ·omega
   ·exact hin j below e1.symm hb
  ·rcases get _ _ hb with ⟨e2,rfl⟩ | ⟨_,hb⟩
   ·subst e2
    have hi:=h.inn _ _ _ hu2 hk
    intro c hc
    obtain ⟨h1,h2⟩:=hi c hc
    refine ⟨h1,fun e he=>?_⟩
    obtain ⟨m,hm,hm1,hm2⟩:=h2 e he
    rcases List.mem_append.1 hm with hm | hm
    ·exact ⟨m,by simp [hm],hm1,hm2⟩
    ·rcases List.mem_cons.1 hm with rfl | hm
     ·exact ⟨a',by simp,hpg.trans hm1,hlow.trans hm2⟩
     ·exact ⟨m,by simp [hm],hm1,hm2⟩
   ·exact h.inn j _ _ hu2 hb
 ·obtain ⟨r,hr1,hr2⟩:=h.top
  rw [List.getLast?_eq_getElem?] at hr1
  by_cases ek:k=T.length - 1
  ·have e:mid=[]:=htop.resolve_left (by omega)
   subst e
   rw [← ek,hk] at hr1
   injection hr1 with hr1
   have hl:pre=[]∧a=r∧suf=[]:=by
    cases pre with
    | nil=>injection hr1 with h1 h2; exact ⟨rfl,h1,h2⟩
    | cons c l=>exact absurd (congrArg List.length hr1) (by simp)
   obtain ⟨rfl,rfl,rfl⟩:=hl
   refine ⟨a',?_,hpg.trans hr2⟩
   rw [List.getLast?_eq_getElem?,List.length_set,← ek,List.getElem?_set_self hkl]; rfl
  ·refine ⟨r,?_,hr2⟩
   rw [List.getLast?_eq_getElem?,List.length_set,List.getElem?_set_ne ek]; exact hr1
 ·obtain ⟨T1,T2,e1,h1,h2⟩:=lv_split hk
  rw [h2,pgs_app]
  have hd:=h.dist
  rw [e1,pgs_app] at hd
  have hp:(pgsA T1++((pre++a'::(mid++suf)).map AbN.pg++pgsA T2)).Perm (mid.map AbN.pg++(pgsA T1++((pre++a::suf).map AbN.pg++pgsA T2))):=by
   rw [List.perm_iff_count]
   intro x
   simp only [List.map_append,List.map_cons,hpg,List.count_append,List.count_cons]
   omega
  refine hp.nodup_iff.2 (List.nodup_append.2 ⟨hmid,hd,fun x hx y hy e=>?_⟩)
  obtain ⟨b,hb,rfl⟩:=List.mem_map.1 hx
  subst e
  exact hnew b hb (by rw [e1,pgs_app]; exact hy)
end
section
open Go.RowKit
theorem LtA.trans_low {a b c:AbN} (hb:4≤b.low.size) (hc:4≤c.low.size) (h:LtA a b) (h2:lessF c.low b.low=false):LtA a c:=⟨lessF_lt_le hb hc h.1 h2,fun e he=>lessF_lt_le hb hc (h.2 e he) h2⟩
theorem LvOk.one {pre suf:List AbN} {a a':AbN} (h:LvOk (pre++a::suf)) (hlow:a'.low=a.low) (hv:NdV a') (hs:∀ c∈suf,∀ e∈a'.es,lessF e.1 c.low=true):LvOk (pre++a'::suf):=by
 obtain ⟨p1,p2,p3⟩:=List.pairwise_append.1 h.pw
 obtain ⟨p4,p5⟩:=List.pairwise_cons.1 p2
 refine ⟨List.pairwise_append.2 ⟨p1,List.pairwise_cons.2 ⟨fun c hc=>⟨by rw [hlow]; exact (p4 c hc).1,hs c hc⟩,p5⟩,fun b hb c hc=>?_⟩,fun c hc=>?_,?_⟩
 ·rcases List.mem_cons.1 hc with rfl | hc
  ·have:=p3 b hb a (by simp)
   exact ⟨by rw [hlow]; exact this.1,fun e he=>by rw [hlow]; exact this.2 e he⟩
  ·exact p3 b hb c (by simp [hc])
 ·rcases List.mem_append.1 hc with hc | hc
  ·exact h.nd c (by simp [hc])
  ·rcases List.mem_cons.1 hc with rfl | hc
   ·exact hv
   ·exact h.nd c (by simp [hc])
 ·obtain ⟨x,t,hx,hl⟩:=h.hd
  cases pre with
  | nil=>
    injection hx with h1 h2
    exact ⟨a',suf,rfl,by rw [hlow,h1]; exact hl⟩
  | cons y l=>
    injection hx with h1 h2
    exact ⟨y,l++a'::suf,rfl,by rw [h1]; exact hl⟩
theorem LvOk.two {pre suf:List AbN} {a a' b:AbN} (h:LvOk (pre++a::suf)) (hlow:a'.low=a.low) (hv:NdV a') (hvb:NdV b) (hab:LtA a' b) (h1:∀ e∈a'.es,e∈a.es) (h2:∀ e∈b.es,e∈a.es) (h3:∃ e∈a.es,e.1=b.low):LvOk (pre++a'::b::suf):=by
 obtain ⟨p1,p2,p3⟩:=List.pairwise_append.1 h.pw
 obtain ⟨p4,p5⟩:=List.pairwise_cons.1 p2
 obtain ⟨e0,he0,hl0⟩:=h3
 have hA:=h.nd a (by simp)
 refine ⟨List.pairwise_append.2 ⟨p1,List.pairwise_cons.2 ⟨fun c hc=>?_,List.pairwise_cons.2 ⟨fun c hc=>?_,p5⟩⟩,fun c hc d hd=>?_⟩,fun c hc=>?_,?_⟩
 ·rcases List.mem_cons.1 hc with rfl | hc
  ·exact hab
  ·exact ⟨by rw [hlow]; exact (p4 c hc).1,fun e he=>(p4 c hc).2 e (h1 e he)⟩
 ·exact ⟨by rw [← hl0]; exact (p4 c hc).2 e0 he0,fun e he=>(p4 c hc).2 e (h2 e he)⟩
 ·have hca:=p3 c hc a (by simp)
  rcases List.mem_cons.1 hd with rfl | hd
  ·exact ⟨by rw [hlow]; exact hca.1,fun e he=>by rw [hlow]; exact hca.2 e he⟩
  ·rcases List.mem_cons.1 hd with rfl | hd
   ·exact hca.trans_low hA.l4 hvb.l4 (by rw [← hl0]; exact hA.ge e0 he0)
   ·exact p3 c hc d (by simp [hd])
 ·rcases List.mem_append.1 hc with hc | hc
  ·exact h.nd c (by simp [hc])
  ·rcases List.mem_cons.1 hc with rfl | hc
   ·exact hv
   ·rcases List.mem_cons.1 hc with rfl | hc
    ·exact hvb
    ·exact h.nd c (by simp [hc])
 ·obtain ⟨x,t,hx,hl⟩:=h.hd
  cases pre with
  | nil=>
    injection hx with h1 h2
    exact ⟨a',b::suf,rfl,by rw [hlow,h1]; exact hl⟩
  | cons y l=>
    injection hx with h1 h2
    exact ⟨y,l++a'::b::suf,rfl,by rw [h1]; exact hl⟩
theorem has_ne {es:List EnD} {x:ByteArray} (h:hasE es x=false):∀ e∈es,e.1≠x:=fun e he e2=>by
 have:=List.any_eq_false.1 h e he
 rw [e2] at this
 simp at this
theorem has_in {es:List EnD} {x:ByteArray} (h:hasE es x=true):∃ e∈es,e.1=x:=by
 obtain ⟨e,he,h1⟩:=List.any_eq_true.1 h
 refine ⟨e,he,bl_inj ?_⟩
 rw [beq_iff_eq,ByteArray.toList_eq,ByteArray.toList_eq] at h1
 exact h1
/-- the next nodes lie behind the bound of the first of them -/
theorem LvOk.behind {pre suf:List AbN} {a:AbN} (h:LvOk (pre++a::suf)) {x:ByteArray} (hx:∀ b t,suf=b::t→lessF x b.low=true):∀ c∈suf,lessF x c.low=true:=fun c hc=>by
 obtain ⟨_,p2, _⟩:=List.pairwise_append.1 h.pw
 have p5:=(List.pairwise_cons.1 p2).2
 cases suf with
 | nil=>cases hc
 | cons b t=>
   rcases List.mem_cons.1 hc with rfl | hc
   ·exact hx _ _ rfl
   ·exact lessF_trans (hx _ _ rfl) ((List.pairwise_cons.1 p5).1 c hc).1
theorem Tr.pg_lt {ps:List PgS} {T:List (List AbN)} {root:Int} (h:Tr ps T root) {q:Int} (hq:q∈pgsA T):0≤q∧q < ps.length:=by
 obtain ⟨a,ha,rfl⟩:=List.mem_map.1 hq
 obtain ⟨l,hl,hal⟩:=List.mem_flatten.1 ha
 obtain ⟨k,hk⟩:=List.mem_iff_getElem?.1 hl
 obtain ⟨pre,suf,rfl⟩:=List.append_of_mem hal
 obtain ⟨n,hn, _⟩:=h.node hk
 exact ⟨(nd_at hn).1,(nd_at hn).2.1⟩
/-- the kid that is stored with an entry of level k -/
def kidA (k:Nat) (kid:Int):Int:=if 0 < (k:Int) then kid else -1
theorem Tr.put {ps:List PgS} {T:List (List AbN)} {root kid:Int} (h:Tr ps T root) {k:Nat} {pre suf:List AbN} {a:AbN} {n:NoD} {x:ByteArray} (hk:T[k]? =some (pre++a::suf)) (hn:ndAt ps a.pg=some n) (h4:4≤x.size) (hge:lessF x a.low=false)
  (hlt:∀ b t,suf=b::t→lessF x b.low=true) (hno:hasE n.es x=false) (h8:n.es.length < 8) (hps:ps.length≤60000) (hkid:∀ k0,k=k0+1→∃ below m,T[k0]? =some below∧m∈below∧m.pg=kid∧m.low=x):
  Tr (doB ps [(a.pg,(n.free:Int),itB (k:Int) kid x)]) (T.set k (pre++⟨a.pg,a.low,insA (x,kidA k kid) a.es⟩::suf)) root:=by
 obtain ⟨n0,hn0,hlv,hdd,hrt,hhi,hes⟩:=h.node hk
 rw [hn] at hn0
 injection hn0 with hn0
 subst hn0
 obtain ⟨hrep,hL⟩:=h.level hk
 have hA:=hL.nd a (by simp)
 have hb:0 < n.lv→0≤kid∧kid < 65536:=fun h0=>by
  obtain ⟨k0,rfl⟩:∃ k0,k=k0+1:=⟨k - 1,by omega⟩
  obtain ⟨below,m,hm1,hm2,hm3, _⟩:=hkid k0 rfl
  have:=h.pg_lt (pgs_mem hm1 hm2)
  omega
 obtain ⟨n',q1,⟨q2,q3,q4,q5⟩,q6⟩:=put_nd hn (by omega) hb h4
 rw [hlv] at q1 q6
 have hne:∀ y∈a.es,4≤y.1.size∧y.1≠x:=fun y hy=>by
  refine ⟨hA.z4 y hy,?_⟩
  rw [← hes] at hy
  obtain ⟨e,he,rfl⟩:=List.mem_map.1 hy
  exact has_ne hno e he
 have hris:=insA_ris (x:=(x,kidA k kid)) h4 hne hA.ris
 have hes':n'.es.map kv=insA (x,kidA k kid) a.es:=by
  refine nd_eq q1 ?_ hris
  refine (q6.map kv).trans ?_
  rw [List.map_cons,hes]
  exact (insA_perm _ _).symm
 have hbeh:=hL.behind hlt
 obtain ⟨_,pp, _⟩:=List.pairwise_append.1 hL.pw
 have hsuf:=(List.pairwise_cons.1 pp).1
 have hins:∀ e,e∈insA (x,kidA k kid) a.es→e=(x,kidA k kid)∨e∈a.es:=fun e he=>List.mem_cons.1 ((insA_perm _ _).mem_iff.1 he)
 have hv:NdV ⟨a.pg,a.low,insA (x,kidA k kid) a.es⟩:=by
  refine ⟨hris,fun e he=>?_,fun e he=>?_,hA.l4,?_⟩
  ·rcases hins e he with rfl | he
   ·exact hge
   ·exact hA.ge e he
  ·rcases hins e he with rfl | he
   ·exact h4
   ·exact hA.z4 e he
  ·have:=(insA_perm (x,kidA k kid) a.es).length_eq
   show (insA (x,kidA k kid) a.es).length≤8
   rw [this,List.length_cons,← hes,List.length_map]; omega
 have hother:∀ q,q≠a.pg→ndAt (doB ps [(a.pg,(n.free:Int),itB (k:Int) kid x)]) q=ndAt ps q:=fun q hq=>nd_other fun e he=>by rw [List.mem_singleton.1 he]; exact fun e=>hq e.symm
 refine h.repl (mid:=[]) (a':=⟨a.pg,a.low,insA (x,kidA k kid) a.es⟩) hk rfl rfl (fun q _ hq=>hother q hq) ⟨⟨n',q1,q2.trans hlv,q5.trans hdd,q3.trans hrt,q4.trans hhi,hes'⟩,?_⟩ ?_ ?_ (List.nodup_nil) (fun b hb=>nomatch hb) (.inr rfl)
 ·exact (RepL.mem hrep).2.keep fun b hb=>hother _ ((h.same hk).2 b hb)
 ·exact hL.one rfl hv fun c hc e he=>by
   rcases hins e he with rfl | he
   ·exact hbeh c hc
   ·exact (hsuf c hc).2 e he
 ·rintro k0 below rfl hb0 c hc
  have hin:=h.inn k0 _ _ hk hb0
  rcases List.mem_append.1 hc with hc | hc
  ·exact hin c (by simp [hc])
  ·rcases List.mem_cons.1 hc with rfl | hc
   ·obtain ⟨⟨k1,t,h1⟩,h2⟩:=hin a (by simp)
    refine ⟨⟨k1,insA (x,kidA (k0+1) kid) t,?_⟩,fun e he=>?_⟩
    ·show insA (x,kidA (k0+1) kid) a.es=(a.low,k1)::insA (x,kidA (k0+1) kid) t
     rw [h1,insA_head hge]
    ·rcases hins e he with rfl | he
     ·obtain ⟨below',m,hm1,hm2,hm3,hm4⟩:=hkid k0 rfl
      rw [hb0] at hm1
      injection hm1 with hm1
      subst hm1
      exact ⟨m,hm2,by rw [hm3,kidA,if_pos (by omega)],hm4⟩
     ·exact h2 e he
   ·have hc:c∈suf:=hc
    exact hin c (by simp [hc])
theorem take_ris {l:List Kv} (m:Nat) (h:l.Pairwise (fun x y=>lessF x.1 y.1=true)):(l.take m).Pairwise (fun x y=>lessF x.1 y.1=true)∧(l.drop m).Pairwise (fun x y=>lessF x.1 y.1=true)∧∀ x∈l.take m,∀ y∈l.drop m,lessF x.1 y.1=true:=by
 rw [← List.take_append_drop m l] at h
 exact List.pairwise_append.1 h
theorem Tr.cut {ps:List PgS} {T:List (List AbN)} {root fresh:Int} (h:Tr ps T root) {k:Nat} {pre suf:List AbN} {a:AbN} {n:NoD} (hk:T[k]? =some (pre++a::suf)) (hn:ndAt ps a.pg=some n) (h8:¬ n.es.length < 8) (htop:k+1 < T.length)
  (hits:∀ p∈ps,p.2.2.length≤101) (hps:ps.length≤60000) (hf0:0≤fresh) (hf1:fresh < ps.length) (hff:fresh∉pgsA T):
  Tr (doB ps (cutE a.pg n fresh)) (T.set k (pre++⟨a.pg,a.low,a.es.take 4⟩::⟨fresh,midE n,a.es.drop 4⟩::suf)) root∧a.es.length=8∧∃ kd t,a.es.drop 4=(midE n,kd)::t:=by
 obtain ⟨n0,hn0,hlv,hdd,hrt,hhi,hes⟩:=h.node hk
 rw [hn] at hn0
 injection hn0 with hn0
 subst hn0
 obtain ⟨hrep,hL⟩:=h.level hk
 have hA:=hL.nd a (by simp)
 have hlen:n.es.length=a.es.length:=by rw [← hes,List.length_map]
 have hl8:a.es.length=8:=by have:=hA.len; omega
 have hhalf:n.es.length / 2=4:=by omega
 have hg:(n.es.getD 4 (ByteArray.empty,0,0)).1=midE n:=by rw [midE,hhalf]
 have hn4:4 < n.es.length:=by omega
 have hmid:n.es[4]'hn4∈n.es:=List.getElem_mem _
 have hmE:midE n=(n.es[4]'hn4).1:=by rw [← hg,List.getD_eq_getElem?_getD,List.getElem?_eq_getElem hn4]; rfl
 have hm4:4≤(midE n).size:=by rw [hmE]; exact (nd_srt hn).2 _ hmid
 have hdrop:a.es.drop 4=(midE n,(n.es[4]'hn4).2.2)::a.es.drop 5:=by
  rw [← hes,← List.map_drop,List.drop_eq_getElem_cons hn4,List.map_cons,← List.map_drop,hmE]; rfl
 obtain ⟨hp0,hp1, _⟩:=nd_at hn
 have hne:fresh≠a.pg:=fun e=>hff (by rw [e]; exact pgs_mem hk (by simp))
 obtain ⟨⟨n1,f1,f2,f3,f4,f5,f6⟩,⟨n2,c1,c2,c3,c4,c5,c6⟩,hoth⟩:=cut_nd hn (hits _ (getD_mem' (l:=ps) (n:=a.pg.toNat) (d:=pgs0) (by omega)).2) hf0 hf1 hps hne (by omega) hm4
 obtain ⟨r1,r2,r3⟩:=take_ris 4 hA.ris
 have hmem:(midE n,(n.es[4]'hn4).2.2)∈a.es:=List.mem_of_mem_drop (by rw [hdrop]; exact List.mem_cons_self ..)
 have e1:n1.es.map kv=a.es.drop 4:=nd_eq f1 (by rw [hhalf] at f6; refine f6.trans (List.Perm.of_eq ?_); rw [List.map_drop,hes]) r2
 have e2:n2.es.map kv=a.es.take 4:=nd_eq c1 (by rw [hhalf] at c6; refine (c6.map kv).trans (List.Perm.of_eq ?_); rw [List.map_take,hes]) r1
 have hv1:NdV ⟨a.pg,a.low,a.es.take 4⟩:=⟨r1,fun e he=>hA.ge e (List.mem_of_mem_take he),fun e he=>hA.z4 e (List.mem_of_mem_take he),hA.l4,by show (a.es.take 4).length≤8; rw [List.length_take]; omega⟩
 have hvb:NdV ⟨fresh,midE n,a.es.drop 4⟩:=by
  refine ⟨r2,fun e he=>?_,fun e he=>hA.z4 e (List.mem_of_mem_drop he),hm4,by show (a.es.drop 4).length≤8; rw [List.length_drop]; omega⟩
  show lessF e.1 (midE n)=false
  rw [hdrop] at he r2
  rcases List.mem_cons.1 he with rfl | he
  ·exact lessF_irr _
  ·exact lessF_asym ((List.pairwise_cons.1 r2).1 e he)
 have hab:LtA ⟨a.pg,a.low,a.es.take 4⟩ ⟨fresh,midE n,a.es.drop 4⟩:=by
  have hz:0 < (a.es.take 4).length:=by rw [List.length_take]; omega
  have key:∀ e∈a.es.take 4,lessF e.1 (midE n)=true:=fun e he=>r3 e he _ (by rw [hdrop]; exact List.mem_cons_self ..)
  have h0:=List.getElem_mem hz
  exact ⟨lessF_le_lt hA.l4 (hA.z4 _ (List.mem_of_mem_take h0)) (hA.ge _ (List.mem_of_mem_take h0)) (key _ h0),key⟩
 refine ⟨?_,hl8, _, _,hdrop⟩
 refine h.repl (mid:=[⟨fresh,midE n,a.es.drop 4⟩]) (a':=⟨a.pg,a.low,a.es.take 4⟩) hk rfl rfl (fun q hq hqa=>hoth q (fun e=>hff (e ▸ hq)) hqa) ⟨⟨n2,c1,c2.trans hlv,c5,c3,c4,e2⟩,⟨n1,f1,f2.trans hlv,f5,f3.trans hrt,f4.trans hhi,e1⟩,?_⟩ ?_ ?_ (by simp) (fun b hb=>by rw [List.mem_singleton.1 hb]; exact hff) (.inl htop)
 ·exact (RepL.mem hrep).2.keep fun b hb=>hoth _ (fun e=>hff (by rw [← e]; exact pgs_mem hk (by simp [hb]))) ((h.same hk).2 b hb)
 ·exact hL.two rfl hv1 hvb hab (fun e he=>List.mem_of_mem_take he) (fun e he=>List.mem_of_mem_drop he) ⟨_,hmem,rfl⟩
 ·rintro k0 below rfl hb0 c hc
  have hin:=h.inn k0 _ _ hk hb0
  obtain ⟨⟨k1,t,h1⟩,h2⟩:=hin a (by simp)
  rcases List.mem_append.1 hc with hc | hc
  ·exact hin c (by simp [hc])
  ·rcases List.mem_cons.1 hc with rfl | hc
   ·refine ⟨⟨k1,t.take 3,?_⟩,fun e he=>h2 e (List.mem_of_mem_take he)⟩
    show a.es.take 4= _
    rw [h1]; rfl
   ·rcases List.mem_cons.1 hc with rfl | hc
    ·exact ⟨⟨_, _,hdrop⟩,fun e he=>h2 e (List.mem_of_mem_drop he)⟩
    ·have hc:c∈suf:=hc
     exact hin c (by simp [hc])
theorem nodup_bd:∀ (n:Nat) (l:List Int),l.Nodup→(∀ x∈l,0≤x∧x < (n:Int))→l.length≤n
 | 0,l, _,h=>by
   cases l with
   | nil=>exact Nat.le_refl _
   | cons x l=>have:=h x (by simp); omega
 | n+1,l,hd,h=>by
   have h1:=nodup_bd n (l.erase (n:Int)) (hd.erase _) fun x hx=>by
    have h2:=h x (List.mem_of_mem_erase hx)
    have h3:x≠(n:Int):=fun e=>by rw [e] at hx; exact (List.Nodup.not_mem_erase hd) hx
    omega
   have h4:=List.length_erase (a:=(n:Int)) (l:=l)
   split at h4<;>omega
theorem pgs_snoc (T:List (List AbN)) (l:List AbN):pgsA (T++[l])=pgsA T++l.map AbN.pg:=by simp [pgsA]
theorem lvs_le:∀ (T:List (List AbN)),(∀ l∈T,l≠[])→T.length≤(pgsA T).length
 | [], _=>Nat.zero_le _
 | l::T,h=>by
   have h1:=lvs_le T fun m hm=>h m (by simp [hm])
   have h2:0 < l.length:=List.length_pos_iff.2 (h l (by simp))
   have h3:pgsA (l::T)=l.map AbN.pg++pgsA T:=by simp [pgsA]
   rw [h3,List.length_append,List.length_map,List.length_cons]; omega
/-- pages, levels: no more than the book's -/
theorem Tr.bd {ps:List PgS} {T:List (List AbN)} {root:Int} (h:Tr ps T root):(pgsA T).length≤ps.length∧T.length≤(pgsA T).length:=by
 refine ⟨nodup_bd _ _ h.dist fun x hx=>h.pg_lt hx,lvs_le T fun l hl e=>?_⟩
 obtain ⟨a,t,h1, _⟩:=(h.lv l hl).hd
 rw [e] at h1; cases h1
/-- the level of the root -/
theorem Tr.root {ps:List PgS} {T:List (List AbN)} {root:Int} (h:Tr ps T root):∃ T0 r,T=T0++[[r]]∧r.pg=root∧r.low=leastB∧T[T0.length]? =some [r]:=by
 obtain ⟨r,h1,h2⟩:=h.top
 obtain ⟨T0,rfl⟩:=List.getLast?_eq_some_iff.1 h1
 obtain ⟨a,t,h3,h4⟩:=(h.lv [r] (by simp)).hd
 injection h3 with h3 _
 exact ⟨T0,r,rfl,h2,by rw [h3]; exact h4,by simp⟩
theorem Tr.grow {ps:List PgS} {T0:List (List AbN)} {root fresh:Int} {r:AbN} {n:NoD} (h:Tr ps (T0++[[r]]) root) (hr:r.pg=root) (hn:ndAt ps root=some n) (hits:∀ p∈ps,p.2.2.length≤101) (hps:ps.length≤150) (hf0:0≤fresh) (hf1:fresh < ps.length) (hff:fresh∉pgsA (T0++[[r]])):
  Tr (doB ps (growE root n fresh)) (T0++[[⟨fresh,r.low,r.es⟩],[⟨root,leastB,[(leastB,fresh)]⟩]]) root:=by
 have hk:(T0++[[r]])[T0.length]? =some ([]++r::[]):=by simp
 obtain ⟨n0,hn0,hlv,hdd,hrt,hhi,hes⟩:=h.node hk
 rw [hr,hn] at hn0
 injection hn0 with hn0
 subst hn0
 obtain ⟨hrep,hL⟩:=h.level hk
 have hA:=hL.nd r (by simp)
 have hlow:r.low=leastB:=by
  obtain ⟨a,t,h1,h2⟩:=hL.hd
  injection h1 with h1 _
  rw [h1]; exact h2
 obtain ⟨hp0,hp1, _⟩:=nd_at hn
 have hne:fresh≠root:=fun e=>hff (by rw [e,← hr]; exact pgs_mem hk (by simp))
 have hbd:=h.bd
 have hht:(T0++[[r]]).length=T0.length+1:=by simp
 have hlen:n.es.length=r.es.length:=by rw [← hes,List.length_map]
 have hl8:=hA.len
 obtain ⟨⟨n1,f1,f2,f3,f4,f5,f6⟩,⟨n2,c1,c2,c3,c4,c5,c6⟩,hoth⟩:=grow_nd hn (hits _ (getD_mem' (l:=ps) (n:=root.toNat) (d:=pgs0) (by omega)).2) hf0 hf1 (by omega) hne (by omega) (by omega)
 have e1:n1.es.map kv=r.es:=nd_eq f1 (f6.trans (List.Perm.of_eq hes)) hA.ris
 have hl4:4≤leastB.size:=by rw [leastB_size]; omega
 have hother:∀ {j:Nat} {l:List AbN} {b:AbN},T0[j]? =some l→b∈l→ndAt (doB ps (growE root n fresh)) b.pg=ndAt ps b.pg:=fun {j l b} hj hb=>by
  have hjl:=(List.getElem?_eq_some_iff.1 hj).1
  have hj':(T0++[[r]])[j]? =some l:=by rw [List.getElem?_append_left hjl]; exact hj
  refine hoth _ (fun e=>hff (by rw [← e]; exact pgs_mem hj' hb)) ?_
  have:=h.other hj' hk (by omega) hb (b:=r) (by simp)
  rw [hr] at this; exact this
 have get:∀ (j:Nat) l,(T0++[[⟨fresh,r.low,r.es⟩],[⟨root,leastB,[(leastB,fresh)]⟩]])[j]? =some l→(T0[j]? =some l∧j < T0.length)∨(j=T0.length∧l=[⟨fresh,r.low,r.es⟩])∨(j=T0.length+1∧l=[⟨root,leastB,[(leastB,fresh)]⟩]):=fun j l hj=>by
  rcases Nat.lt_or_ge j T0.length with h1 | h1
  ·rw [List.getElem?_append_left h1] at hj; exact .inl ⟨hj,h1⟩
  ·rw [List.getElem?_append_right h1] at hj
   obtain ⟨i,hi⟩:∃ i,j - T0.length=i:=⟨_,rfl⟩
   rw [hi] at hj
   match i with
   | 0=>injection hj with hj; exact .inr (.inl ⟨by omega,hj.symm⟩)
   | 1=>injection hj with hj; exact .inr (.inr ⟨by omega,hj.symm⟩)
   | i+2=>cases hj
 refine ⟨fun j l hj=>?_,fun l hl=>?_,fun j up below hu hb=>?_,⟨⟨root,leastB,[(leastB,fresh)]⟩,by simp,rfl⟩,?_,by simp; omega⟩
 ·rcases get j l hj with ⟨hj,hjl⟩ | ⟨rfl,rfl⟩ | ⟨rfl,rfl⟩
  ·exact (h.rep j l (by rw [List.getElem?_append_left hjl]; exact hj)).keep fun b hb=>hother hj hb
  ·exact ⟨⟨n1,f1,f2.trans hlv,f5,f3,f4,e1⟩,trivial⟩
  ·exact ⟨⟨n2,c1,by rw [c2,hlv]; rfl,c5,c3,c4,c6⟩,trivial⟩
 ·obtain ⟨j,hj⟩:=List.mem_iff_getElem?.1 hl
  rcases get j l hj with ⟨hj,hjl⟩ | ⟨rfl,rfl⟩ | ⟨rfl,rfl⟩
  ·exact h.lv l (List.mem_append_left _ (List.mem_of_getElem? hj))
  ·exact ⟨List.pairwise_singleton _ _,fun a ha=>by rw [List.mem_singleton.1 ha]; exact ⟨hA.ris,hA.ge,hA.z4,hA.l4,hA.len⟩, _, _,rfl,hlow⟩
  ·refine ⟨List.pairwise_singleton _ _,fun a ha=>?_, _, _,rfl,rfl⟩
   rw [List.mem_singleton.1 ha]
   exact ⟨List.pairwise_singleton _ _,fun e he=>by rw [List.mem_singleton.1 he]; exact lessF_irr _,fun e he=>by rw [List.mem_singleton.1 he]; exact hl4,hl4,by simp⟩
 ·rcases get _ _ hu with ⟨hu,hul⟩ | ⟨e1,rfl⟩ | ⟨e1,rfl⟩
  ·rcases get _ _ hb with ⟨hb,hbl⟩ | ⟨e2, _⟩ | ⟨e2, _⟩
   ·exact h.inn j _ _ (by rw [List.getElem?_append_left hul]; exact hu) (by rw [List.getElem?_append_left hbl]; exact hb)
   ·omega
   ·omega
  ·rcases get _ _ hb with ⟨hb,hbl⟩ | ⟨e2, _⟩ | ⟨e2, _⟩
   ·have hi:=h.inn j [r] below (by rw [e1]; exact hk) (by rw [List.getElem?_append_left hbl]; exact hb)
    intro c hc
    rw [List.mem_singleton.1 hc]
    exact hi r (by simp)
   ·omega
   ·omega
  ·rcases get _ _ hb with ⟨hb,hbl⟩ | ⟨e2,rfl⟩ | ⟨e2, _⟩
   ·omega
   ·intro c hc
    rw [List.mem_singleton.1 hc]
    refine ⟨⟨fresh,[],rfl⟩,fun e he=>?_⟩
    rw [List.mem_singleton.1 he]
    exact ⟨⟨fresh,r.low,r.es⟩,by simp,rfl,hlow⟩
   ·omega
 ·have hd:=h.dist
  rw [pgs_snoc] at hd hff
  have e3:pgsA (T0++[[⟨fresh,r.low,r.es⟩],[⟨root,leastB,[(leastB,fresh)]⟩]])=pgsA T0++[fresh,root]:=by simp [pgsA]
  rw [e3]
  have hp:(pgsA T0++[fresh,root]).Perm (fresh::(pgsA T0++[r].map AbN.pg)):=by
   rw [show [r].map AbN.pg=[root] by rw [← hr]; rfl]
   exact List.perm_middle
  exact hp.nodup_iff.2 (List.nodup_cons.2 ⟨hff,hd⟩)
end
section
open Go.RowKit
def PosOk (T:List (List AbN)) (pos:Int) (x:ByteArray) (tl:Int):Prop:=∃ (k:Nat) (l:List AbN) (a:AbN),T[k]? =some l∧a∈l∧a.pg=pos∧tl≤(k:Int)∧lessF x a.low=false
def TaskOk (T:List (List AbN)) (t:TaT):Prop:=4≤t.1.size∧(t.2.1=0∨∃ (j:Nat) (below:List AbN) (m:AbN),t.2.1=(j:Int)+1∧j+1 < T.length∧T[j]? =some below∧m∈below∧m.pg=t.2.2∧m.low=t.1)
structure InsOk (T:List (List AbN)) (root:Int) (p:PuT):Prop where
 rt:p.root=root
 pos:∀ t l,p.left=t::l→PosOk T p.pos t.1 t.2.1
 tasks:∀ t∈p.left,TaskOk T t
/-- places and pending entries stay good -/
structure Evo (T T':List (List AbN)):Prop where
 pos:∀ pos x tl,PosOk T pos x tl→PosOk T' pos x tl
 task:∀ t,TaskOk T t→TaskOk T' t
theorem Evo.refl (T:List (List AbN)):Evo T T:=⟨fun _ _ _ h=>h,fun _ h=>h⟩
theorem Evo.repl {T:List (List AbN)} {k:Nat} {pre suf mid:List AbN} {a a':AbN} (hk:T[k]? =some (pre++a::suf)) (hpg:a'.pg=a.pg) (hlow:a'.low=a.low):Evo T (T.set k (pre++a'::(mid++suf))):=by
 obtain ⟨hkl, -⟩:=List.getElem?_eq_some_iff.1 hk
 have get:∀ (j:Nat) l (c:AbN),T[j]? =some l→c∈l→∃ l' c',(T.set k (pre++a'::(mid++suf)))[j]? =some l'∧c'∈l'∧c'.pg=c.pg∧c'.low=c.low:=fun j l c hj hc=>by
  by_cases e:j=k
  ·subst e
   rw [hk] at hj
   injection hj with hj
   subst hj
   refine ⟨pre++a'::(mid++suf),?_⟩
   rw [List.getElem?_set_self hkl]
   rcases List.mem_append.1 hc with hc | hc
   ·exact ⟨c,rfl,by simp [hc],rfl,rfl⟩
   ·rcases List.mem_cons.1 hc with rfl | hc
    ·exact ⟨a',rfl,by simp,hpg,hlow⟩
    ·exact ⟨c,rfl,by simp [hc],rfl,rfl⟩
  ·exact ⟨l,c,by rw [List.getElem?_set_ne (fun e2=>e e2.symm)]; exact hj,hc,rfl,rfl⟩
 refine ⟨fun pos x tl h=>?_,fun t h=>⟨h.1,?_⟩⟩
 ·obtain ⟨j,l,c,hj,hc,h1,h2,h3⟩:=h
  obtain ⟨l',c',g1,g2,g3,g4⟩:=get j l c hj hc
  exact ⟨j,l',c',g1,g2,g3.trans h1,h2,by rw [g4]; exact h3⟩
 ·rcases h.2 with h0 | ⟨j,l,c,h1,h2,hj,hc,h3,h4⟩
  ·exact .inl h0
  ·obtain ⟨l',c',g1,g2,g3,g4⟩:=get j l c hj hc
   exact .inr ⟨j,l',c',h1,by rw [List.length_set]; exact h2,g1,g2,g3.trans h3,g4.trans h4⟩
theorem Evo.grow {T0:List (List AbN)} {root fresh:Int} {r:AbN} (hr:r.pg=root):Evo (T0++[[r]]) (T0++[[⟨fresh,r.low,r.es⟩],[⟨root,leastB,[(leastB,fresh)]⟩]]):=by
 have old:∀ {j:Nat} {l:List AbN},(T0++[[r]])[j]? =some l→(j < T0.length∧(T0++[[⟨fresh,r.low,r.es⟩],[⟨root,leastB,[(leastB,fresh)]⟩]])[j]? =some l)∨(j=T0.length∧l=[r]):=fun {j l} hj=>by
  rcases Nat.lt_or_ge j T0.length with h1 | h1
  ·rw [List.getElem?_append_left h1] at hj
   exact .inl ⟨h1,by rw [List.getElem?_append_left h1]; exact hj⟩
  ·rw [List.getElem?_append_right h1] at hj
   obtain ⟨i,hi⟩:∃ i,j - T0.length=i:=⟨_,rfl⟩
   rw [hi] at hj
   match i with
   | 0=>injection hj with hj; exact .inr ⟨by omega,hj.symm⟩
   | i+1=>cases hj
 refine ⟨fun pos x tl h=>?_,fun t h=>⟨h.1,?_⟩⟩
 ·obtain ⟨j,l,c,hj,hc,h1,h2,h3⟩:=h
  rcases old hj with ⟨_,hj⟩ | ⟨rfl,rfl⟩
  ·exact ⟨j,l,c,hj,hc,h1,h2,h3⟩
  ·rw [List.mem_singleton] at hc
   subst hc
   refine ⟨T0.length+1,[⟨root,leastB,[(leastB,fresh)]⟩], _,?_,List.mem_singleton.2 rfl,hr.symm.trans h1,by omega,least_le _⟩
   rw [List.getElem?_append_right (by omega),show T0.length+1 - T0.length=1 by omega]; rfl
 ·rcases h.2 with h0 | ⟨j,l,c,h1,h2,hj,hc,h3,h4⟩
  ·exact .inl h0
  ·rcases old hj with ⟨h5,hj⟩ | ⟨rfl,rfl⟩
   ·exact .inr ⟨j,l,c,h1,by simp at h2 ⊢; omega,hj,hc,h3,h4⟩
   ·simp at h2
/-- one node on: to the right, or down -/
inductive Mv (T:List (List AbN)) (tl:Int) (pos pos':Int):Prop
 | right (k:Nat) (pre suf:List AbN) (a b:AbN) (hk:T[k]? =some (pre++a::b::suf)) (h1:a.pg=pos) (h2:b.pg=pos') (h3:tl≤(k:Int))
 | down (k:Nat) (l below:List AbN) (a m:AbN) (hk:T[k+1]? =some l) (ha:a∈l) (hb:T[k]? =some below) (hm:m∈below) (h1:a.pg=pos) (h2:m.pg=pos') (h3:tl≤(k:Int))
/-- what a step does -/
inductive Out (T T':List (List AbN)) (p p':PuT) (g:GoT) (fresh:Int):Prop
 | idle (h:p.left=[]) (hT:T'=T) (hl:p'.left=[]) (hf:p'.leaf=p.leaf) (hu:g.used=false) (he:g.eds=[])
 | move (t:TaT) (l:List TaT) (h:p.left=t::l) (hT:T'=T) (hl:p'.left=t::l) (hf:p'.leaf=p.leaf) (hu:g.used=false) (he:g.eds=[]) (hm:Mv T t.2.1 p.pos p'.pos)
 | there (t:TaT) (l:List TaT) (k:Nat) (pre suf:List AbN) (a:AbN) (h:p.left=t::l) (hk:t.2.1=(k:Int)) (hT:T'=T) (ht:T[k]? =some (pre++a::suf)) (hin:∃ y∈a.es,y.1=t.1) (hl:p'.left=l) (hf:p'.leaf=if k=0 then a.pg else p.leaf) (hu:g.used=false) (he:g.eds=[])
 | put (t:TaT) (l:List TaT) (k:Nat) (pre suf:List AbN) (a:AbN) (h:p.left=t::l) (hk:t.2.1=(k:Int)) (ht:T[k]? =some (pre++a::suf)) (hT:T'=T.set k (pre++⟨a.pg,a.low,insA (t.1,kidA k t.2.2) a.es⟩::suf)) (hno:∀ y∈a.es,y.1≠t.1) (hl:p'.left=l) (hf:p'.leaf=if k=0 then a.pg else p.leaf) (hu:g.used=false)
 | cut (t:TaT) (l:List TaT) (k:Nat) (pre suf:List AbN) (a:AbN) (mid:ByteArray) (h:p.left=t::l) (hk:t.2.1=(k:Int)) (ht:T[k]? =some (pre++a::suf)) (h8:a.es.length=8) (htop:k+1 < T.length) (hT:T'=T.set k (pre++⟨a.pg,a.low,a.es.take 4⟩::⟨fresh,mid,a.es.drop 4⟩::suf)) (hl:p'.left=t::l++[(mid,(k:Int)+1,fresh)]) (hf:p'.leaf=p.leaf) (hp:p'.pos=p.pos) (hpa:a.pg=p.pos) (hu:g.used=true)
 | grow (t:TaT) (l:List TaT) (T0:List (List AbN)) (r:AbN) (h:p.left=t::l) (hk:t.2.1=(T0.length:Int)) (ht:T=T0++[[r]]) (hr:r.pg=p.root) (h8:r.es.length=8) (hT:T'=T0++[[⟨fresh,r.low,r.es⟩],[⟨p.root,leastB,[(leastB,fresh)]⟩]]) (hl:p'.left=t::l) (hf:p'.leaf=p.leaf) (hp:p'.pos=fresh) (hpa:p.pos=p.root) (hu:g.used=true)
theorem ne_nil_size {b:ByteArray} (h:4≤b.size):(b.toList==(⟨#[]⟩:ByteArray).toList)=false:=by
 rw [beq_eq_false_iff_ne,ByteArray.toList_eq,ByteArray.toList_eq]
 intro e
 have h2:=bl_len b
 have h3:bl b=[]:=e
 rw [h3] at h2
 simp at h2
 omega
def sndA:List AbN→ByteArray→Bool
 | [], _=>false
 | b:: _,x=>!lessF x b.low
/-- does a node of the tree send an entry on -/
theorem snd_next {n:NoD} {suf:List AbN} {x:ByteArray} (hd:n.dead=false) (hh:n.high=hiA suf) (h4:∀ b∈suf,4≤b.low.size):sndB n.dead n.high x=sndA suf x:=by
 rw [sndB,hd,hh,Bool.false_or]
 cases suf with
 | nil=>rw [show (hiA []).toList=(⟨#[]⟩:ByteArray).toList from rfl,beq_self_eq_true]; rfl
 | cons b s=>
   show (!(b.low.toList==(⟨#[]⟩:ByteArray).toList)&&!lessF x b.low)= _
   rw [ne_nil_size (h4 b (by simp))]; rfl
theorem LvOk.l4 {l:List AbN} (h:LvOk l):∀ b∈l,4≤b.low.size:=fun b hb=>(h.nd b hb).l4
/-- down: the child whose least entry is the last that x does not stand ahead of -/
theorem down_at {es:List EnD} {x:ByteArray} (hk:∀ e∈es,0≤e.2.2) (hr:es.Pairwise (fun a b=>lessF a.1 b.1=true)) (h4:∀ e∈es,4≤e.1.size) (hx:4≤x.size) (h0:∃ e∈es,lessF x e.1=false):∃ e∈es,downF x es (-1)=e.2.2∧lessF x e.1=false:=by
 have key:∀ (r l:List EnD),es=r.reverse++l→(∀ y∈l,lessF x y.1=true)→(∃ e∈r,lessF x e.1=false)→∃ e∈es,downF x es (-1)=e.2.2∧lessF x e.1=false:=by
  intro r
  induction r with
  | nil=>rintro l _ _ ⟨e,he, _⟩; cases he
  | cons c r ih=>
    intro l he hl hex
    cases hc:lessF x c.1 with
    | false=>
      refine ⟨c,by rw [he]; simp,?_,hc⟩
      have e2:es=r.reverse++c::l:=by rw [he,List.reverse_cons,List.append_assoc]; rfl
      rw [e2]
      exact downF_hit (hk c (by rw [he]; simp)) hc hl
    | true=>
      refine ih (c::l) (by rw [he,List.reverse_cons,List.append_assoc]; rfl) (fun y hy=>?_) ?_
      ·rcases List.mem_cons.1 hy with rfl | hy
       ·exact hc
       ·exact hl y hy
      ·obtain ⟨e,he1,he2⟩:=hex
       rcases List.mem_cons.1 he1 with rfl | he1
       ·rw [hc] at he2; cases he2
       ·exact ⟨e,he1,he2⟩
 exact key es.reverse [] (by simp) (fun y hy=>nomatch hy) (by obtain ⟨e,he,h⟩:=h0; exact ⟨e,by simpa using he,h⟩)
theorem kv_mem {es:List EnD} {l:List Kv} (h:es.map kv=l) {e:EnD} (he:e∈es):(e.1,e.2.2)∈l:=by rw [← h]; exact List.mem_map.2 ⟨e,he,rfl⟩
/-- from a node of an inner level, down -/
theorem Tr.down {ps:List PgS} {T:List (List AbN)} {root:Int} (h:Tr ps T root) {k:Nat} {pre suf:List AbN} {a:AbN} {n:NoD} {x:ByteArray} (hk:T[k+1]? =some (pre++a::suf)) (hn:ndAt ps a.pg=some n) (hx:4≤x.size) (hge:lessF x a.low=false):
  ∃ below m,T[k]? =some below∧m∈below∧downF x n.es (-1)=m.pg∧lessF x m.low=false:=by
 obtain ⟨n0,hn0,hlv,hdd,hrt,hhi,hes⟩:=h.node hk
 rw [hn] at hn0
 injection hn0 with hn0
 subst hn0
 have hkl:=(List.getElem?_eq_some_iff.1 hk).1
 have hb:T[k]? =some (T[k]'(by omega)):=List.getElem?_eq_getElem (by omega)
 obtain ⟨⟨k1,t,h1⟩,h2⟩:=h.inn k _ _ hk hb a (by simp)
 have hA:=(h.level hk).2.nd a (by simp)
 have h4:=(nd_srt hn).2
 have hr:n.es.Pairwise (fun a b=>lessF a.1 b.1=true):=by have:=hA.ris; rw [← hes] at this; exact List.pairwise_map.1 this
 have hkid:=(nd_hd (nd_at hn).2.2).2.2.2
 obtain ⟨e,he,hd,hl⟩:=down_at (x:=x) (fun e he=>((hkid e he).1 (by omega)).1) hr h4 hx (by
  have hm:(a.low,k1)∈n.es.map kv:=by rw [hes,h1]; exact List.mem_cons_self ..
  obtain ⟨e,he,he2⟩:=List.mem_map.1 hm
  injection he2 with e1 e2
  exact ⟨e,he,by rw [e1]; exact hge⟩)
 obtain ⟨m,hm,hm1,hm2⟩:=h2 _ (kv_mem hes he)
 exact ⟨_,m,hb,hm,hd.trans hm1.symm,by rw [hm2]; exact hl⟩
/-- the page of the root stands in the top level alone -/
theorem Tr.at_root {ps:List PgS} {T:List (List AbN)} {root:Int} (h:Tr ps T root) {k:Nat} {l:List AbN} {a:AbN} (hk:T[k]? =some l) (ha:a∈l) (hp:a.pg=root):k+1=T.length:=by
 obtain ⟨T0,r,e,h1, _,h2⟩:=h.root
 by_cases hj:k=T0.length
 ·rw [e,hj]; simp
 ·exact absurd (hp.trans h1.symm) (h.other hk h2 hj ha (by simp))
theorem Tr.not_root {ps:List PgS} {T:List (List AbN)} {root:Int} (h:Tr ps T root) {k:Nat} {l:List AbN} {a:AbN} (hk:T[k]? =some l) (ha:a∈l) (hp:a.pg≠root):k+1 < T.length:=by
 obtain ⟨T0,r,e,h1, _,h2⟩:=h.root
 have hkl:=(List.getElem?_eq_some_iff.1 hk).1
 by_cases hj:k=T0.length
 ·subst hj
  rw [hk] at h2
  injection h2 with h2
  rw [h2] at ha
  rw [List.mem_singleton.1 ha] at hp
  exact absurd h1 hp
 ·have:T.length=T0.length+1:=by rw [e]; simp
  omega
/-- at the root for any pending entry -/
theorem pos_root {ps:List PgS} {T:List (List AbN)} {root:Int} (h:Tr ps T root) {t:TaT} (ht:TaskOk T t):PosOk T root t.1 t.2.1:=by
 obtain ⟨T0,r,e,h1,h2,h3⟩:=h.root
 refine ⟨T0.length,[r],r,h3,by simp,h1,?_,by rw [h2]; exact least_le _⟩
 have:T.length=T0.length+1:=by rw [e]; simp
 rcases ht.2 with h0 | ⟨j, _, _,h4,h5, _⟩
 ·omega
 ·omega
theorem ins_step {ps:List PgS} {T:List (List AbN)} {root fresh:Int} {p:PuT} (h:Tr ps T root) (hi:InsOk T root p) (hits:∀ q∈ps,q.2.2.length≤101) (hps:ps.length≤150) (hf0:0≤fresh) (hf1:fresh < ps.length) (hff:fresh∉pgsA T):
  ∃ T',Tr (doB ps (stepF ps p fresh).2.eds) T' root∧InsOk T' root (stepF ps p fresh).1∧Evo T T'∧(stepF ps p fresh).2.err=0∧Out T T' p (stepF ps p fresh).1 (stepF ps p fresh).2 fresh:=by
 obtain ⟨root',pos,leaf,left,fro,to,spl⟩:=p
 have hrt:root'=root:=hi.rt
 subst hrt
 have hnil:Tr (doB ps []) T root':=h
 cases left with
 | nil=>
   refine ⟨T,hnil,⟨rfl,fun t l e=>(nomatch e),fun t ht=>(nomatch ht)⟩,Evo.refl T,rfl, .idle rfl rfl rfl rfl rfl rfl⟩
 | cons t l=>
   obtain ⟨te,tl,tk⟩:=t
   obtain ⟨k,lv,a,hk,ha,hpg,htl,hge⟩:=hi.pos _ _ rfl
   have hpg:a.pg=pos:=hpg
   have htl:tl≤(k:Int):=htl
   have hge:lessF te a.low=false:=hge
   obtain ⟨pre,suf,rfl⟩:=List.append_of_mem ha
   obtain ⟨n,hn,hlv,hdd,hrt,hhi,hes⟩:=h.node hk
   have hL:=(h.level hk).2
   have htask:TaskOk T (te,tl,tk):=hi.tasks _ (List.mem_cons_self ..)
   have h4:4≤te.size:=htask.1
   have hsn:=snd_next (x:=te) hdd hhi fun b hb=>hL.l4 b (by simp [hb])
   rw [hpg] at hn
   have hA:=hL.nd a (by simp)
   cases hs:sndB n.dead n.high te with
   | true=>
     rw [hs] at hsn
     cases suf with
     | nil=>cases hsn
     | cons b suf=>
       have hb0:lessF te b.low=false:=by simpa [sndA] using hsn.symm
       have hbp:=h.pg_lt (pgs_mem hk (a:=b) (by simp))
       have hr0:¬ n.right < 0:=by rw [hrt]; show ¬ b.pg < 0; omega
       rw [st_right hn hs hr0]
       refine ⟨T,hnil,⟨rfl,fun t l' e=>?_,hi.tasks⟩,Evo.refl T,rfl, .move _ _ rfl rfl rfl rfl rfl rfl (.right k pre suf a b hk hpg hrt.symm htl)⟩
       injection e with e1 e2
       subst e1
       exact ⟨k, _,b,hk,by simp,hrt.symm,htl,hb0⟩
   | false=>
     have hlt:∀ b s,suf=b::s→lessF te b.low=true:=by
      rintro b s rfl
      rw [hs] at hsn
      cases hc:lessF te b.low with
      | true=>rfl
      | false=>simp [sndA,hc] at hsn
     by_cases hl:tl < n.lv
     ·obtain ⟨k0,rfl⟩:∃ k0,k=k0+1:=by
       refine ⟨k - 1,?_⟩
       have:0≤tl:=by
        rcases htask.2 with h0 | ⟨j, _, _,h1, _⟩
        ·exact Int.le_of_eq h0.symm
        ·have h1:tl=(j:Int)+1:=h1
         omega
       omega
      obtain ⟨below,m,hb,hm,hd,hml⟩:=h.down hk (by rw [hpg]; exact hn) h4 hge
      rw [st_down hn hs hl]
      have htk:tl≤(k0:Int):=by omega
      refine ⟨T,hnil,⟨rfl,fun t l' e=>?_,hi.tasks⟩,Evo.refl T,rfl, .move _ _ rfl rfl rfl rfl rfl rfl (.down k0 _ below a m hk (by simp) hb hm hpg hd.symm htk)⟩
      injection e with e1 e2
      subst e1
      exact ⟨k0,below,m,hb,hm,hd.symm,htk,hml⟩
     ·have hkt:tl=(k:Int):=by omega
      have hm:¬ n.lv < tl:=by omega
      have hrest:∀ {T':List (List AbN)} {q:PuT},Tr (doB ps (stepF ps ⟨root',pos,leaf,(te,tl,tk)::l,fro,to,spl⟩ fresh).2.eds) T' root'→Evo T T'→q.root=root'→q.pos=root'→q.left=l→InsOk T' root' q:=fun {T' q} hT hev e1 e2 e3=>by
       refine ⟨e1,fun t l' e=>?_,fun t ht=>?_⟩
       ·rw [e2]
        exact pos_root hT (hev.task t (hi.tasks t (by rw [e3] at e; show t∈(te,tl,tk)::l; rw [e]; simp)))
       ·rw [e3] at ht
        exact hev.task t (hi.tasks t (List.mem_cons_of_mem _ ht))
      cases ht:hasE n.es te with
      | true=>
        have e0:=st_there (root:=root') (leaf:=leaf) (lf:=l) (tk:=tk) (fro:=fro) (to:=to) (spl:=spl) (fresh:=fresh) hn hs hl hm ht
        obtain ⟨e,he,hee⟩:=has_in ht
        refine ⟨T,by rw [e0]; exact hnil,hrest (by rw [e0]; exact hnil) (Evo.refl T) (by rw [e0]) (by rw [e0]) (by rw [e0]),Evo.refl T,by rw [e0],?_⟩
        rw [e0]
        refine .there _ _ k pre suf a rfl hkt rfl hk ⟨_,kv_mem hes he,hee⟩ rfl ?_ rfl rfl
        show (if tl=0 then pos else leaf)= _
        rw [hpg]
        by_cases h0:k=0
        ·rw [if_pos h0,if_pos (by omega)]
        ·rw [if_neg h0,if_neg (by omega)]
      | false=>
        have hne:∀ y∈a.es,y.1≠te:=fun y hy=>by
         rw [← hes] at hy
         obtain ⟨e,he,rfl⟩:=List.mem_map.1 hy
         exact has_ne ht e he
        by_cases h8:n.es.length < 8
        ·have e0:=st_put (root:=root') (leaf:=leaf) (lf:=l) (tk:=tk) (fro:=fro) (to:=to) (spl:=spl) (fresh:=fresh) hn hs hl hm ht h8
         have hT:=h.put (kid:=tk) hk (by rw [hpg]; exact hn) h4 hge hlt ht h8 (by omega) (by
          rintro k0 rfl
          rcases htask.2 with h0 | ⟨j,below,m,h1,h2,h3,h5,h6,h7⟩
          ·have h0:tl=0:=h0
           omega
          ·have h1:tl=(j:Int)+1:=h1
           obtain rfl:j=k0:=by omega
           exact ⟨below,m,h3,h5,h6,h7⟩)
         rw [hpg,← hkt] at hT
         have hev:Evo T (T.set k (pre++⟨pos,a.low,insA (te,kidA k tk) a.es⟩::suf)):=Evo.repl (mid:=[]) hk hpg.symm rfl
         refine ⟨_,by rw [e0]; exact hT,hrest (by rw [e0]; exact hT) hev (by rw [e0]) (by rw [e0]) (by rw [e0]),hev,by rw [e0],?_⟩
         rw [e0]
         refine .put _ _ k pre suf a rfl hkt hk (by rw [hpg]) hne rfl ?_ rfl
         show (if tl=0 then pos else leaf)= _
         rw [hpg]
         by_cases h0:k=0
         ·rw [if_pos h0,if_pos (by omega)]
         ·rw [if_neg h0,if_neg (by omega)]
        ·by_cases hr:pos=root'
         ·subst hr
          have e0:=st_grow (leaf:=leaf) (lf:=l) (tk:=tk) (fro:=fro) (to:=to) (spl:=spl) (fresh:=fresh) hn hs hl hm ht h8 (by omega) rfl
          obtain ⟨T0,r,rfl,h1,h2,h3⟩:=h.root
          have hkT:=h.at_root hk (by simp) hpg
          obtain rfl:k=T0.length:=by simp at hkT; omega
          rw [hk] at h3
          injection h3 with h3
          have har:pre=[]∧a=r∧suf=[]:=by
           cases pre with
           | nil=>injection h3 with e1 e2; exact ⟨rfl,e1,e2⟩
           | cons c s=>exact absurd (congrArg List.length h3) (by simp)
          obtain ⟨rfl,rfl,rfl⟩:=har
          have hT:=h.grow h1 hn hits hps hf0 hf1 hff
          have hl8:a.es.length=8:=by have:=hA.len; rw [← hes,List.length_map] at this ⊢; omega
          have hev:Evo (T0++[[a]]) (T0++[[⟨fresh,a.low,a.es⟩],[⟨pos,leastB,[(leastB,fresh)]⟩]]):=Evo.grow h1
          rw [e0]
          refine ⟨_,hT,⟨rfl,fun t l' e=>?_,fun t ht=>hev.task t (hi.tasks t ht)⟩,hev,rfl, .grow _ _ T0 a rfl hkt rfl h1 hl8 rfl rfl rfl rfl rfl rfl⟩
          injection e with e1 e2
          subst e1
          exact ⟨T0.length, _,⟨fresh,a.low,a.es⟩,by rw [List.getElem?_append_right (Nat.le_refl _),Nat.sub_self]; rfl,by simp,rfl,htl,hge⟩
         ·have e0:=st_cut (leaf:=leaf) (lf:=l) (tk:=tk) (fro:=fro) (to:=to) (spl:=spl) (fresh:=fresh) hn hs hl hm ht h8 (by omega) hr
          have htop:=h.not_root hk (a:=a) (by simp) (by rw [hpg]; exact hr)
          obtain ⟨hT,hl8,kd,tt,hdr⟩:=h.cut (fresh:=fresh) hk (by rw [hpg]; exact hn) h8 htop hits (by omega) hf0 hf1 hff
          rw [hpg] at hT
          have hev:Evo T (T.set k (pre++⟨pos,a.low,a.es.take 4⟩::([⟨fresh,midE n,a.es.drop 4⟩]++suf))):=Evo.repl hk hpg.symm rfl
          rw [e0]
          refine ⟨_,hT,⟨rfl,fun t l' e=>?_,fun t ht=>?_⟩,hev,rfl, .cut _ _ k pre suf a (midE n) rfl hkt hk hl8 htop (by rw [hpg]) ?_ rfl rfl hpg rfl⟩
          ·injection e with e1 e2
           subst e1
           exact hev.pos _ _ _ (hi.pos _ _ rfl)
          ·rcases List.mem_append.1 ht with ht | ht
           ·exact hev.task t (hi.tasks t ht)
           ·rw [List.mem_singleton] at ht
            subst ht
            refine ⟨?_, .inr ⟨k, _,⟨fresh,midE n,a.es.drop 4⟩,by show tl+1= _; omega,by rw [List.length_set]; exact htop,List.getElem?_set_self (List.getElem?_eq_some_iff.1 hk).1,by simp,rfl,rfl⟩⟩
            have:(midE n,kd)∈a.es:=List.mem_of_mem_drop (by rw [hdr]; exact List.mem_cons_self ..)
            exact hA.z4 _ this
          ·rw [hkt]
end
section
open Go.RowKit
def totA (l:List AbN):Nat:=(l.map fun a=>a.es.length).sum
def lvA (T:List (List AbN)) (k:Nat):List AbN:=T.getD k []
/-- the entries of the leaves -/
def lfs (T:List (List AbN)):List Kv:=(lvA T 0).flatMap AbN.es
theorem lvA_some {T:List (List AbN)} {k:Nat} {l:List AbN} (h:T[k]? =some l):lvA T k=l:=by rw [lvA,List.getD_eq_getElem?_getD,h]; rfl
theorem totA_len (l:List AbN):(l.flatMap AbN.es).length=totA l:=by
 rw [List.length_flatMap]; rfl
/-- the entries of a level, one node behind the other, rise -/
theorem LvOk.rises {l:List AbN} (h:LvOk l):(l.flatMap AbN.es).Pairwise (fun x y=>lessF x.1 y.1=true):=by
 rw [List.pairwise_flatMap]
 refine ⟨fun a ha=>(h.nd a ha).ris,?_⟩
 refine h.pw.imp_of_mem fun {a b} ha hb hab x hx y hy=>?_
 exact lessF_lt_le (h.nd b hb).l4 ((h.nd b hb).z4 y hy) (hab.2 x hx) ((h.nd b hb).ge y hy)
theorem rises_nodup {l:List Kv} (h:l.Pairwise (fun x y=>lessF x.1 y.1=true)):(l.map Prod.fst).Nodup:=by
 rw [List.Nodup,List.pairwise_map]
 exact h.imp fun {a b} hab e=>by rw [e,lessF_irr] at hab; cases hab
theorem sub_len {α:Type} [DecidableEq α]:∀ {l m:List α},l.Nodup→(∀ x∈l,x∈m)→l.length≤m.length
 | [], _, _, _=>Nat.zero_le _
 | x::l,m,hd,h=>by
   have hx:=h x (by simp)
   have h1:=sub_len (l:=l) (m:=m.erase x) (List.nodup_cons.1 hd).2 fun y hy=>by
    have hne:y≠x:=fun e=>(List.nodup_cons.1 hd).1 (e ▸ hy)
    exact (List.mem_erase_of_ne hne).2 (h y (by simp [hy]))
   have h2:=List.length_erase_of_mem hx
   have h3:=List.length_pos_of_mem hx
   rw [List.length_cons]; omega
theorem InOk.le {up below:List AbN} (h:InOk up below) (hu:LvOk up):totA up≤below.length:=by
 have h0:(below.map AbN.low).length=below.length:=List.length_map _
 rw [← totA_len,← List.length_map (f:=Prod.fst),← h0]
 refine sub_len (rises_nodup hu.rises) fun x hx=>?_
 obtain ⟨e,he,rfl⟩:=List.mem_map.1 hx
 obtain ⟨a,ha,hea⟩:=List.mem_flatMap.1 he
 obtain ⟨m,hm,h1,h2⟩:=(h a ha).2 e hea
 exact List.mem_map.2 ⟨m,hm,h2⟩
/-- below the root, nodes are half full at least -/
structure Occ (T:List (List AbN)):Prop where
 four:∀ (k:Nat) l,T[k]? =some l→k+1 < T.length→∀ a∈l,4≤a.es.length
 eight:∀ (k:Nat) l,T[k]? =some l→k+1 < T.length→8≤totA l
theorem four_tot:∀ {l:List AbN},(∀ a∈l,4≤a.es.length)→4*l.length≤totA l
 | [], _=>Nat.zero_le _
 | a::l,h=>by
   have h1:=four_tot (l:=l) fun b hb=>h b (by simp [hb])
   have h2:=h a (by simp)
   show 4*(a::l).length≤a.es.length+totA l
   rw [List.length_cons]; omega
theorem pgs_flat (T:List (List AbN)):(pgsA T).length=(T.map List.length).sum:=by rw [pgsA,List.length_map,List.length_flatten]
theorem occ_pages {ps:List PgS} {T:List (List AbN)} {root:Int} (h:Tr ps T root) (ho:Occ T) {N:Nat} (hN:(lfs T).length≤N) (hN1:N < 128):(pgsA T).length≤N / 4+N / 16+1∧T.length≤3:=by
 obtain ⟨T0,r,e, _, _,hr⟩:=h.root
 have hlf:∀ l:List AbN,T[0]? =some l→totA l≤N:=fun l hl=>by rw [← totA_len]; rw [lfs,lvA_some hl] at hN; exact hN
 have stp:∀ (k:Nat) (up below:List AbN),T[k+1]? =some up→T[k]? =some below→totA up≤below.length∧4*below.length≤totA below∧8≤totA below:=fun k up below hu hb=>by
  have hk:=(List.getElem?_eq_some_iff.1 hu).1
  exact ⟨(h.inn k _ _ hu hb).le (h.level hu).2,four_tot (ho.four k _ hb hk),ho.eight k _ hb hk⟩
 rw [pgs_flat]
 match T,e,h,ho,hr,hlf,stp with
 | [],e, _, _, _, _, _=>exact absurd (congrArg List.length e) (by simp)
 | [l0],e, _, _,hr,hlf, _=>
   have h0:T0=[]:=by cases T0 with | nil=>rfl | cons a b=>exact absurd (congrArg List.length e) (by simp)
   subst h0
   injection e with e _
   subst e
   simp
 | [l0,l1],e, _, _,hr,hlf,stp=>
   have h0:T0.length=1:=by have:=congrArg List.length e; simp at this; omega
   rw [h0] at hr
   have hl1:l1=[r]:=by injection hr with hr
   have s0:=stp 0 _ _ rfl rfl
   have:=hlf _ rfl
   subst hl1
   simp
   omega
 | [l0,l1,l2],e, _, _,hr,hlf,stp=>
   have h0:T0.length=2:=by have:=congrArg List.length e; simp at this; omega
   rw [h0] at hr
   have hl2:l2=[r]:=by injection hr with hr
   have s0:=stp 0 _ _ rfl rfl
   have s1:=stp 1 _ _ rfl rfl
   have:=hlf _ rfl
   subst hl2
   simp
   omega
 | l0::l1::l2::l3::R,e, _, _, _,hlf,stp=>
   have s0:=stp 0 _ _ rfl rfl
   have s1:=stp 1 _ _ rfl rfl
   have s2:=stp 2 _ _ rfl rfl
   have:=hlf _ rfl
   omega
theorem totA_app (l m:List AbN):totA (l++m)=totA l+totA m:=by simp [totA]
theorem totA_cons (a:AbN) (l:List AbN):totA (a::l)=a.es.length+totA l:=by simp [totA]
theorem Occ.out {T T':List (List AbN)} {p p':PuT} {g:GoT} {fresh:Int} (h:Occ T) (ho:Out T T' p p' g fresh):Occ T':=by
 have set:∀ {k:Nat} {l l':List AbN},T[k]? =some l→(k+1 < T.length→(∀ a∈l,4≤a.es.length)→8≤totA l→(∀ a∈l',4≤a.es.length)∧8≤totA l')→Occ (T.set k l'):=fun {k l l'} hk hl=>by
  have hkl:=(List.getElem?_eq_some_iff.1 hk).1
  refine ⟨fun j m hj hjl=>?_,fun j m hj hjl=>?_⟩<;>rw [List.length_set] at hjl<;>by_cases e:k=j
  ·subst e; rw [List.getElem?_set_self hkl] at hj; injection hj with hj; subst hj; exact (hl hjl (h.four _ _ hk hjl) (h.eight _ _ hk hjl)).1
  ·rw [List.getElem?_set_ne e] at hj; exact h.four j m hj hjl
  ·subst e; rw [List.getElem?_set_self hkl] at hj; injection hj with hj; subst hj; exact (hl hjl (h.four _ _ hk hjl) (h.eight _ _ hk hjl)).2
  ·rw [List.getElem?_set_ne e] at hj; exact h.eight j m hj hjl
 cases ho with
 | idle _ hT=>exact hT ▸ h
 | move _ _ _ hT=>exact hT ▸ h
 | there _ _ _ _ _ _ _ _ hT=>exact hT ▸ h
 | put t l k pre suf a _ _ ht hT=>
   subst hT
   have hl:(insA (t.1,kidA k t.2.2) a.es).length=a.es.length+1:=by rw [(insA_perm _ _).length_eq]; rfl
   refine set ht fun _ h4 h8=>⟨fun b hb=>?_,?_⟩
   ·rcases List.mem_append.1 hb with hb | hb
    ·exact h4 b (by simp [hb])
    ·rcases List.mem_cons.1 hb with rfl | hb
     ·have:=h4 a (by simp)
      show 4≤(insA (t.1,kidA k t.2.2) a.es).length
      omega
     ·exact h4 b (by simp [hb])
   ·rw [totA_app,totA_cons] at h8 ⊢
    show 8≤totA pre+((insA (t.1,kidA k t.2.2) a.es).length+totA suf)
    omega
 | cut t l k pre suf a mid _ _ ht h8 htop hT=>
   subst hT
   refine set ht fun _ h4 h8'=>⟨fun b hb=>?_,?_⟩
   ·rcases List.mem_append.1 hb with hb | hb
    ·exact h4 b (by simp [hb])
    ·rcases List.mem_cons.1 hb with rfl | hb
     ·show 4≤(a.es.take 4).length
      rw [List.length_take]; omega
     ·rcases List.mem_cons.1 hb with rfl | hb
      ·show 4≤(a.es.drop 4).length
       rw [List.length_drop]; omega
      ·exact h4 b (by simp [hb])
   ·rw [totA_app,totA_cons] at h8'
    rw [totA_app,totA_cons,totA_cons]
    show 8≤totA pre+((a.es.take 4).length+((a.es.drop 4).length+totA suf))
    rw [List.length_take,List.length_drop]
    omega
 | grow t l T0 r _ _ ht _ h8 hT=>
   subst ht hT
   have get:∀ (j:Nat) m,(T0++[[⟨fresh,r.low,r.es⟩],[⟨p.root,leastB,[(leastB,fresh)]⟩]])[j]? =some m→j+1 < (T0++[[(⟨fresh,r.low,r.es⟩:AbN)],[⟨p.root,leastB,[(leastB,fresh)]⟩]]).length→((T0++[[r]])[j]? =some m∧j+1 < (T0++[[r]]).length)∨m=[⟨fresh,r.low,r.es⟩]:=fun j m hj hjl=>by
    rcases Nat.lt_or_ge j T0.length with h1 | h1
    ·rw [List.getElem?_append_left h1] at hj
     exact .inl ⟨by rw [List.getElem?_append_left h1]; exact hj,by simp; omega⟩
    ·rw [List.getElem?_append_right h1] at hj
     have:j - T0.length=0:=by simp at hjl; omega
     rw [this] at hj
     injection hj with hj
     exact .inr hj.symm
   refine ⟨fun j m hj hjl=>?_,fun j m hj hjl=>?_⟩<;>rcases get j m hj hjl with ⟨h1,h2⟩ | rfl
   ·exact h.four j m h1 h2
   ·intro a ha; rw [List.mem_singleton.1 ha]; show 4≤r.es.length; omega
   ·exact h.eight j m h1 h2
   ·show 8≤r.es.length+0; omega
/-- a fresh page more, or none -/
theorem Out.pages {T T':List (List AbN)} {p p':PuT} {g:GoT} {fresh:Int} (ho:Out T T' p p' g fresh) (hr:∀ T0 r,T=T0++[[r]]→r.pg=p.root→True):(pgsA T').Perm ((if g.used then [fresh] else [])++pgsA T):=by
 cases ho with
 | idle _ hT _ _ hu=>rw [hu,hT]; exact List.Perm.refl _
 | move _ _ _ hT _ _ hu=>rw [hu,hT]; exact List.Perm.refl _
 | there _ _ _ _ _ _ _ _ hT _ _ _ _ hu=>rw [hu,hT]; exact List.Perm.refl _
 | put t l k pre suf a _ _ ht hT _ _ _ hu=>
   rw [hu,hT]
   obtain ⟨T1,T2,e, _,h2⟩:=lv_split ht
   rw [h2,pgs_app,e,pgs_app]
   simp
 | cut t l k pre suf a mid _ _ ht _ _ hT _ _ _ _ hu=>
   rw [hu,hT]
   obtain ⟨T1,T2,e, _,h2⟩:=lv_split ht
   rw [h2,pgs_app,e,pgs_app,List.perm_iff_count]
   intro x
   simp only [List.map_append,List.map_cons,List.count_append,List.count_cons,if_true,List.count_nil]
   omega
 | grow t l T0 r _ _ ht hr _ hT _ _ _ _ hu=>
   rw [hu,hT,ht]
   have e3:pgsA (T0++[[⟨fresh,r.low,r.es⟩],[⟨p.root,leastB,[(leastB,fresh)]⟩]])=pgsA T0++[fresh,p.root]:=by simp [pgsA]
   rw [e3,pgs_snoc,show [r].map AbN.pg=[p.root] by rw [← hr]; rfl,if_pos rfl]
   exact List.perm_middle
/-- the leaves' entries: one more where an entry was put into a leaf -/
theorem lfs_set {T:List (List AbN)} {k:Nat} {l l':List AbN} (hk:T[k]? =some l):lfs (T.set k l')=if k=0 then l'.flatMap AbN.es else lfs T:=by
 have hkl:=(List.getElem?_eq_some_iff.1 hk).1
 unfold lfs
 by_cases e:k=0
 ·subst e
  rw [if_pos rfl,lvA_some (List.getElem?_set_self hkl)]
 ·rw [if_neg e]
  congr 1
  rw [lvA,lvA,List.getD_eq_getElem?_getD,List.getD_eq_getElem?_getD,List.getElem?_set_ne e]
theorem lfs_grow {T0:List (List AbN)} {root fresh:Int} {r:AbN}:lfs (T0++[[⟨fresh,r.low,r.es⟩],[⟨root,leastB,[(leastB,fresh)]⟩]])=lfs (T0++[[r]]):=by
 cases T0 with
 | nil=>simp [lfs,lvA]
 | cons a l=>rfl
theorem Out.lfs {T T':List (List AbN)} {p p':PuT} {g:GoT} {fresh:Int} (ho:Out T T' p p' g fresh):(lfs T').Perm (lfs T)∨∃ t l,p.left=t::l∧t.2.1=0∧p'.left=l∧(∀ y∈lfs T,y.1≠t.1∨True)∧(lfs T').Perm ((t.1, -1)::lfs T):=by
 cases ho with
 | idle _ hT=>exact .inl (hT ▸ List.Perm.refl _)
 | move _ _ _ hT=>exact .inl (hT ▸ List.Perm.refl _)
 | there _ _ _ _ _ _ _ _ hT=>exact .inl (hT ▸ List.Perm.refl _)
 | put t l k pre suf a hp hk ht hT hno hl=>
   rw [hT,lfs_set ht]
   by_cases e:k=0
   ·subst e
    rw [if_pos rfl]
    refine .inr ⟨t,l,hp,hk,hl,fun _ _=> .inr trivial,?_⟩
    rw [Proofs.YtjlcoglmjldjbaaGreat.lfs,lvA_some ht,show kidA 0 t.2.2= -1 from rfl]
    simp only [List.flatMap_append,List.flatMap_cons]
    refine ((List.Perm.append_left _ ((insA_perm _ _).append_right _))).trans ?_
    exact List.perm_middle
   ·rw [if_neg e]; exact .inl (List.Perm.refl _)
 | cut t l k pre suf a mid _ _ ht h8 _ hT=>
   rw [hT,lfs_set ht]
   by_cases e:k=0
   ·subst e
    rw [if_pos rfl,Proofs.YtjlcoglmjldjbaaGreat.lfs,lvA_some ht]
    simp only [List.flatMap_append,List.flatMap_cons]
    refine .inl (List.Perm.of_eq ?_)
    rw [← List.append_assoc (a.es.take 4),List.take_append_drop]
   ·rw [if_neg e]; exact .inl (List.Perm.refl _)
 | grow t l T0 r _ _ ht _ _ hT=>rw [hT,ht,lfs_grow]; exact .inl (List.Perm.refl _)
end
section
open Go.RowKit
-- the rank of a page: pages in levels below, and behind it in its own
def ordA (T:List (List AbN)):List Int:=T.reverse.flatten.map AbN.pg
def rkF (T:List (List AbN)) (pos:Int):Nat:=((ordA T).dropWhile fun q=>!(q==pos)).length
def sumA (T:List (List AbN)) (k:Nat):Nat:=((T.take k).map List.length).sum
theorem ord_perm (T:List (List AbN)):(ordA T).Perm (pgsA T):=by
 unfold ordA pgsA
 exact (List.Perm.flatten (List.reverse_perm T)).map _
theorem drop_at {L A B:List Int} {x:Int} (h:L=A++x::B) (hd:L.Nodup):L.dropWhile (fun q=>!(q==x))=x::B:=by
 subst h
 have h1:=(List.nodup_append.1 hd).2.2
 rw [List.dropWhile_append_of_pos]
 ·rw [List.dropWhile_cons_of_neg (by simp)]
 ·intro a ha
  have:=h1 a ha x (by simp)
  simpa using this
theorem rk_at {T:List (List AbN)} (hd:(pgsA T).Nodup) {k:Nat} {pre suf:List AbN} {a:AbN} (hk:T[k]? =some (pre++a::suf)):rkF T a.pg=suf.length+1+sumA T k:=by
 obtain ⟨T1,T2,rfl,h1, _⟩:=lv_split hk
 have hd2:(ordA (T1++(pre++a::suf)::T2)).Nodup:=(ord_perm _).nodup_iff.2 hd
 have e:ordA (T1++(pre++a::suf)::T2)=(T2.reverse.flatten.map AbN.pg++pre.map AbN.pg)++a.pg::(suf.map AbN.pg++T1.reverse.flatten.map AbN.pg):=by simp [ordA]
 rw [rkF,drop_at e hd2,List.length_cons,List.length_append,List.length_map,List.length_map,sumA,List.take_left' h1]
 have h2:T1.reverse.flatten.length=(T1.map List.length).sum:=by rw [List.length_flatten,List.map_reverse,List.sum_reverse]
 omega
theorem rk_le (T:List (List AbN)) (pos:Int):rkF T pos≤(pgsA T).length:=by
 rw [← (ord_perm T).length_eq]
 exact (List.dropWhile_sublist _).length_le
theorem sum_succ {T:List (List AbN)} {k:Nat} {l:List AbN} (hk:T[k]? =some l):sumA T (k+1)=sumA T k+l.length:=by
 rw [sumA,sumA,List.take_add_one,hk]; simp
theorem Mv.rk {T:List (List AbN)} {tl pos pos':Int} (h:Mv T tl pos pos') (hd:(pgsA T).Nodup):rkF T pos' < rkF T pos:=by
 cases h with
 | right k pre suf a b hk h1 h2=>
   subst h1 h2
   have hk2:T[k]? =some ((pre++[a])++b::suf):=by rw [hk]; simp
   rw [rk_at hd hk,rk_at hd hk2,List.length_cons]; omega
 | down k l below a m hk ha hb hm h1 h2=>
   subst h1 h2
   obtain ⟨p1,s1,rfl⟩:=List.append_of_mem ha
   obtain ⟨p2,s2,rfl⟩:=List.append_of_mem hm
   rw [rk_at hd hk,rk_at hd hb,sum_succ hb,List.length_append,List.length_cons]; omega
theorem sum_set {T:List (List AbN)} {k:Nat} {l:List AbN}:sumA (T.set k l) k=sumA T k:=by
 rw [sumA,sumA,List.take_set,List.set_eq_of_length_le (by rw [List.length_take]; omega)]
/-- lists of items stay short -/
theorem its_do {L:List EdT}:∀ {ps:List PgS},(∀ q∈ps,q.2.2.length≤101)→∀ q∈doB ps L,q.2.2.length≤101:=by
 induction L with
 | nil=>exact fun h=>h
 | cons e L ih=>
   intro ps h
   refine ih (ps:=do1B ps e) fun q hq=>?_
   unfold do1B at hq
   split at hq
   ·rename_i hok
    have hok:=of_decide_eq_true hok
    rcases List.mem_or_eq_of_mem_set hq with h1 | rfl
    ·exact h q h1
    ·unfold edP
     split
     ·exact Nat.zero_le _
     ·dsimp only
      rw [setI_len]
      have:=h _ (getD_mem' (l:=ps) (n:=e.1.toNat) (d:=pgs0) (by omega)).2
      omega
   ·exact h q hq
/-- a book with a valid tree; pages from nx on are free -/
structure GS (d:Int) (ps:List PgS) (T:List (List AbN)) (nx:Int):Prop where
 tr:Tr ps T 0
 its:∀ q∈ps,q.2.2.length≤101
 len:ps.length=60
 occ:Occ T
 pg:∀ q∈pgsA T,q < nx
 cnt:nx=((pgsA T).length:Int)+d
 d0:0≤d
def PM (N:Nat):Nat:=N / 4+N / 16+1
theorem GS.pages {d nx:Int} {ps:List PgS} {T:List (List AbN)} (h:GS d ps T nx) {N:Nat} (hN:(lfs T).length≤N) (hN1:N < 128):(pgsA T).length≤PM N∧T.length≤3:=occ_pages h.tr h.occ hN hN1
theorem GS.step {d nx:Int} {ps:List PgS} {T:List (List AbN)} {p:PuT} (h:GS d ps T nx) (hi:InsOk T 0 p) {N:Nat} (hN:(lfs T).length≤N) (hN1:N < 128) (hd:(PM N:Int)+d < 60):
  ∃ T',GS d (doB ps (stepF ps p nx).2.eds) T' (if (stepF ps p nx).2.used then nx+1 else nx)∧InsOk T' 0 (stepF ps p nx).1∧Evo T T'∧(stepF ps p nx).2.err=0∧Out T T' p (stepF ps p nx).1 (stepF ps p nx).2 nx:=by
 have hp:=(h.pages hN hN1).1
 have hc:=h.cnt
 have h0:=h.d0
 obtain ⟨T',h1,h2,h3,h4,h5⟩:=ins_step h.tr hi h.its (by rw [h.len]; omega) (fresh:=nx) (by omega) (by rw [h.len]; omega) (fun hq=>by have:=h.pg nx hq; omega)
 have h6:=h5.pages (fun _ _ _ _=>trivial)
 refine ⟨T',⟨h1,its_do h.its,by rw [doB_len]; exact h.len,h.occ.out h5,fun q hq=>?_,?_,h0⟩,h2,h3,h4,h5⟩
 ·have h7:=h6.mem_iff.1 hq
  cases hu:(stepF ps p nx).2.used with
  | true=>
    rw [hu] at h7
    rcases List.mem_cons.1 h7 with rfl | h7
    ·show q < q+1; omega
    ·have:=h.pg q h7; show q < nx+1; omega
  | false=>rw [hu] at h7; exact h.pg q h7
 ·have h7:=h6.length_eq
  cases hu:(stepF ps p nx).2.used with
  | true=>rw [hu] at h7; rw [h7]; simp; omega
  | false=>rw [hu] at h7; rw [h7]; simp; omega
theorem out_left {T T':List (List AbN)} {p p':PuT} {g:GoT} {fresh:Int} (ho:Out T T' p p' g fresh) {t:TaT} {l:List TaT} (hl:p.left=t::l):p'.left=l∨∃ l',p'.left=t::l'∧l <+:l'∧∀ s∈l',s∈l∨1≤s.2.1:=by
 cases ho with
 | idle h=>rw [hl] at h; cases h
 | move t2 l2 h _ hl2=>rw [hl] at h; injection h with h1 h2; subst h1 h2; exact .inr ⟨l,hl2,List.prefix_rfl,fun s hs=> .inl hs⟩
 | there t2 l2 _ _ _ _ h _ _ _ _ hl2=>rw [hl] at h; injection h with h1 h2; exact .inl (hl2.trans h2.symm)
 | put t2 l2 _ _ _ _ h _ _ _ _ hl2=>rw [hl] at h; injection h with h1 h2; exact .inl (hl2.trans h2.symm)
 | cut t2 l2 k pre suf a mid h _ _ _ _ _ hl2=>
   rw [hl] at h; injection h with h1 h2; subst h1 h2
   refine .inr ⟨_,hl2,List.prefix_append _ _,fun s hs=>?_⟩
   rcases List.mem_append.1 hs with hs | hs
   ·exact .inl hs
   ·rw [List.mem_singleton] at hs; subst hs; exact .inr (by show (1:Int)≤(k:Int)+1; omega)
 | grow t2 l2 T0 r h _ _ _ _ _ hl2=>rw [hl] at h; injection h with h1 h2; subst h1 h2; exact .inr ⟨l,hl2,List.prefix_rfl,fun s hs=> .inl hs⟩
/-- the rest of an insertion leaves the leaves' entries -/
theorem rest_lfs {T T':List (List AbN)} {p p':PuT} {g:GoT} {fresh:Int} (ho:Out T T' p p' g fresh) (h1:∀ t∈p.left,1≤t.2.1):(lfs T').Perm (lfs T)∧(∀ t∈p'.left,1≤t.2.1)∧p'.leaf=p.leaf:=by
 refine ⟨?_,?_,?_⟩
 ·rcases ho.lfs with h | ⟨t,l,hl,h0, _⟩
  ·exact h
  ·have:=h1 t (by rw [hl]; simp); omega
 ·cases hl:p.left with
  | nil=>
    cases ho with
    | idle _ _ hl2=>intro t ht; rw [hl2] at ht; cases ht
    | move _ _ h=>rw [hl] at h; cases h
    | there _ _ _ _ _ _ h=>rw [hl] at h; cases h
    | put _ _ _ _ _ _ h=>rw [hl] at h; cases h
    | cut _ _ _ _ _ _ _ h=>rw [hl] at h; cases h
    | grow _ _ _ _ h=>rw [hl] at h; cases h
  | cons t l=>
    rw [hl] at h1
    rcases out_left ho hl with h | ⟨l',h, _,h2⟩
    ·rw [h]; exact fun s hs=>h1 s (by simp [hs])
    ·rw [h]
     intro s hs
     rcases List.mem_cons.1 hs with rfl | hs
     ·exact h1 s (by simp)
     ·rcases h2 s hs with h3 | h3
      ·exact h1 s (by simp [h3])
      ·exact h3
 ·cases ho with
  | idle _ _ _ hf=>exact hf
  | move _ _ _ _ _ hf=>exact hf
  | there t l k _ _ _ h hk _ _ _ _ hf=>have:=h1 t (by rw [h]; simp); rw [hf,if_neg (by omega)]
  | put t l k _ _ _ h hk _ _ _ _ hf=>have:=h1 t (by rw [h]; simp); rw [hf,if_neg (by omega)]
  | cut _ _ _ _ _ _ _ _ _ _ _ _ _ _ hf=>exact hf
  | grow _ _ _ _ _ _ _ _ _ _ _ hf=>exact hf
end
section
open Go.RowKit
def entG (l:List Int) (i:Nat):ByteArray:=entF (keyF (l.getD i 0)) (1+(i:Int) / 8) (1+(i:Int) % 8)
def entsG (l:List Int) (n:Nat):List Kv:=(List.range n).map fun i=>(entG l i, -1)
theorem entG_inj {l l':List Int} {i j:Nat} (hi:i < 500000) (hj:j < 500000) (h:entG l i=entG l' j):i=j:=by
 have h1:=congrArg ppF h
 have h2:=congrArg psF h
 rw [entG,entG,ppF_ent,ppF_ent] at h1
 rw [entG,entG,psF_ent,psF_ent] at h2
 omega
theorem blank_tr:GS 0 (blankF 60) [[⟨0,leastB,[]⟩]] 1:=by
 obtain ⟨n,h1,h2,h3,h4,h5,h6⟩:=fresh_nd (ps:=List.replicate 60 pgs0) (pg:=0) (lv:=0) (rt:= -1) (hi:=⟨#[]⟩) (es:=[]) (by omega) (by rw [List.length_replicate]; decide) ⟨by omega,by omega⟩ ⟨by omega,by omega⟩ (.inl rfl) (fun e he=>nomatch he) (by simp)
 have e:doB (List.replicate 60 pgs0) (freshE 0 0 (-1) ⟨#[]⟩ [])=blankF 60:=rfl
 rw [e] at h1
 have hes:n.es.map kv=[]:=List.Perm.eq_nil h6
 refine ⟨⟨fun k l hk=>?_,fun l hl=>?_,(fun k up below hu hb=>by simp at hu),⟨_,rfl,rfl⟩,by simp [pgsA],by simp⟩,?_,(blank_sz 60).2,⟨fun k l hk hkl=>?_,fun k l hk hkl=>?_⟩,fun q hq=>?_,rfl,Int.le_refl 0⟩
 ·match k with
  | 0=>injection hk with hk; subst hk; exact ⟨⟨n,h1,h2,h5,h3,h4,hes⟩,trivial⟩
  | k+1=>cases hk
 ·rw [List.mem_singleton.1 hl]
  refine ⟨List.pairwise_singleton _ _,fun a ha=>?_, _, _,rfl,rfl⟩
  rw [List.mem_singleton.1 ha]
  exact ⟨List.Pairwise.nil,fun e he=>absurd he (by simp),fun e he=>absurd he (by simp),by rw [leastB_size]; exact Nat.le_refl 4,by simp⟩
 ·exact its_do fun q hq=>by rw [(List.mem_replicate.1 hq).2]; decide
 ·simp at hkl
 ·simp at hkl
 ·simp [pgsA] at hq; omega
-- rows of a valid tree
def ndD (ps:List PgS) (x:Int):NoD:=(ndAt ps x).getD ⟨0,0,⟨#[]⟩,false,[],0⟩
def ndP (ps:List PgS) (a:AbN):Int×NoD:=(a.pg,ndD ps a.pg)
theorem ndD_some {ps:List PgS} {x:Int} {n:NoD} (h:ndAt ps x=some n):ndD ps x=n:=by rw [ndD,h]; rfl
theorem ndAt_m1 (ps:List PgS):ndAt ps (-1)=none:=by rw [ndAt,if_neg (by omega)]
theorem chn_rep {ps:List PgS} {lv:Int}:∀ {l:List AbN} {f:Nat},RepL ps lv l→l.length≤f→chnF ps lv f (rtA l)=l.map (ndP ps)
 | [],f, _, _=>chn_none (ndAt_m1 ps)
 | a::l,f,h,hf=>by
   obtain ⟨n,h1,h2,h3,h4,h5,h6⟩:=h.1
   obtain ⟨f,rfl⟩:∃ g,f=g+1:=⟨f - 1,by rw [List.length_cons] at hf; omega⟩
   rw [List.length_cons] at hf
   show chnF ps lv (f+1) a.pg= _
   rw [chn_hit h1 h2,h4,chn_rep h.2 (by omega),List.map_cons,ndP,ndD_some h1]
theorem LvOk.first {a b:AbN} {t:List AbN} (h:LvOk (a::t)) (hb:b∈a::t) (hl:b.low=leastB):b=a:=by
 rcases List.mem_cons.1 hb with rfl | hb
 ·rfl
 ·have h1:=((List.pairwise_cons.1 h.pw).1 b hb).1
  rw [hl,least_le] at h1; cases h1
theorem LvOk.headlow {a:AbN} {t:List AbN} (h:LvOk (a::t)):a.low=leastB:=by
 obtain ⟨b,s,e,hl⟩:=h.hd
 injection e with e1 _
 rw [e1]; exact hl
theorem dsc_rep {ps:List PgS} {T:List (List AbN)} {root:Int} (h:Tr ps T root) {k:Nat} {b:AbN} {s:List AbN} (hk:T[k]? =some (b::s)):∀ (j:Nat) {a:AbN} {t:List AbN} {f:Nat},T[k+j]? =some (a::t)→j < f→dscF ps (k:Int) f a.pg=some (b.pg,ndD ps b.pg)
 | 0,a,t,f,hj,hf=>by
   rw [Nat.add_zero,hk] at hj
   injection hj with hj
   injection hj with e1 e2
   subst e1
   obtain ⟨n,h1,h2, _⟩:=h.node (pre:=[]) hk
   obtain ⟨f,rfl⟩:∃ g,f=g+1:=⟨f - 1,by omega⟩
   rw [dsc_hit h1 h2,ndD_some h1]
 | j+1,a,t,f,hj,hf=>by
   obtain ⟨n,h1,h2, _, _, _,h3⟩:=h.node (pre:=[]) hj
   obtain ⟨f,rfl⟩:∃ g,f=g+1:=⟨f - 1,by omega⟩
   have hlen:=(List.getElem?_eq_some_iff.1 hj).1
   have hb:T[k+j]? =some (T[k+j]'(by omega)):=List.getElem?_eq_getElem (by omega)
   obtain ⟨c,u,e,hl⟩:=(h.level hb).2.hd
   rw [e] at hb
   obtain ⟨⟨k1,t1,g1⟩,g2⟩:=h.inn (k+j) _ _ hj hb a (by simp)
   obtain ⟨m,hm,hm1,hm2⟩:=g2 (a.low,k1) (by rw [g1]; simp)
   have hmc:=(h.level hb).2.first hm (by rw [hm2]; exact (h.level hj).2.headlow)
   have hes:n.es≠[]:=fun e2=>by rw [e2] at h3; rw [← h3] at g1; cases g1
   obtain ⟨x,r,he⟩:=List.exists_cons_of_ne_nil hes
   have hx:x.2.2=c.pg:=by
    rw [he,g1] at h3
    injection h3 with h4 _
    have:kv x=(a.low,k1):=h4
    injection this with _ h5
    rw [h5,← hmc]; exact hm1.symm
   rw [dsc_down h1 (by rw [h2]; omega) (by rw [he]; simp),he]
   show dscF ps (k:Int) f x.2.2= _
   rw [hx]
   exact dsc_rep h hk j hb (by omega)
theorem Tr.row {ps:List PgS} {T:List (List AbN)} {root:Int} (h:Tr ps T root) (hps:ps.length≤150) {k:Nat} {l:List AbN} (hk:T[k]? =some l):rowF ps root (k:Int)=l.map (ndP ps):=by
 obtain ⟨T0,r,e,h1,h2,h3⟩:=h.root
 have hkl:=(List.getElem?_eq_some_iff.1 hk).1
 obtain ⟨b,s,rfl,hl⟩:=(h.level hk).2.hd
 have hlT:T.length=T0.length+1:=by rw [e]; simp
 have hbd:=h.bd
 obtain ⟨j,hj⟩:∃ j,T0.length=k+j:=⟨T0.length - k,by omega⟩
 have hd:=dsc_rep h hk j (a:=r) (t:=[]) (f:=1000) (by rw [← hj]; exact h3) (by omega)
 rw [h1] at hd
 rw [rowF,hd]
 have hlen:(b::s).length≤1000:=by
  have:(b::s).length≤(pgsA T).length:=by
   rw [pgs_flat]
   obtain ⟨T1,T2,e2, _, _⟩:=lv_split hk
   rw [e2]; simp; omega
  omega
 exact chn_rep (h.level hk).1 hlen
/-- behind the top level there is none -/
theorem ndP_kv {ps:List PgS} {lv:Int}:∀ {l:List AbN},RepL ps lv l→(l.map (ndP ps)).flatMap (fun x=>x.2.es.map kv)=l.flatMap AbN.es
 | [], _=>rfl
 | a::l,h=>by
   obtain ⟨n,h1, _, _, _, _,h6⟩:=h.1
   rw [List.map_cons,List.flatMap_cons,List.flatMap_cons,ndP_kv h.2]
   congr 1
   show (ndD ps a.pg).es.map kv=a.es
   rw [ndD_some h1,h6]
/-- all entries -/
theorem Tr.all {ps:List PgS} {T:List (List AbN)} {root:Int} (h:Tr ps T root) (hps:ps.length≤150):(allF ps root).map kv=lfs T:=by
 obtain ⟨T0,r,e, _, _, _⟩:=h.root
 have h0:T[0]? =some (lvA T 0):=by
  have:0 < T.length:=by rw [e]; simp
  rw [lvA,List.getD_eq_getElem?_getD,List.getElem?_eq_getElem this]; rfl
 have hr:=h.row hps h0
 rw [allF,show (0:Int)=((0:Nat):Int) from rfl,hr,List.map_flatMap,ndP_kv (h.level h0).1]; rfl
end
section
open Go.RowKit
theorem putL_pre:∀ (vs pre post:List Value) (k:Nat),putL (pre++post) (pre.length+k) vs=pre++putL post k vs
 | [],pre,post,k=>rfl
 | v::vs,pre,post,k=>by
   rw [putL,putL,List.set_append_right _ _ (by omega),show pre.length+k - pre.length=k by omega,show pre.length+k+1=pre.length+(k+1) by omega]
   exact putL_pre vs pre (post.set k v) (k+1)
/-- block g: a row whose first cells are pre -/
def eCl (e sz g n c:Nat) (pre:List Value):Ent:=⟨[g],fun W=>∃ rest,W.ownsRow 0 e sz (.slice (some ⟨g,0,none⟩) n c) n (pre++rest)⟩
theorem eCl_loc {e sz g n c:Nat} {pre:List Value}:(eCl e sz g n c pre).loc:=fun W W' hk h=>by
 obtain ⟨rest,h1⟩:=h
 exact ⟨rest,eO_loc e sz (.slice (some ⟨g,0,none⟩) n c) n (pre++rest) W W' (fun k hk'=>hk k (by simpa [eO,Value.ownBlock,eCl] using hk')) h1⟩
theorem zc_size (zs:List Value) (k:Nat):(Builtin.zeroCells zs.toArray k).toList.length=k*zs.length:=by simp [Builtin.zeroCells]
theorem zc_one {zs:List Value} (h:zs.all Value.oneCell'=true) (k:Nat):∀ v∈(Builtin.zeroCells zs.toArray k).toList,Value.oneCell' v=true:=by
 intro v hv
 simp only [Builtin.zeroCells,Array.toList_map,List.mem_map,Array.toList_range,List.mem_range] at hv
 obtain ⟨i,hi,rfl⟩:=hv
 have hpos:0 < zs.length:=by
  rcases Nat.eq_zero_or_pos zs.length with e | e
  ·simp [e] at hi
  ·exact e
 have hlt:i % zs.length < zs.length:=Nat.mod_lt _ hpos
 have e:zs.toArray[i % zs.toArray.size]! =zs[i % zs.length]:=by simp [hlt]
 rw [e]
 exact List.all_eq_true.1 h _ (List.getElem_mem _)
section
variable {P:Program} {ops:Array Oper} {L:List Nat} {a0:Act} {w0:World} {bor:List Nat} {X0:List Ent} {us cr kl:List (List Nat)}
 {D:Nat→(Tmp→Value)→(Tmp→Value)→(Nat→Ent)→Prop} {i:Nat} {o:Oper} {ρ:Operand→Value} {β:Tmp→Value} {W:World} {X:Nat→Ent}
theorem run_sliceB_lo {t e:TypeId} {x y:Operand} {g n c l sz:Nat} {k:IntKind} {j:Int} (h:o.op= .slice t x (some y) none none) (ht:P.underlying t=some (.slice e)) (hz:szP P e=some sz)
  (hx:ρ x= .slice (some ⟨g,0,none⟩) n c) (hy:ρ y= .int k j) (hj:j=(l:Int)) (hl:l < n) (hc:n≤c):(execOp ρ o).run P W= .ok (.value (.slice (some ⟨g,l*sz,none⟩) (n - l) (c - l))) W:=by
 rw [run_sliceL_lo h ht hz hx hy hj (by omega),if_neg (by omega)]
 simp [Addr.add_lit]
theorem dv_clear {t e sz n c m k c2 g q q':Nat} {x:Operand} {zs pre post:List Value} (h:o.op= .call {callee:= .builtin .clear,args:=#[x],argTypes:=#[t]}) (hx:ρ x= .slice (some ⟨g,m,none⟩) k c2) (ht:P.underlying t=some (.slice e)) (hz:∀ W,(zeroValue e).run P W= .ok (.agg zs.toArray) W) (hzc:zs.length=sz)
  (h1:zs.all Value.oneCell'=true) (cx:CtxV ops L a0 w0 bor X0 us D i ρ β W X) (hX:X q=eO e sz (.slice (some ⟨g,0,none⟩) n c) n (pre++post)) (hu:(atV us i).contains q=true) (hpre:pre.length=m) (hm:m+k*sz≤n*sz) (hk0:0 < k) (hd:o.dst=none)
  (hc:atV cr i=[q']) (hk:atV kl i=[q]) (hD:∀ (σ β':Tmp→Value) (X':Nat→Ent),(∀ t,σ t=ρ (.tmp t))→(∀ t,β' t=β t)→X' q'=eCl e sz g n c pre→D i σ β' X'):DoesU P o ρ W (PostV cr kl D i o.dst ρ β W X):=by
 have hok:=cx.ok q hu
 rw [hX] at hok
 have hown:W.ownsRow 0 e sz (.slice (some ⟨g,0,none⟩) n c) n (pre++post):=hok.holds
 obtain ⟨W',h2,h3,h4⟩:=run_storeRowCells (P:=P) (Builtin.zeroCells zs.toArray k).toList m 0 _ W hown (by rw [zc_size,hzc]; omega) (zc_one h1 k)
 have hput:putL (pre++post) (m+0) (Builtin.zeroCells zs.toArray k).toList=pre++putL post 0 (Builtin.zeroCells zs.toArray k).toList:=by rw [← hpre]; exact putL_pre _ _ _ _
 rw [hput] at h4
 have hrun:(execOp ρ o).run P W= .ok (.value (.tuple #[])) W':=by
  have hn0:k≠0:=by omega
  unfold execOp; rw [h]
  obtain ⟨k',rfl⟩:∃ k',k=k'+1:=⟨k - 1,by omega⟩
  simp [go_sem,hx,Builtin.clear_,run_underlying ht,hz]
  have h2':=h2
  rw [h2']
  rfl
 refine DoesU.value hrun ⟨[eCl e sz g n c pre],by rw [hc]; rfl,⟨?_,fun e' he=>?_,List.pairwise_singleton _ _⟩,fun σ β' X' hs hv hb' hbv hx' hN=>hD σ β' X' (fun t=>hs t (by rw [hd]; simp)) (fun t=>hb' t (by rw [hd]; simp)) ?_⟩
 ·rw [hk]
  simp only [List.flatMap_cons,List.flatMap_nil,List.append_nil,hX]
  exact h3.mono (fun k _ hk'=>by simp at hk'; subst hk'; simp [eO,Value.ownBlock])
 ·rw [List.mem_singleton] at he
  subst he
  refine ⟨⟨_,h4⟩,eCl_loc,fun k hk'=>?_⟩
  have hkg:k=g:=by simpa [eCl] using hk'
  subst hkg
  refine ⟨.inl ?_,own0_block h4 k (by simp [Value.ownBlock])⟩
  rw [hk]
  simp [hX,eO,Value.ownBlock]
 ·rw [hc] at hN
  exact (List.cons.inj hN).1
end
end
section
open Go.RowKit
theorem Ext.to_upd {w W:World} (h:Ext w W):Upd [] w W:=⟨h.out.os,h.out.tape,h.out.output,h.size,fun k hk _=>h.out.block k hk⟩
theorem row_some {W:World} {e base sz n c:Nat} {A:Option Addr} {xs:List Value} (h:W.ownsRow base e sz (.slice A n c) n xs) (h0:0 < n):∃ g,A=some ⟨g,0,none⟩:=by
 rcases h.2 with ⟨hv,hm0⟩ | ⟨g,cap,cur,hv, _⟩
 ·omega
 ·injection hv with h1 h2 h3; exact ⟨g,h1⟩
theorem St.lentRow {W:World} {e sz n:Nat} {v:Value} {xs:List Value} (h:W.ownsRow 0 e sz v n xs):St W v.ownBlock.toList [eO e sz v n xs] W:=by
 refine ⟨Upd.refl _ _,fun x hx=>?_,List.pairwise_singleton _ _⟩
 rw [List.mem_singleton] at hx
 subst hx
 exact ⟨h,eO_loc _ _ _ _ _,fun k hk=>⟨.inl hk,own0_block h k (by simpa [eO] using hk)⟩⟩
theorem idxP_spec {α:Type} (p:α→Bool):∀ (l:List α) (k:Nat),(idxP p (k:Int) l= -1∧l.any p=false)∨∃ i:Nat,i < l.length∧idxP p (k:Int) l=((k+i:Nat):Int)∧(l.take i).any p=false∧∃ x,l[i]? =some x∧p x=true
 | [],k=> .inl ⟨rfl,rfl⟩
 | x::l,k=>by
   rw [idxP]
   cases hx:p x with
   | true=>exact .inr ⟨0,by simp,by rw [if_pos rfl]; simp,rfl,x,rfl,hx⟩
   | false=>
     rw [if_neg (by decide)]
     rcases idxP_spec p l (k+1) with ⟨h1,h2⟩ | ⟨i,h1,h2,h3,y,h4,h5⟩
     ·exact .inl ⟨by rw [show ((k:Int)+1)=((k+1:Nat):Int) by omega]; exact h1,by rw [List.any_cons,hx,h2]; rfl⟩
     ·refine .inr ⟨i+1,by simpa using h1,by rw [show ((k:Int)+1)=((k+1:Nat):Int) by omega,h2]; omega,by rw [List.take_succ_cons,List.any_cons,hx,h3]; rfl,y,by simpa using h4,h5⟩
theorem idxP_spec0 {α:Type} (p:α→Bool) (l:List α):(idxP p 0 l= -1∧l.any p=false)∨∃ i:Nat,i < l.length∧idxP p 0 l=(i:Int)∧(l.take i).any p=false∧∃ x,l[i]? =some x∧p x=true:=by
 rcases idxP_spec p l 0 with ⟨h1,h2⟩ | ⟨i,h1,h2,h3⟩
 ·exact .inl ⟨h1,h2⟩
 ·exact .inr ⟨i,h1,by rw [show ((0+i:Nat):Int)=(i:Int) by omega] at h2; exact h2,h3⟩
theorem filt_all {α:Type} {p:α→Bool} {l:List α} (h:l.any p=false):l.filter (fun x=>!p x)=l:=by
 rw [List.filter_eq_self]
 intro x hx
 have:=List.any_eq_false.1 h x hx
 simpa using this
theorem df_init {α:Type} {p:α→Bool} {l:List α} {i:Nat} {x:α} (h:(l.take i).any p=false) (hx:l[i]? =some x) (hp:p x=true):l.take i=(l.take (i+1)).filter fun x=>!p x:=by
 rw [List.take_add_one,hx,Option.toList,List.filter_append,filt_all h,List.filter_cons_of_neg (by rw [hp]; decide),List.filter_nil,List.append_nil]
theorem df_keep {α:Type} {p:α→Bool} {l zs:List α} {i j:Nat} {x:α} (h1:zs.take i=(l.take j).filter fun x=>!p x) (h2:zs.drop j=l.drop j) (hij:i < j) (hj:j < zs.length) (hx:zs[j]? =some x) (hp:(!(p x))=true):(zs.set i x).take (i+1)=(l.take (j+1)).filter fun x=>!p x:=by
 have hlx:l[j]? =some x:=by
  have:=congrArg (fun q:List α=>q[0]?) h2
  simp only [List.getElem?_drop,Nat.add_zero] at this
  rw [← this]; exact hx
 rw [List.take_add_one (l:=l),hlx,Option.toList,List.filter_append,List.filter_cons_of_pos (by exact hp),List.filter_nil,← h1,List.take_set,List.take_add_one,List.set_append_right _ _ (by rw [List.length_take]; omega)]
 rw [List.getElem?_eq_getElem (show i < zs.length by omega),Option.toList,List.length_take,Nat.min_eq_left (by omega),Nat.sub_self]; rfl
theorem df_drop {α:Type} {p:α→Bool} {l zs:List α} {i j:Nat} {x:α} (h1:zs.take i=(l.take j).filter fun x=>!p x) (h2:zs.drop j=l.drop j) (hx:zs[j]? =some x) (hp:(!(p x))=false):zs.take i=(l.take (j+1)).filter fun x=>!p x:=by
 have hlx:l[j]? =some x:=by
  have:=congrArg (fun q:List α=>q[0]?) h2
  simp only [List.getElem?_drop,Nat.add_zero] at this
  rw [← this]; exact hx
 rw [List.take_add_one,hlx,Option.toList,List.filter_append,List.filter_cons_of_neg (by rw [hp]; decide),List.filter_nil,List.append_nil]; exact h1
theorem df_tail {α:Type} {l zs:List α} {j:Nat} (h2:zs.drop j=l.drop j):zs.drop (j+1)=l.drop (j+1):=by
 rw [← List.drop_drop,h2,List.drop_drop]
theorem df_tail' {α:Type} {l zs:List α} {i j:Nat} {x:α} (hij:i < j) (h2:zs.drop j=l.drop j):(zs.set i x).drop (j+1)=l.drop (j+1):=by
 rw [List.drop_set_of_lt (by omega)]; exact df_tail h2
def DfPost (A:Option Addr) (m c:Nat) (l:List EnD) (w:World) (e:Ending) (w':World):Prop:=e= .returned (.slice A l.length c)∧(∃ rest,w'.ownsRow 0 89 3 (.slice A m c) m (l.flatMap enC++rest))∧Upd (Value.ownBlock (.slice A m c)).toList w w'
theorem kdel_any (FA:Option Addr) (fc:Nat) (ks:List EnD) (f0:FuncId) (cap:Array Value) (p:EnD→Bool) (w:World) (hO:w.ownsRow 0 89 3 (.slice FA ks.length fc) ks.length (ks.flatMap enC)) (hl:ks.length≤100000) (hcf:callP Tryz.prog f0=true) (hf:∀ (W:World) (k:EnD),Upd (Value.ownBlock (.slice FA ks.length fc)).toList w W→Calls Tryz.prog f0 (#[.agg #[.string k.1, .int .i64 (k.2.1:Int), .int .i64 k.2.2]]++cap) W (Ret (.bool (p k)) W)):
  Calls Tryz.prog 32 #[.slice FA ks.length fc, .func (.func f0) #[] cap] w (DfPost FA ks.length fc (ks.filter (fun k=>!(p k))) w):=by
 have st0:=St.lentRow hO
 have hcap:=eown_capN hO
 go_enter Tryz.func32,Tryz.ntmps32
 have hst0:=st0
 refine wp_seq (sqr (sqp [.k 4 (.slice none 0 0)] ?_))
 refine then_normal (wp_seq (sqr (sqp [.m 8 0, .m 9 1] ?_)))
 refine sqv (vi ((idxP p 0 ks))) hst0 (sv_call rfl rfl rfl rfl rfl (fun _ _ _ h=>h) fun ρ β W X cx=>⟨_, _,run_callF (args:=#[.slice FA ks.length fc, .func (.func f0) #[] cap]) rfl cx.sees rfl (by kernel_rfl) (map2 (cx.ou 8) (cx.ou 9)),kidx_any _ _ ks _ _ p _ (At.of_ownN (cx.ri 0 rfl)) hl hcf (fun W k hW=>hf W k (cx.upd.join hW.to_upd (fun i hi=>by cases hi)))⟩) fun W4 hst4=>?_
 refine sqp [.m 5 10] ?_
 refine then_normal (wp_seq (wp_seq ?_))
 obtain ⟨ix,hN_ix⟩:∃ z,(idxP p 0 ks)=z:=⟨_,rfl⟩
 rw [hN_ix]
 rcases idxP_spec0 p ks with ⟨hi1,hi2⟩ | ⟨i0,hi1,hi2,hi3,x0,hi4,hi5⟩
 ·rw [hN_ix] at hi1
  subst hi1
  refine sqr (sqp [.m 11 5, .k 12 (.bool true)] ?_)
  refine then_normal (wct rfl (wp_seq (sqr (sqp [.m 13 0, .m 4 13] ?_))))
  refine then_normal (wp_ret (then_ret ?_))
  refine bpr (.slice FA ks.length fc) (results_1 Tryz.results32 rpt) ?_
  rw [show ks.filter (fun k=>!(p k))=ks from filt_all hi2]; exact ⟨rfl,⟨[],by rw [List.append_nil]; exact (hst4.get 0 rfl).holds⟩,hst4.upd⟩
 ·rw [hN_ix] at hi2
  subst hi2
  obtain ⟨g,rfl⟩:=row_some hO (show 0 < ks.length by omega)
  refine sqr ?_
  have hd12:((i0:Int)==(-1))=false:=(by rw [beq_eq_false_iff_ne]; omega)
  refine sqp [.m 11 5, .e 12 (.bool ((i0:Int)==(-1))) (.bool false) (congrArg Value.bool hd12)] ?_
  refine then_normal (wcf rfl (wp_skip (then_normal (wp_seq (wp_seq (sqr (sqp [.m 14 5,sI 15 ((i0:Int)+1) (by omega), .m 6 15] ?_)))))))
  refine then_normal (wp_block ?_)
  refine wp_loopT (fun t_ mz az W=>∃ i:Nat,∃ j:Nat,∃ zs:List EnD,(i < j∧j≤ks.length)∧zs.length=ks.length∧zs.take i=(ks.take j).filter (fun k=>!(p k))∧zs.drop j=ks.drop j∧mz=ks.length - j∧az=⟨(ovr (jv az) [(5,5,0,[vi ((i:Int)),vi ((j:Int))]),(0,7,1,[]),(8,16,20,[])] t_).toArray,[]⟩∧St w (Value.ownBlock (.slice (some ⟨g,0,none⟩) ks.length fc)).toList [eO 89 3 (.slice (some ⟨g,0,none⟩) ks.length fc) ks.length (zs.flatMap enC)] W) (ks.length - ((i0+1))) ?_ ?_
  · -- the loop begins
    exact ⟨i0,(i0+1),ks,⟨by omega,by omega⟩,rfl,df_init hi3 hi4 hi5,rfl,rfl,(by kernel_rfl),hst4.pk [0]⟩
  rintro n16 a16 W16 ⟨i,j,zs,hij,hzl,hz1,hz2,rfl,hj_,hst16⟩
  refine ovz hj_ fun u16_=>?_
  refine wp_seq (wp_seq (sqr (sqp [.m 16 6, .m 17 0, .k 18 (vi ((ks.length:Int))), .k 19 (.bool (decide ((j:Int) < (ks.length:Int))))] ?_)))
  refine then_normal (wds (fun hs21 hs21p=>?_) fun hs21 hs21p=>?_)
  ·refine wp_skip (then_normal (wp_seq (wp_block (wp_seq ?_))))
   obtain ⟨kx,ky,kz,hkj⟩:=getE3 (l:=zs) (k:=j) (by omega)
   refine sqr (sqp [.m 22 0, .m 23 6] ?_)
   refine sql (.pointer (some ((ad ((some ⟨g,0,none⟩))).add (j*3)))) hst16 (fun cx=>run_indexSlM (e:=89) (m:=j) (sz:=3) rfl (by kernel_rfl) (by kernel_rfl) (cx.ou 22) (cx.ou 23) (by omega) (by omega) (At.of_ownN (cx.ri 0 rfl)) (flatPos (sz:=3) enC_len (by decide) (by omega))) ?_
   refine sql (.agg #[.string kx,vi ((ky:Int)),vi kz]) hst16 (fun cx=>run_loadElt (f:=enC) (m:=j) (sz:=3) (off:=0) (n:=3) rfl (by kernel_rfl) (by kernel_rfl) (cx.ou 24) rfl enC_len (At.of_ownN (cx.ri 0 rfl)) hkj (fun k hk=>match k,hk with | 0, _=>rfl | 1, _=>rfl | 2, _=>rfl | k+3,hk=>absurd hk (by omega))) ?_
   refine sqal #[.string ByteArray.empty,vi 0,vi 0] hst16 fun B7_26 W26 hst26=>?_
   refine sqst (n:=3) 1 #[.string kx,vi ((ky:Int)),vi kz] hst26 fun W27 hst27=>?_
   refine then_normal (wp_seq (sqr (sqp [.m 26 1] ?_)))
   refine sqlb 1 3 hst27 ?_
   refine sqv (.bool ((p (kx,ky,kz)))) hst27 (sv_call rfl rfl rfl rfl rfl (fun _ _ _ h=>h) fun ρ β W X cx=>⟨_, _,run_callV (f:=f0) (args:=#[.agg #[.string kx,vi ((ky:Int)),vi kz]]) (args':=#[.agg #[.string kx,vi ((ky:Int)),vi kz]]++cap) rfl rfl (cx.ou 26) hcf (map1 (cx.ou 27)) (by rw [Array.empty_append]),(by have h9:=hf W (kx,ky,kz) cx.upd; dsimp only at h9; exact h9)⟩) fun W30 hst30=>?_
   refine sqp [.k 29 (.bool (!((p (kx,ky,kz)))))] ?_
   refine then_normal ?_
   rcases Bool.eq_false_or_eq_true ((p (kx,ky,kz))) with hs32 | hs32
   ·refine wp_cond_false (show Act.eval _ _= .bool false from (congrArg Value.bool (by rw [hs32]; rfl))) (wp_skip (blk_normal (then_normal (sqr (sqp [.m 20 6,sI 21 ((j:Int)+1) (by omega), .m 6 21] ?_)))))
    refine then_normal ?_
    refine ⟨ks.length - ((j+1)),by omega,?_⟩
    exact ⟨i,(j+1),zs,⟨by omega,by omega⟩,hzl,df_drop hz1 hz2 hkj (by rw [hs32]; rfl),df_tail hz2,rfl,(by kernel_rfl),hst30.pk [0]⟩
   refine wp_cond_true (show Act.eval _ _= .bool true from (congrArg Value.bool (by rw [hs32]; rfl))) (wp_seq (sqr (sqp [.m 30 0, .m 31 5] ?_)))
   refine sqlb 1 3 hst30 ?_
   refine sql (.pointer (some ((ad ((some ⟨g,0,none⟩))).add (i*3)))) hst30 (fun cx=>run_indexSlM (e:=89) (m:=i) (sz:=3) rfl (by kernel_rfl) (by kernel_rfl) (cx.ou 30) (cx.ou 31) (by omega) (by omega) (At.of_ownN (cx.ri 0 rfl)) (flatPos (sz:=3) enC_len (by decide) (by omega))) ?_
   refine sqc (eO 89 3 (.slice (some ⟨g,0,none⟩) ks.length fc) ks.length ((zs.set i (kx,ky,kz)).flatMap enC)) 0 hst30 (by
     refine svA fun ρ β W X cx=>?_
     exact dv_storeElt (m:=i*3) (n:=ks.length) (sz:=3) (k:=3) rfl (cx.ou 33) (show _=Value.agg #[.string kx,vi ((ky:Int)),vi kz] from (cx.ou 32)) (by kernel_rfl) (by kernel_rfl) (by kernel_rfl) cx (cx.init 0 _ rfl) rfl (by omega) (by decide) rfl (putL_flat enC_len (ts:=zs) (m:=i) (by omega) (kx,ky,kz)) rfl rfl (fun σ β' X' hs hb hx=>hx)) fun W40 hst40=>?_
   refine then_normal (sqr (sqp [.m 34 5,sI 35 ((i:Int)+1) (by omega), .m 5 35] ?_))
   refine blk_normal (then_normal (sqr (sqp [.m 20 6,sI 21 ((j:Int)+1) (by omega), .m 6 21] ?_)))
   refine then_normal ?_
   refine ⟨ks.length - ((j+1)),by omega,?_⟩
   exact ⟨(i+1),(j+1),(zs.set i (kx,ky,kz)),⟨by omega,by omega⟩,by rw [List.length_set]; exact hzl,df_keep hz1 hz2 hij.1 (by omega) hkj (by rw [hs32]; rfl),df_tail' hij.1 hz2,rfl,(by kernel_rfl),hst40.pk [0]⟩
  refine wp_exit (then_exit (then_exit (blk_eq (then_normal (wp_seq ?_)))))
  rw [show zs.flatMap enC=(zs.take i).flatMap enC++(zs.drop i).flatMap enC by rw [← List.flatMap_append,List.take_append_drop]] at hst16
  have hje:j=ks.length:=by omega
  have hfin:zs.take i=ks.filter (fun k=>!(p k)):=by rw [hz1,List.take_of_length_le (by omega)]
  have hfl:(ks.filter (fun k=>!(p k))).length=i:=by rw [← hfin,List.length_take]; omega
  refine sqr (sqp [.m 36 0, .m 37 5] ?_)
  refine sql (.slice ((some ⟨g,i*3,none⟩)) ((ks.length - i)) ((fc - i))) hst16 (fun cx=>run_sliceB_lo (e:=89) (sz:=3) (l:=i) rfl (by kernel_rfl) (by kernel_rfl) (cx.ou 36) (cx.ou 37) (by omega) (by omega) (by omega)) ?_
  refine sqc (eCl 89 3 g ks.length fc ((zs.take i).flatMap enC)) 0 hst16 (by
    refine svA fun ρ β W X cx=>?_
    exact dv_clear (sz:=3) (e:=89) (m:=i*3) (k:=(ks.length - i)) (zs:=[.string ByteArray.empty,vi 0,vi 0]) rfl (cx.ou 38) (by kernel_rfl) (fun W=>by kernel_rfl) rfl (by decide) cx (cx.init 0 _ rfl) rfl (by rw [flatLen enC_len,List.length_take]; omega) (by omega) (by omega) rfl rfl rfl (fun σ β' X' hs hb hx=>hx)) fun W50 hst50=>?_
  refine then_normal (wp_seq (sqr (sqp [.m 39 0, .m 40 5] ?_)))
  refine sql (.slice ((some ⟨g,0,none⟩)) i fc) hst50 (fun cx=>run_sliceL_hi (e:=89) (sz:=3) (m:=i) rfl (by kernel_rfl) (by kernel_rfl) (cx.ou 39) (cx.ou 40) (by omega) (by omega)) ?_
  refine sqp [.m 4 41] ?_
  refine then_normal (wp_ret ?_)
  refine bpr (.slice ((some ⟨g,0,none⟩)) i fc) (results_1 Tryz.results32 rpt) ?_
  obtain ⟨rest,hown_⟩:=(hst50.get 0 rfl).holds
  rw [hfin] at hown_
  exact ⟨by rw [hfl],⟨rest,hown_⟩,hst50.upd⟩
end
section
open Go.RowKit
theorem edC_one (l:List EdT):∀ u∈l.flatMap edC,Value.oneCell' u=true:=fun u hu=>by
 obtain ⟨p, _,hp⟩:=List.mem_flatMap.1 hu
 simp only [edC,List.mem_cons,List.not_mem_nil,or_false] at hp
 rcases hp with rfl | rfl | rfl<;>rfl
theorem ed_join (A B:List EdT):A.flatMap edC++B.flatMap edC=(A++B).flatMap edC:=by rw [List.flatMap_append]
theorem itB_one {lv k:Int} {x:ByteArray} (h:0 < lv):itB lv k x=itB 1 k x:=by rw [itB,itB,if_pos h,if_pos (by decide)]
def sBk:Value→Nat
 | .slice (some a) _ _=>a.block
 | _=>0
def EdPost1 (l:List EdT) (w:World) (e:Ending) (w':World):Prop:=∃ g c,e= .returned (.slice (some ⟨g,0,none⟩) l.length c)∧w'.ownsRow w.heap.size 67 3 (.slice (some ⟨g,0,none⟩) l.length c) l.length (l.flatMap edC)∧Ext w w'
theorem ed_some {l:List EdT} {f:FuncId} {args:Array Value} {w:World} (h0:0 < l.length) (h:Calls Tryz.prog f args w (EdPost l w)):Calls Tryz.prog f args w (EdPost1 l w):=h.mono fun e w' ⟨A,c,h1,h2,h3⟩=>by
 rcases h2.2 with ⟨hv, _⟩ | ⟨g,cap,cur,hv, _⟩
 ·injection hv with h4 h5 h6; omega
 ·have hv2:=hv
  injection hv with h5 h6 h7
  subst h5
  exact ⟨g,c,h1,h2,h3⟩
theorem freshE_len (pg lv rt:Int) (hi:ByteArray) (es:List EnD):(freshE pg lv rt hi es).length=es.length+2:=by
 have e:∀ (es:List EnD) (k:Nat),(itsE pg lv k es).length=es.length:=by
  intro es
  induction es with
  | nil=>intro k; rfl
  | cons x l ih=>intro k; rw [itsE,List.length_cons,ih,List.length_cons]
 rw [freshE,List.length_append,e]
 show 2+ _= _
 omega
theorem clearE_len (pg:Int) (es:List EnD):(clearE pg es).length=es.length:=List.length_map _
theorem kclear_any (pg:Int) (EA:Option Addr) (ec n:Nat) (es:List EnD) (w:World) (hE:At w EA (es.flatMap enC)) (hn:es.length=n) (hnb:n≤1000):
  Calls Tryz.prog 34 #[.int .i64 pg, .slice EA n ec] w (EdPost (clearE pg es) w):=by
 go_enter Tryz.func34,Tryz.ntmps34
 have hst0:=St.start w
 refine wp_seq (sqr (sqp [.k 4 (.slice none 0 0)] ?_))
 refine then_normal (wp_seq (sqr (sqp [.k 5 (.slice none 0 0)] ?_)))
 refine then_normal (wp_seq (wp_seq (sqr (sqp [.m 8 1, .k 9 (vi ((n:Int))), .k 10 (vi 0)] ?_))))
 refine then_normal (wp_block ?_)
 have hn6:=nilrowN hst0 67 3
 simp only [List.cons_append,List.nil_append] at hn6
 refine wp_loopT (fun t_ mz az W=>∃ i:Nat,∃ nn:Nat,∃ O:List EdT,∃ OA:Option Addr,∃ OC:Nat,i≤n∧O=clearE pg (es.take i)∧O.length=nn∧nn≤10+i∧mz=n - i∧az=⟨(ovr (jv az) [(5,5,0,[.slice OA nn OC]),(1,7,1,[]),(2,10,0,[vi ((i:Int))]),(0,11,11,[])] t_).toArray,[]⟩∧St w [] [eO 67 3 (.slice OA nn OC) nn (O.flatMap edC)] W) (n - 0) ?_ ?_
 · -- the loop begins
   exact ⟨0,0,([]:List EdT),none,0,Nat.zero_le _,rfl,rfl,by omega,rfl,(by kernel_rfl),hn6.pk [0]⟩
 rintro n7 a7 W7 ⟨i,nn,O,OA,OC,hi,hO,hOl,hnn,rfl,hj_,hst7⟩
 refine ovz hj_ fun u7_=>?_
 refine wp_seq (sqr (sqp [.k 11 (.bool (decide ((i:Int) < (n:Int))))] ?_))
 refine then_normal (wp_seq (wds (fun hs9 hs9p=>?_) fun hs9 hs9p=>?_))
 ·refine wp_skip (then_normal (wp_seq (wp_block (wp_seq (sqr ?_)))))
  refine sql (.pointer (some ((ad EA).add (i*3)))) hst7 (fun cx=>run_indexSlM (e:=89) (m:=i) (sz:=3) rfl (by kernel_rfl) (by kernel_rfl) (cx.ou 8) (cx.ou 10) (by omega) (by omega) (hE.ext cx.upd.to_ext) (flatPos (sz:=3) enC_len (by decide) (by omega))) ?_
  refine sql (.agg #[.string ((es.getD i en0).1),vi (((es.getD i en0).2.1:Int)),vi ((es.getD i en0).2.2)]) hst7 (fun cx=>run_loadElt (f:=enC) (m:=i) (sz:=3) (off:=0) (n:=3) rfl (by kernel_rfl) (by kernel_rfl) (cx.ou 12) rfl enC_len (hE.ext cx.upd.to_ext) (en_get (by omega)) (fun k hk=>match k,hk with | 0, _=>rfl | 1, _=>rfl | 2, _=>rfl | k+3,hk=>absurd hk (by omega))) ?_
  refine sqal #[.string ByteArray.empty,vi 0,vi 0] hst7 fun B7_12 W12 hst12=>?_
  refine sqst (n:=3) 1 #[.string ((es.getD i en0).1),vi (((es.getD i en0).2.1:Int)),vi ((es.getD i en0).2.2)] hst12 fun W13 hst13=>?_
  refine then_normal (sqr (sqp [.m 14 5, .m 15 0, .k 16 (.pointer (some ⟨B7_12,1,none⟩))] ?_))
  refine sqld 1 hst13 ?_
  refine sqp [.k 18 (.agg #[vi pg,vi (((es.getD i en0).2.1:Int)), .string ByteArray.empty])] ?_
  refine sqli 67 3 1 (edC (pg,((es.getD i en0).2.1:Int),ByteArray.empty)) hst13 (@fun ρ β W X cx=>by have fF18:ρ (.tmp 18)= .agg #[vi pg,vi (((es.getD i en0).2.1:Int)), .string ByteArray.empty]:=(cx.ou 18); simp [go_sem,fF18,edC]) fun B19_19 W19 hst19=>?_
  refine sqap (nn+1) ((O++[(pg,((es.getD i en0).2.1:Int),ByteArray.empty)]).flatMap edC) 0 hst19 Tryz.infoEdit (fun cx=>(At.of_ownN (cx.ri 2 rfl))) (h1:=by simp [edC,Value.oneCell']) (hxs:=ed_snoc _ _) fun A20_20 c20_20 W20 hst20=>?_
  refine sqp [.m 5 20] ?_
  refine blk_normal (then_normal (sqr (sqp [sI 21 ((i:Int)+1) (by omega), .m 10 21] ?_)))
  refine then_normal ?_
  refine ⟨n - ((i+1)),by omega,?_⟩
  exact ⟨(i+1),(nn+1),(O++[(pg,((es.getD i en0).2.1:Int),ByteArray.empty)]),A20_20,c20_20,by omega,by rw [hO,clearE_snoc (by omega)],by rw [List.length_append,hOl]; rfl,by omega,rfl,(by kernel_rfl),hst20.pk [0]⟩
 refine wp_exit (then_exit (then_exit (blk_eq (then_normal (wp_seq (sqr (sqp [.m 22 5, .m 4 22] ?_)))))))
 refine then_normal (wp_ret ?_)
 refine bpr (.slice OA nn OC) (results_1 Tryz.results34 rpt) ?_
 rw [clearE_all (by omega)] at hO
 rw [hO] at hst7 hOl
 rw [← hOl] at hst7 ⊢
 have ho_:=hst7.own' 0 rfl
 exact ⟨_, _,rfl,ho_,hst7.ext⟩
theorem kgrow_any (b:Nat) (root pos leaf fro to:Int) (spl:Bool) (la:Addr) (ln lc:Nat) (nd:NoD) (np pg:Int) (EA:Option Addr) (ec:Nat) (w:World) (hb:Blk w b 123 #[.int .i64 root, .int .i64 pos, .int .i64 leaf, .slice ((some la)) ln lc, .int .i64 fro, .int .i64 to, .bool spl]) (hE:∀ W,Upd [b] w W→At W EA (nd.es.flatMap enC)) (hez:∀ e∈nd.es,e.1.size≤1000000) (hnb:nd.es.length≤1000) (hlv:0≤nd.lv∧nd.lv≤255) (hpg:0≤pg∧pg≤1000000) (hes:0 < nd.es.length):
  Calls Tryz.prog 57 #[.pointer (some ⟨b,0,none⟩), .agg #[.int .i64 np, .int .i64 nd.lv, .int .i64 nd.right, .string nd.high, .bool nd.dead, .slice EA nd.es.length ec, .int .i64 ((nd.free:Int))], .int .i64 pg] w (PtPost b #[.int .i64 root, .int .i64 pg, .int .i64 leaf, .slice ((some la)) ln lc, .int .i64 fro, .int .i64 to, .bool spl] (growE root nd pg) w):=by
 have hcl_:=clearE_len root nd.es
 have hfl_:=freshE_len pg nd.lv (-1) ByteArray.empty nd.es
 have st0:=St.lend (E:=eB b 123 #[.int .i64 root, .int .i64 pos, .int .i64 leaf, .slice ((some la)) ln lc, .int .i64 fro, .int .i64 to, .bool spl]) hb (eB_loc _ _ _) (fun k hk=>by simp [eB] at hk; subst hk; exact hb.lt)
 go_enter Tryz.func57,Tryz.ntmps57
 have hst0:=st0
 refine wp_seq (sqr ?_)
 refine sqbx #[vi np,vi nd.lv,vi nd.right, .string nd.high, .bool nd.dead, .slice EA nd.es.length ec,vi ((nd.free:Int))] hst0 fun B4_1 W1 hst1=>?_
 refine sqp [.k 6 (.slice none 0 0)] ?_
 refine then_normal (wp_seq (sqr (sqp [.m 9 2, .k 10 (.pointer (some ⟨B4_1,1,none⟩))] ?_)))
 refine sqld 1 hst1 ?_
 refine sqp [.k 12 (.pointer (some ⟨B4_1,5,none⟩))] ?_
 refine sqld 1 hst1 ?_
 refine sqp [.k 14 (.agg #[vi 0,vi nd.lv,vi (-1), .string ByteArray.empty, .bool false, .slice EA nd.es.length ec,vi 0])] ?_
 refine sqk2 (fun A15_9 c15_9=> .slice A15_9 ((freshE pg nd.lv (-1) ByteArray.empty nd.es).length) c15_9) (fun A15_9 c15_9=>eO 67 3 (.slice A15_9 ((freshE pg nd.lv (-1) ByteArray.empty nd.es).length) c15_9) ((freshE pg nd.lv (-1) ByteArray.empty nd.es).length) ((freshE pg nd.lv (-1) ByteArray.empty nd.es).flatMap edC)) hst1 (fun cx=>⟨_,(kfresh_any pg 0 nd.lv (-1) 0 ByteArray.empty _ _ _ nd.es _ (hE _ cx.upd) rfl hez (by omega) (by omega) (by omega) (by decide)).mono (by rintro e W1 ⟨A4,c4,rfl,ho_,hx⟩; exact ⟨_, _,rfl,St.one hx (eO_new (n:=(freshE pg nd.lv (-1) ByteArray.empty nd.es).length) (xs:=(freshE pg nd.lv (-1) ByteArray.empty nd.es).flatMap edC) ho_)⟩),(map2 (cx.ou 9) (cx.ou 14))⟩) fun A15_9 c15_9 W9 hst9=>?_
 refine sqp [.m 7 15] ?_
 refine then_normal (wp_seq (sqr (sqp [.k 16 (.pointer (some ⟨B4_1,1,none⟩))] ?_)))
 refine sqld 1 hst9 ?_
 refine sqp [sI 18 (nd.lv+1) (by omega), .k 19 (.agg #[vi 0,vi (nd.lv+1),vi (-1), .string ByteArray.empty, .bool false, .slice none 0 0,vi 0])] ?_
 refine sqal #[vi 0,vi 0,vi 0, .string ByteArray.empty, .bool false, .slice none 0 0,vi 0] hst9 fun B8_15 W15 hst15=>?_
 refine sqst (n:=7) 3 #[vi 0,vi (nd.lv+1),vi (-1), .string ByteArray.empty, .bool false, .slice none 0 0,vi 0] hst15 fun W16 hst16=>?_
 refine then_normal (wp_seq (wp_region_Y [0,0,2,6,14,0,32,126,254,511,1023] [[],[],[],[],[0],[3],[],[],[],[4,2]] [[],[],[],[],[],[],[],[],[4],[5]] [[],[],[],[],[],[],[],[],[],[2]] [.k 20 (.slice A15_9 ((freshE pg nd.lv (-1) ByteArray.empty nd.es).length) c15_9), .k 21 (vp b), .k 22 (vp b), .k 23 (vp b), .c 24 (vi root), .c 25 (.agg #[vi 0,vi (nd.lv+1),vi (-1), .string ByteArray.empty, .bool false, .slice none 0 0,vi 0]), .c 26 (.string (hdB (nd.lv+1) (-1) false ByteArray.empty)), .k 27 (.agg #[vi root,vi 0, .string (hdB (nd.lv+1) (-1) false ByteArray.empty)]), .a 28, .a 29, .a 7] (fun ix σ β X=>match ix with | 0=>True | 1=>True | 2=>True | 3=>True | 4=>True | 5=>True | 6=>True | 7=>True | 8=>σ 28= .slice ((some ⟨(pb' (β 28)),0,none⟩)) 1 1∧X 4=eO 67 3 (.slice ((some ⟨(pb' (β 28)),0,none⟩)) 1 1) 1 (edC (root,0,hdB (nd.lv+1) (-1) false ByteArray.empty)) | 9=>σ 29= .slice (sA (β 29)) ((freshE pg nd.lv (-1) ByteArray.empty nd.es).length+1) (sC (β 29))∧X 5=eO 67 3 (.slice (sA (β 29)) ((freshE pg nd.lv (-1) ByteArray.empty nd.es).length+1) (sC (β 29))) ((freshE pg nd.lv (-1) ByteArray.empty nd.es).length+1) (((freshE pg nd.lv (-1) ByteArray.empty nd.es)++[(root,0,hdB (nd.lv+1) (-1) false ByteArray.empty)]).flatMap edC) | 10=>σ 7= .slice (sA (β 29)) ((freshE pg nd.lv (-1) ByteArray.empty nd.es).length+1) (sC (β 29)) | _=>True) [0,1,3,4,5] [4,5,6,8,9,10] [(7,10,1,8),(12,0,10,22)] hst16 ?_ ?_ ?_))
 ·exact fun ix _ _ _ _ _ _ hs hb hx h=>match ix,h with
  | 8,h=>by dsimp only; rw [← hs 28 rfl,← hb 28 rfl,← hx 4 rfl]; exact h
  | 9,h=>by dsimp only; rw [← hs 29 rfl,← hb 29 rfl,← hx 5 rfl]; exact h
  | 10,h=>by dsimp only; rw [← hs 7 rfl,← hb 29 rfl]; exact h
  | 0, _ | 1, _ | 2, _ | 3, _ | 4, _ | 5, _ | 6, _ | 7, _ | _+11, _=>trivial
 ·refine ⟨?_,?_,?_,?_,?_,?_,trivial⟩
  ·exact xs4 rfl id fun cx=>run_load1 rfl (by kernel_rfl) (cx.an 3) ((cx.bi 0 rfl).cell 0)
  ·exact xs4 rfl id fun cx=>run_loadB (n:=7) rfl (by kernel_rfl) (by kernel_rfl) (cx.ou 8) (cx.bi 3 rfl) (nle rfl) rfl
  ·exact xsc rfl id rfl rfl fun cx=>⟨_,khead_le 0 (nd.lv+1) (-1) 0 ByteArray.empty false _ _ _ _ (by omega) (by omega) (by first | omega | decide),(map1 (cx.an 5))⟩
  ·refine svA fun ρ β W X cx=>?_
   have fF27:ρ (.tmp 27)= .agg #[vi root,vi 0, .string (hdB (nd.lv+1) (-1) false ByteArray.empty)]:=(cx.an 7)
   exact dv_litN (e:=67) (sz:=3) (xs:=[vi root,vi 0, .string (hdB (nd.lv+1) (-1) false ByteArray.empty)]) rfl (by simp [go_sem,fF27]) rfl (by decide) rfl rfl (fun σ β' X' hs hb hv hx=>⟨hv,hx⟩)
  ·refine svA fun ρ β W X cx=>?_
   obtain ⟨i0,hi0,hz0,hz1,hz2⟩:=info_parts Tryz.infoEdit
   refine dv_appendN (n:=(freshE pg nd.lv (-1) ByteArray.empty nd.es).length) (m:=1) (nm:=(freshE pg nd.lv (-1) ByteArray.empty nd.es).length+1) (sz:=3) (xs:=(freshE pg nd.lv (-1) ByteArray.empty nd.es).flatMap edC) (news:=edC (root,0,hdB (nd.lv+1) (-1) false ByteArray.empty)) (xs':=((freshE pg nd.lv (-1) ByteArray.empty nd.es)++[(root,0,hdB (nd.lv+1) (-1) false ByteArray.empty)]).flatMap edC) rfl (ty:=28) rfl (by kernel_rfl) hi0 hz0 hz1 hz2 rfl (by decide) (cx.an 0) cx (cx.init 2 _ rfl) rfl (dTn (cx.an 8)).1 (by rfl) (At.of_ownN (cx.row (dTn (cx.an 8)).2 rfl)) (by simp [edC,Value.oneCell']) (by simp only [maxLen]; omega) (by omega) rfl rfl rfl (by omega) (ed_snoc _ _) (fun σ β' X' hs hb hv hx=>?_)
   exact ⟨hv,hx⟩
  ·exact sv rfl rfl rfl rfl rfl _ (fun _ _ _ h=>h) (fun β β' h=>by rw [h 29 (by decide)]) fun ρ β W X cx=>run_assign' rfl (dTn (cx.an 9)).1
 intro σ β X W17 hD hst17 fr hfr
 obtain ⟨B28_17,hu_B28_17⟩:∃ z,pb' (β 28)=z:=⟨_,rfl⟩
 obtain ⟨A29_17,hu_A29_17⟩:∃ z,sA (β 29)=z:=⟨_,rfl⟩
 obtain ⟨c29_17,hu_c29_17⟩:∃ z,sC (β 29)=z:=⟨_,rfl⟩
 simp only [exq 4 ((dTn (hD 8 lq)).2),exq 5 ((dTn (hD 9 lq)).2),hu_B28_17,hu_A29_17,hu_c29_17] at hst17
 simp only [ed 28 ((dTn (hD 8 lq)).1),ed 29 ((dTn (hD 9 lq)).1),ed 7 ((dTn (hD 10 lq))),hu_B28_17,hu_A29_17,hu_c29_17] at hfr
 clear hD hu_B28_17 hu_A29_17 hu_c29_17; subst hfr; clear σ β X
 refine then_normal (wp_seq (wp_region_Y [0,0,2,6,14,0,32,126,255,511] [[],[],[],[],[0],[],[1],[],[5,4]] [[],[],[],[],[],[],[],[5],[6]] [[],[],[],[],[],[],[],[],[4]] [.k 30 (.slice A29_17 ((freshE pg nd.lv (-1) ByteArray.empty nd.es).length+1) c29_17), .k 31 (vp b), .k 32 (vp b), .k 33 (vp b), .c 34 (vi root), .k 35 (.pointer (some ⟨B4_1,5,none⟩)), .c 36 (.slice EA nd.es.length ec), .a 37, .a 38, .a 7] (fun ix σ β X=>match ix with | 0=>True | 1=>True | 2=>True | 3=>True | 4=>True | 5=>True | 6=>True | 7=>σ 37= .slice ((some ⟨(sBk (β 37)),0,none⟩)) ((clearE root nd.es).length) (sC (β 37))∧X 5=eO 67 3 (.slice ((some ⟨(sBk (β 37)),0,none⟩)) ((clearE root nd.es).length) (sC (β 37))) ((clearE root nd.es).length) ((clearE root nd.es).flatMap edC) | 8=>σ 38= .slice (sA (β 38)) ((freshE pg nd.lv (-1) ByteArray.empty nd.es).length+1+(clearE root nd.es).length) (sC (β 38))∧X 6=eO 67 3 (.slice (sA (β 38)) ((freshE pg nd.lv (-1) ByteArray.empty nd.es).length+1+(clearE root nd.es).length) (sC (β 38))) ((freshE pg nd.lv (-1) ByteArray.empty nd.es).length+1+(clearE root nd.es).length) ((((freshE pg nd.lv (-1) ByteArray.empty nd.es)++[(root,0,hdB (nd.lv+1) (-1) false ByteArray.empty)])++(clearE root nd.es)).flatMap edC) | 9=>σ 7= .slice (sA (β 38)) ((freshE pg nd.lv (-1) ByteArray.empty nd.es).length+1+(clearE root nd.es).length) (sC (β 38)) | _=>True) [0,1,2,3,5,6] [4,6,7,8,9] [(7,9,1,8),(22,0,9,31)] hst17 ?_ ?_ ?_))
 ·exact fun ix _ _ _ _ _ _ hs hb hx h=>match ix,h with
  | 7,h=>by dsimp only; rw [← hs 37 rfl,← hb 37 rfl,← hx 5 rfl]; exact h
  | 8,h=>by dsimp only; rw [← hs 38 rfl,← hb 38 rfl,← hx 6 rfl]; exact h
  | 9,h=>by dsimp only; rw [← hs 7 rfl,← hb 38 rfl]; exact h
  | 0, _ | 1, _ | 2, _ | 3, _ | 4, _ | 5, _ | 6, _ | _+10, _=>trivial
 ·refine ⟨?_,?_,?_,?_,?_,trivial⟩
  ·exact xs4 rfl id fun cx=>run_load1 rfl (by kernel_rfl) (cx.an 3) ((cx.bi 0 rfl).cell 0)
  ·exact xs4 rfl id fun cx=>run_load1 rfl (by kernel_rfl) (cx.an 5) ((cx.bi 1 rfl).cell 5)
  ·refine svA fun ρ β W X cx=>?_
   refine DoesU.call (run_callF (args:=#[vi root, .slice EA nd.es.length ec]) rfl cx.sees rfl (by kernel_rfl) (map2 (cx.an 4) (cx.an 6))) ?_
   refine (ed_some (by omega) (kclear_any root _ _ _ nd.es _ (hE _ cx.upd) rfl (by omega))).mono ?_
   rintro e W1 ⟨G4,c4,rfl,ho_,hx⟩
   refine ⟨_,rfl,post_call [eO 67 3 (.slice (some ⟨G4,0,none⟩) (clearE root nd.es).length c4) (clearE root nd.es).length ((clearE root nd.es).flatMap edC)] rfl rfl hx (one_new (eO_new (n:=(clearE root nd.es).length) (xs:=(clearE root nd.es).flatMap edC) ho_)) (List.pairwise_singleton _ _) (fun σ β' X' hs hb hv hN=>?_)⟩
   have hv1:=(hv 37 rfl).1; have hv2:=(hv 37 rfl).2
   exact ⟨hv1.trans (by rw [hv2]; rfl),(by rw [hv2]; exact (List.cons.inj hN).1)⟩
  ·refine svA fun ρ β W X cx=>?_
   obtain ⟨i0,hi0,hz0,hz1,hz2⟩:=info_parts Tryz.infoEdit
   refine dv_appendN (n:=(freshE pg nd.lv (-1) ByteArray.empty nd.es).length+1) (m:=(clearE root nd.es).length) (nm:=(freshE pg nd.lv (-1) ByteArray.empty nd.es).length+1+(clearE root nd.es).length) (sz:=3) (xs:=((freshE pg nd.lv (-1) ByteArray.empty nd.es)++[(root,0,hdB (nd.lv+1) (-1) false ByteArray.empty)]).flatMap edC) (news:=(clearE root nd.es).flatMap edC) (xs':=(((freshE pg nd.lv (-1) ByteArray.empty nd.es)++[(root,0,hdB (nd.lv+1) (-1) false ByteArray.empty)])++(clearE root nd.es)).flatMap edC) rfl (ty:=28) rfl (by kernel_rfl) hi0 hz0 hz1 hz2 rfl (by decide) (cx.an 0) cx (cx.init 4 _ rfl) rfl (dTn (cx.an 7)).1 (by rw [flatLen edC_len]) (At.of_ownN (cx.row (dTn (cx.an 7)).2 rfl)) (edC_one _) (by simp only [maxLen]; omega) (by omega) rfl rfl rfl (by omega) (ed_join _ _) (fun σ β' X' hs hb hv hx=>?_)
   exact ⟨hv,hx⟩
  ·exact sv rfl rfl rfl rfl rfl _ (fun _ _ _ h=>h) (fun β β' h=>by rw [h 38 (by decide)]) fun ρ β W X cx=>run_assign' rfl (dTn (cx.an 8)).1
 intro σ β X W18 hD hst18 fr hfr
 obtain ⟨G37_18,hu_G37_18⟩:∃ z,sBk (β 37)=z:=⟨_,rfl⟩
 obtain ⟨c37_18,hu_c37_18⟩:∃ z,sC (β 37)=z:=⟨_,rfl⟩
 obtain ⟨A38_18,hu_A38_18⟩:∃ z,sA (β 38)=z:=⟨_,rfl⟩
 obtain ⟨c38_18,hu_c38_18⟩:∃ z,sC (β 38)=z:=⟨_,rfl⟩
 simp only [exq 5 ((dTn (hD 7 lq)).2),exq 6 ((dTn (hD 8 lq)).2),hu_G37_18,hu_c37_18,hu_A38_18,hu_c38_18] at hst18
 simp only [ed 37 ((dTn (hD 7 lq)).1),ed 38 ((dTn (hD 8 lq)).1),ed 7 ((dTn (hD 9 lq))),hu_G37_18,hu_c37_18,hu_A38_18,hu_c38_18] at hfr
 clear hD hu_G37_18 hu_c37_18 hu_A38_18 hu_c38_18; subst hfr; clear σ β X
 refine then_normal (wp_seq (sqr (sqp [.m 39 0, .m 40 2, .k 41 (vp b), .k 42 (.pointer (some ⟨b,1,none⟩))] ?_)))
 refine sqst (n:=1) 0 #[vi root,vi pg,vi leaf, .slice ((some la)) ln lc,vi fro,vi to, .bool spl] hst18 fun W23 hst23=>?_
 refine then_normal (wp_seq (wp_region_Y [0,0,2,6,14,0,0,0,192,480,1022,2046,4095,8191] [[],[],[],[],[0],[2],[],[],[],[],[],[],[6,5]] [[],[],[],[],[],[],[],[],[],[],[],[6],[7]] [[],[],[],[],[],[],[],[],[],[],[],[],[5]] [.k 43 (.slice A38_18 ((freshE pg nd.lv (-1) ByteArray.empty nd.es).length+1+(clearE root nd.es).length) c38_18), .k 44 (vp b), .k 45 (vp b), .k 46 (vp b), .c 47 (vi root), .c 48 (.agg #[vi 0,vi (nd.lv+1),vi (-1), .string ByteArray.empty, .bool false, .slice none 0 0,vi 0]), .c 49 (.string leastB), .k 50 (vi pg), .k 51 (.agg #[.string leastB,vi 0,vi pg]), .c 52 (.string (itB (nd.lv+1) pg leastB)), .k 53 (.agg #[vi root,vi 1, .string (itB (nd.lv+1) pg leastB)]), .a 54, .a 55, .a 6] (fun ix σ β X=>match ix with | 0=>True | 1=>True | 2=>True | 3=>True | 4=>True | 5=>True | 6=>True | 7=>True | 8=>True | 9=>True | 10=>True | 11=>σ 54= .slice ((some ⟨(pb' (β 54)),0,none⟩)) 1 1∧X 6=eO 67 3 (.slice ((some ⟨(pb' (β 54)),0,none⟩)) 1 1) 1 (edC (root,1,itB (nd.lv+1) pg leastB)) | 12=>σ 55= .slice (sA (β 55)) ((freshE pg nd.lv (-1) ByteArray.empty nd.es).length+1+(clearE root nd.es).length+1) (sC (β 55))∧X 7=eO 67 3 (.slice (sA (β 55)) ((freshE pg nd.lv (-1) ByteArray.empty nd.es).length+1+(clearE root nd.es).length+1) (sC (β 55))) ((freshE pg nd.lv (-1) ByteArray.empty nd.es).length+1+(clearE root nd.es).length+1) (((((freshE pg nd.lv (-1) ByteArray.empty nd.es)++[(root,0,hdB (nd.lv+1) (-1) false ByteArray.empty)])++(clearE root nd.es))++[(root,1,itB (nd.lv+1) pg leastB)]).flatMap edC) | 13=>σ 6= .slice (sA (β 55)) ((freshE pg nd.lv (-1) ByteArray.empty nd.es).length+1+(clearE root nd.es).length+1) (sC (β 55)) | _=>True) [0,1,2,3,4,6,7] [4,5,6,9,11,12,13] [(6,13,1,7),(36,0,13,49)] hst23 ?_ ?_ ?_))
 ·exact fun ix _ _ _ _ _ _ hs hb hx h=>match ix,h with
  | 11,h=>by dsimp only; rw [← hs 54 rfl,← hb 54 rfl,← hx 6 rfl]; exact h
  | 12,h=>by dsimp only; rw [← hs 55 rfl,← hb 55 rfl,← hx 7 rfl]; exact h
  | 13,h=>by dsimp only; rw [← hs 6 rfl,← hb 55 rfl]; exact h
  | 0, _ | 1, _ | 2, _ | 3, _ | 4, _ | 5, _ | 6, _ | 7, _ | 8, _ | 9, _ | 10, _ | _+14, _=>trivial
 ·refine ⟨?_,?_,?_,?_,?_,?_,?_,trivial⟩
  ·exact xs4 rfl id fun cx=>run_load1 rfl (by kernel_rfl) (cx.an 3) ((cx.bi 0 rfl).cell 0)
  ·exact xs4 rfl id fun cx=>run_loadB (n:=7) rfl (by kernel_rfl) (by kernel_rfl) (cx.ou 8) (cx.bi 2 rfl) (nle rfl) rfl
  ·exact xsc rfl id rfl rfl fun cx=>⟨_,kleast_any _,map0⟩
  ·exact xsc rfl id rfl rfl fun cx=>⟨_,kitem_any 0 (nd.lv+1) (-1) 0 ByteArray.empty false _ _ _ leastB 0 pg _ (by decide),(map2 (cx.an 5) (cx.an 8))⟩
  ·refine svA fun ρ β W X cx=>?_
   have fF53:ρ (.tmp 53)= .agg #[vi root,vi 1, .string (itB (nd.lv+1) pg leastB)]:=(cx.an 10)
   exact dv_litN (e:=67) (sz:=3) (xs:=[vi root,vi 1, .string (itB (nd.lv+1) pg leastB)]) rfl (by simp [go_sem,fF53]) rfl (by decide) rfl rfl (fun σ β' X' hs hb hv hx=>⟨hv,hx⟩)
  ·refine svA fun ρ β W X cx=>?_
   obtain ⟨i0,hi0,hz0,hz1,hz2⟩:=info_parts Tryz.infoEdit
   refine dv_appendN (n:=(freshE pg nd.lv (-1) ByteArray.empty nd.es).length+1+(clearE root nd.es).length) (m:=1) (nm:=(freshE pg nd.lv (-1) ByteArray.empty nd.es).length+1+(clearE root nd.es).length+1) (sz:=3) (xs:=(((freshE pg nd.lv (-1) ByteArray.empty nd.es)++[(root,0,hdB (nd.lv+1) (-1) false ByteArray.empty)])++(clearE root nd.es)).flatMap edC) (news:=edC (root,1,itB (nd.lv+1) pg leastB)) (xs':=((((freshE pg nd.lv (-1) ByteArray.empty nd.es)++[(root,0,hdB (nd.lv+1) (-1) false ByteArray.empty)])++(clearE root nd.es))++[(root,1,itB (nd.lv+1) pg leastB)]).flatMap edC) rfl (ty:=28) rfl (by kernel_rfl) hi0 hz0 hz1 hz2 rfl (by decide) (cx.an 0) cx (cx.init 5 _ rfl) rfl (dTn (cx.an 11)).1 (by rfl) (At.of_ownN (cx.row (dTn (cx.an 11)).2 rfl)) (by simp [edC,Value.oneCell']) (by simp only [maxLen]; omega) (by omega) rfl rfl rfl (by omega) (ed_snoc _ _) (fun σ β' X' hs hb hv hx=>?_)
   exact ⟨hv,hx⟩
  ·exact sv rfl rfl rfl rfl rfl _ (fun _ _ _ h=>h) (fun β β' h=>by rw [h 55 (by decide)]) fun ρ β W X cx=>run_assign' rfl (dTn (cx.an 12)).1
 intro σ β X W24 hD hst24 fr hfr
 obtain ⟨B54_24,hu_B54_24⟩:∃ z,pb' (β 54)=z:=⟨_,rfl⟩
 obtain ⟨A55_24,hu_A55_24⟩:∃ z,sA (β 55)=z:=⟨_,rfl⟩
 obtain ⟨c55_24,hu_c55_24⟩:∃ z,sC (β 55)=z:=⟨_,rfl⟩
 simp only [exq 6 ((dTn (hD 11 lq)).2),exq 7 ((dTn (hD 12 lq)).2),hu_B54_24,hu_A55_24,hu_c55_24] at hst24
 simp only [ed 54 ((dTn (hD 11 lq)).1),ed 55 ((dTn (hD 12 lq)).1),ed 6 ((dTn (hD 13 lq))),hu_B54_24,hu_A55_24,hu_c55_24] at hfr
 clear hD hu_B54_24 hu_A55_24 hu_c55_24; subst hfr; clear σ β X
 refine then_normal (wp_ret ?_)
 refine bpr (.slice A55_24 ((freshE pg nd.lv (-1) ByteArray.empty nd.es).length+1+(clearE root nd.es).length+1) c55_24) (results_1 Tryz.results57 rpt) ?_
 have hfin:((((freshE pg nd.lv (-1) ByteArray.empty nd.es)++[(root,0,hdB (nd.lv+1) (-1) false ByteArray.empty)])++(clearE root nd.es))++[(root,1,itB (nd.lv+1) pg leastB)])=growE root nd pg:=by rw [growE,← itB_one (lv:=nd.lv+1) (by omega)]; try rfl
 have hfl:(freshE pg nd.lv (-1) ByteArray.empty nd.es).length+1+(clearE root nd.es).length+1=(growE root nd pg).length:=by rw [← hfin]; simp only [List.length_append,List.length_cons,List.length_nil]; try omega
 have hpk_:=hst24.pick [0,6] (by decide) rfl
 rw [hfin,hfl] at hpk_
 rw [hfl]
 exact ⟨_, _,rfl,hpk_⟩
end
section
open Go.RowKit
/-- what DeleteFunc leaves: the row's head is known -/
def eDe (A:Option Addr) (m c:Nat) (ls:List EnD):Ent:=⟨(Value.ownBlock (.slice A m c)).toList,fun W=>∃ rest,W.ownsRow 0 89 3 (.slice A m c) m (ls.flatMap enC++rest)⟩
theorem eDe_loc (A:Option Addr) (m c:Nat) (ls:List EnD):(eDe A m c ls).loc:=fun W W' h hb=>by
 obtain ⟨rest,h'⟩:=hb
 exact ⟨rest,eO_loc _ 3 _ m _ W W' h h'⟩
theorem eDe_at {A:Option Addr} {c m:Nat} {ls:List EnD} {W:World} (h:(eDe A m c ls).holds W):At W A (ls.flatMap enC):=by
 obtain ⟨rest,h'⟩:=h
 have h1:=At.of_ownN h'
 intro k x hk
 exact h1 k x (by rw [List.getElem?_append_left (List.getElem?_eq_some_iff.1 hk).1]; exact hk)
def DePost (A:Option Addr) (m c:Nat) (l:List EnD) (w:World) (e:Ending) (w':World):Prop:=e= .returned (.slice A l.length c)∧St w (Value.ownBlock (.slice A m c)).toList [eDe A m c l] w'
theorem df_st {A:Option Addr} {m c:Nat} {l:List EnD} {w w':World} {e:Ending} (h:DfPost A m c l w e w'):DePost A m c l w e w':=by
 obtain ⟨h1,⟨rest,h2⟩,h3⟩:=h
 refine ⟨h1,h3,fun x hx=>?_,List.pairwise_singleton _ _⟩
 rw [List.mem_singleton] at hx
 subst hx
 exact ⟨⟨rest,h2⟩,eDe_loc _ _ _ _,fun k hk=>⟨.inl hk,own0_block h2 k (by simpa [eDe] using hk)⟩⟩
def onlyX (x:ByteArray) (es:List EnD):List EnD:=es.filter fun e=>e.1.toList==x.toList
/-- a removal from a walk on, at most k steps: the edits, was it there -/
def rmG (ps:List PgS) (x:ByteArray):Nat→WkT→List EdT×Bool
 | 0, _=>([],false)
 | k+1,w=>match wkN ps w with
   | (_, .off)=>([],false)
   | (w', .on)=>rmG ps x k w'
   | (_, .at n)=>(clearE w.pos (onlyX x n.es),decide ((0:Int) < ((onlyX x n.es).length:Int)))
def rmF (ps:List PgS) (root:Int) (x:ByteArray):List EdT×Bool:=rmG ps x 1000 ⟨root,0,x,false⟩
theorem rm_on {ps:List PgS} {x:ByteArray} {k:Nat} {w w':WkT} (h:wkN ps w=(w', .on)):rmG ps x (k+1) w=rmG ps x k w':=by rw [rmG,h]
theorem rm_off {ps:List PgS} {x:ByteArray} {k:Nat} {w w':WkT} (h:wkN ps w=(w', .off)):rmG ps x k w=([],false):=by
 cases k with
 | zero=>rfl
 | succ k=>rw [rmG,h]
theorem rm_at {ps:List PgS} {x:ByteArray} {k:Nat} {w w':WkT} {n:NoD} (h:wkN ps w=(w', .at n)):rmG ps x (k+1) w=(clearE w.pos (onlyX x n.es),decide ((0:Int) < ((onlyX x n.es).length:Int))):=by rw [rmG,h]
theorem wk_on {ps:List PgS} {w w':WkT} (h:wkN ps w=(w', .on)):w.st+1 < 1000∧w'.st=w.st+1∧w'.fm=w.fm:=by
 obtain ⟨pos,st,fm,fin⟩:=w
 by_cases h0:fin=true∨1000≤st+1
 ·rw [wk_end h0] at h; cases h
 ·rcases hn:ndAt ps pos with _ | n
  ·rw [wk_none hn] at h; cases h
  ·rw [wk_some h0 hn] at h
   have hst:st+1 < 1000:=by omega
   split at h
   ·split at h<;>cases h
    exact ⟨hst,rfl,rfl⟩
   ·split at h<;>cases h
    exact ⟨hst,rfl,rfl⟩
theorem nx_to2 {b:Nat} {pos:Int} {R R':WkT×WkR} {f:FuncId} {args:Array Value} {w:World} (hR:R=R') (hc:Calls Tryz.prog f args w (NxPost b pos R w)):Calls Tryz.prog f args w (NxPost b pos R' w):=hR ▸ hc
theorem wk_at2 {ps:List PgS} {pos st:Int} {fm:ByteArray} {fin:Bool} {nd:NoD} {w1:WkT} (h:wkN ps ⟨pos,st,fm,fin⟩=(w1, .at nd)):ndAt ps pos=some nd:=by
 by_cases h0:fin=true∨1000≤st+1
 ·rw [wk_end h0] at h; cases h
 ·rcases hn:ndAt ps pos with _ | n
  ·rw [wk_none hn] at h; cases h
  ·rw [wk_some h0 hn] at h
   split at h
   ·split at h<;>cases h
   ·split at h<;>cases h
    rfl
theorem CtxV.joinB {ops:Array Oper} {L:List Nat} {a0:Act} {w0:World} {bor:List Nat} {X0:List Ent} {us:List (List Nat)} {D:Nat→(Tmp→Value)→(Tmp→Value)→(Nat→Ent)→Prop} {i:Nat} {ρ:Operand→Value} {β:Tmp→Value} {W W1:World} {X:Nat→Ent} {q:Nat} {E:Ent} (cx:CtxV ops L a0 w0 bor X0 us D i ρ β W X) (hX:X q=E) (hu:(atV us i).contains q=true) (h:Upd E.fp W W1):Upd bor w0 W1:=by
 subst hX
 exact cx.upd.join h fun k hk=>((cx.ok q hu).own k hk).1
def RmPost (r:List EdT×Bool) (w:World) (e:Ending) (w':World):Prop:=∃ A c,e= .returned (.tuple #[.slice A r.1.length c, .bool r.2])∧St w [] [eO 67 3 (.slice A r.1.length c) r.1.length (r.1.flatMap edC)] w'
theorem krm1_any (x:ByteArray) (y z:Int) (tb:Nat) (te:ByteArray) (w:World) (h1:Blk w tb 9 #[.string te]):
  Calls Tryz.prog 33 #[.agg #[.string x, .int .i64 y, .int .i64 z], .pointer (some ⟨tb,0,none⟩)] w (Ret (.bool (!(x.toList==te.toList))) w):=by
 go_enter Tryz.func33,Tryz.ntmps33
 have hst0:=St.start w
 refine wp_seq (sqr ?_)
 refine sqbx #[.string x,vi y,vi z] hst0 fun B2_1 W1 hst1=>?_
 refine sqp [.k 3 (.bool false)] ?_
 refine then_normal (wp_seq (sqr (sqp [.k 4 (vp B2_1)] ?_)))
 refine sqld 0 hst1 ?_
 refine sql (.string te) hst1 (fun cx=>run_load1 rfl (by kernel_rfl) (cx.ou 1) ((Blk.ext h1 cx.upd.to_ext).cell 0)) ?_
 refine sqp [.k 7 (.bool (!(x.toList==te.toList))), .m 3 7] ?_
 refine then_normal (wp_ret ?_)
 refine bpr (.bool (!(x.toList==te.toList))) (results_1 Tryz.results33 rpt) ?_
 exact Ret.bool (by simp [bne]) hst1.ext
theorem krm_del {A:Option Addr} {c:Nat} {es:List EnD} {w:World} {tb:Nat} {te:ByteArray} (hO:w.ownsRow 0 89 3 (.slice A es.length c) es.length (es.flatMap enC)) (hl:es.length≤100000) (h1:∀ W,Upd (Value.ownBlock (.slice A es.length c)).toList w W→Blk W tb 9 #[.string te]):
  Calls Tryz.prog 32 #[.slice A es.length c, .func (.func 33) #[] #[.pointer (some ⟨tb,0,none⟩)]] w (DePost A es.length c (onlyX te es) w):=by
 refine ((kdel_any A c es 33 #[.pointer (some ⟨tb,0,none⟩)] (fun e=>!(e.1.toList==te.toList)) w hO hl (by kernel_rfl) (fun W k hW=>krm1_any k.1 _ k.2.2 tb te W (h1 W hW))).mono fun e w' h=>?_)
 have h2:=df_st h
 have e1:es.filter (fun k=>!(!(k.1.toList==te.toList)))=onlyX te es:=by rw [onlyX]; congr 1; funext k; simp
 rw [e1] at h2
 exact h2
theorem kremove_any (tt:TypeId) (tv:Value) (root:Int) (key:ByteArray) (pg sl:Int) (ps:List PgS) (w:World) (hS:PgsOk w tt tv ps) (hok:OkS ps) (hoc:OkC ps) (hk:key.size≤800000):
  Calls Tryz.prog 9 #[.iface tt (tv), .int .i64 root, .string key, .agg #[.int .i64 pg, .int .i64 sl]] w (RmPost (rmF ps root (entF key pg sl)) w):=by
 go_enter Tryz.func9,Tryz.ntmps9
 have hst0:=St.start w
 refine wp_seq (sqr ?_)
 refine sqbx #[vi pg,vi sl] hst0 fun B7_1 W1 hst1=>?_
 refine sqp [.k 8 (.slice none 0 0), .k 9 (.bool false)] ?_
 refine then_normal (wp_seq (sqr (sqp [.m 16 2] ?_)))
 refine sqlb 0 2 hst1 ?_
 refine sqk (.string ((entF key pg sl))) hst1 (fun cx=>⟨_,kentry_any key pg sl _ (by omega),(map2 (cx.ou 16) (cx.ou 17))⟩) fun W6 hst6=>?_
 refine sqal #[.string ByteArray.empty] hst6 fun B10_7 W7 hst7=>?_
 refine sqst (n:=1) 1 #[.string ((entF key pg sl))] hst7 fun W8 hst8=>?_
 refine then_normal (wp_seq (sqr (sqp [.m 19 1] ?_)))
 refine sqld 1 hst8 ?_
 refine sqp [.k 21 (.agg #[vi root,vi 0, .string ((entF key pg sl)), .bool false])] ?_
 refine sqbx #[vi root,vi 0, .string ((entF key pg sl)), .bool false] hst8 fun B22_12 W12 hst12=>?_
 refine sqp [.m 11 22] ?_
 refine then_normal (wp_block ?_)
 obtain ⟨x,hN_x⟩:∃ z,(entF key pg sl)=z:=⟨_,rfl⟩
 rw [hN_x] at hst12 ⊢
 have hxz:x.size≤900000:=by rw [← hN_x,entF_size]; omega
 refine wp_loopT (fun t_ mz az W=>∃ i:Nat,∃ wk:WkT,i≤999∧wk.st=i∧rmF ps root x=rmG ps x (1000 - i) wk∧wk.fm.size≤900000∧mz=1000 - i∧az=⟨(ovr (jv az) [(8,8,2,[]),(2,12,4,[]),(7,23,21,[])] t_).toArray,[]⟩∧St w [] [eB B10_7 9 #[.string (x)],eB B22_12 81 #[vi wk.pos,vi wk.st, .string wk.fm, .bool wk.fin]] W) (1000 - 0) ?_ ?_
 · -- the loop begins
   exact ⟨0,⟨root,0,x,false⟩,by omega,rfl,rfl,hxz,rfl,(by kernel_rfl),hst12.pk [1,2]⟩
 rintro n14 a14 W14 ⟨i,wk,hi,hst,hrun,hwf,rfl,hj_,hst14⟩
 refine ovz hj_ fun u14_=>?_
 refine wp_block (wp_seq ?_)
 rcases hR:wkN ps wk with ⟨w1, _ | _ | nd⟩
 ·refine sqr (sqp [.m 24 11, .m 25 0] ?_)
  refine sqc0 (.tuple #[.agg #[vi 0,vi 0,vi 0, .string ((⟨#[]⟩:ByteArray)), .bool false, .slice none 0 0,vi 0], .bool false, .bool false]) (eB B22_12 81 #[vi w1.pos,vi w1.st, .string w1.fm, .bool w1.fin]) 1 hst14 (by
    refine svA fun ρ β W X cx=>?_
    refine DoesU.call (run_callF (args:=#[vp B22_12, .iface tt (tv)]) rfl cx.sees rfl (by kernel_rfl) (map2 (cx.ou 24) (cx.ou 25))) ?_
    refine (nx_to2 hR (kwnext_any _ _ _ wk.pos wk.st wk.fm wk.fin ps _ (cx.bi 1 rfl) (fun W hW=>hS.ext (CtxV.joinB cx (cx.init 1 _ rfl) rfl hW).to_ext) hok hoc (by omega) (by omega))).mono ?_
    rintro e W1 ⟨rfl,hs4⟩
    refine ⟨_,rfl,post_obj (E:=eB B22_12 81 #[vi wk.pos,vi wk.st, .string wk.fm, .bool wk.fin]) [eB B22_12 81 #[vi w1.pos,vi w1.st, .string w1.fm, .bool w1.fin]] (cx.init 1 _ rfl) rfl rfl hs4 (fun σ β' X' hs hb hv hN=>?_)⟩
    have hv1:=(hv 26 rfl).1; have hv2:=(hv 26 rfl).2
    exact ⟨hv1.trans rfl,(List.cons.inj hN).1⟩) fun W17 hst17=>?_
  refine sqp [.m 23 26, .k 27 (.agg #[vi 0,vi 0,vi 0, .string ((⟨#[]⟩:ByteArray)), .bool false, .slice none 0 0,vi 0]), .k 28 (.bool false), .k 29 (.bool false)] ?_
  refine sqal #[vi 0,vi 0,vi 0, .string ByteArray.empty, .bool false, .slice none 0 0,vi 0] hst17 fun B12_22 W22 hst22=>?_
  refine sqst (n:=7) 2 #[vi 0,vi 0,vi 0, .string ((⟨#[]⟩:ByteArray)), .bool false, .slice none 0 0,vi 0] hst22 fun W23 hst23=>?_
  refine sqp [.k 13 (.bool false), .k 14 (.bool false)] ?_
  refine then_normal (wp_seq (wp_seq (sqr (sqp [.k 30 (.bool false), .k 31 (.bool true)] ?_))))
  refine then_normal (wct rfl (wp_seq (sqr (sqp [.k 8 (.slice none 0 0), .k 9 (.bool false)] ?_))))
  refine then_normal (wp_ret (then_ret (blk_ret (then_ret (blk_ret ?_)))))
  refine bpr (.tuple #[.slice none 0 0, .bool false]) (results_2 Tryz.results9 rpt rpt) ?_
  have hn30:=nilrowN hst23 67 3
  simp only [List.cons_append,List.nil_append] at hn30
  rw [hrun,rm_off hR]
  exact ⟨_, _,rfl,hn30.pick [3] (by decide) rfl⟩
 ·have hon:=wk_on hR
  refine sqr (sqp [.m 24 11, .m 25 0] ?_)
  refine sqc0 (.tuple #[.agg #[vi 0,vi 0,vi 0, .string ((⟨#[]⟩:ByteArray)), .bool false, .slice none 0 0,vi 0], .bool false, .bool true]) (eB B22_12 81 #[vi w1.pos,vi w1.st, .string w1.fm, .bool w1.fin]) 1 hst14 (by
    refine svA fun ρ β W X cx=>?_
    refine DoesU.call (run_callF (args:=#[vp B22_12, .iface tt (tv)]) rfl cx.sees rfl (by kernel_rfl) (map2 (cx.ou 24) (cx.ou 25))) ?_
    refine (nx_to2 hR (kwnext_any _ _ _ wk.pos wk.st wk.fm wk.fin ps _ (cx.bi 1 rfl) (fun W hW=>hS.ext (CtxV.joinB cx (cx.init 1 _ rfl) rfl hW).to_ext) hok hoc (by omega) (by omega))).mono ?_
    rintro e W1 ⟨rfl,hs4⟩
    refine ⟨_,rfl,post_obj (E:=eB B22_12 81 #[vi wk.pos,vi wk.st, .string wk.fm, .bool wk.fin]) [eB B22_12 81 #[vi w1.pos,vi w1.st, .string w1.fm, .bool w1.fin]] (cx.init 1 _ rfl) rfl rfl hs4 (fun σ β' X' hs hb hv hN=>?_)⟩
    have hv1:=(hv 26 rfl).1; have hv2:=(hv 26 rfl).2
    exact ⟨hv1.trans rfl,(List.cons.inj hN).1⟩) fun W33 hst33=>?_
  refine sqp [.m 23 26, .k 27 (.agg #[vi 0,vi 0,vi 0, .string ((⟨#[]⟩:ByteArray)), .bool false, .slice none 0 0,vi 0]), .k 28 (.bool false), .k 29 (.bool true)] ?_
  refine sqal #[vi 0,vi 0,vi 0, .string ByteArray.empty, .bool false, .slice none 0 0,vi 0] hst33 fun B12_38 W38 hst38=>?_
  refine sqst (n:=7) 2 #[vi 0,vi 0,vi 0, .string ((⟨#[]⟩:ByteArray)), .bool false, .slice none 0 0,vi 0] hst38 fun W39 hst39=>?_
  refine sqp [.k 13 (.bool false), .k 14 (.bool true)] ?_
  refine then_normal (wp_seq (wp_seq (sqr (sqp [.k 30 (.bool true), .k 31 (.bool false)] ?_))))
  refine then_normal (wcf rfl (wp_skip (then_normal (wp_seq (sqr (sqp [.k 32 (.bool false)] ?_))))))
  refine then_normal (wcf rfl (wp_skip (blk_normal (then_normal ?_))))
  refine ⟨1000 - ((i+1)),by omega,?_⟩
  exact ⟨(i+1),w1,by omega,by omega,by rw [hrun,show 1000 - i=1000 - (i+1)+1 by omega,rm_on hR],by rw [hon.2.2]; exact hwf,rfl,(by kernel_rfl),hst39.pk [0,1]⟩
 ·have hN0:=nd_ok hok (wk_at2 (pos:=wk.pos) (st:=wk.st) (fm:=wk.fm) (fin:=wk.fin) hR)
  have hN1:=hN0.len
  have hol:(onlyX x nd.es).length≤nd.es.length:=List.length_filter_le _ _
  refine wp_region_Y [0,0,3,7,15,15,15,0,159,447,1023] [[],[],[1],[],[],[],[],[],[4]] [[],[],[2,3],[],[],[],[],[4],[5]] [[],[],[1],[],[],[],[],[],[4]] [.k 24 (vp B22_12), .k 25 (.iface tt (tv)), .a 26, .a 23, .a 27, .c 28 (.bool true), .c 29 (.bool true), .a 12, .n, .k 13 (.bool true), .k 14 (.bool true)] (fun ix σ β X=>match ix with | 0=>True | 1=>True | 2=>σ 26= .tuple #[.agg #[vi wk.pos,vi nd.lv,vi nd.right, .string nd.high, .bool nd.dead, .slice (sA (tg (tg (β 26) 0) 5)) nd.es.length (sC (tg (tg (β 26) 0) 5)),vi ((nd.free:Int))], .bool true, .bool true]∧X 2=eB B22_12 81 #[vi w1.pos,vi w1.st, .string w1.fm, .bool w1.fin]∧X 3=eO 89 3 (.slice (sA (tg (tg (β 26) 0) 5)) nd.es.length (sC (tg (tg (β 26) 0) 5))) nd.es.length (nd.es.flatMap enC) | 3=>σ 23= .tuple #[.agg #[vi wk.pos,vi nd.lv,vi nd.right, .string nd.high, .bool nd.dead, .slice (sA (tg (tg (β 26) 0) 5)) nd.es.length (sC (tg (tg (β 26) 0) 5)),vi ((nd.free:Int))], .bool true, .bool true] | 4=>σ 27= .agg #[vi wk.pos,vi nd.lv,vi nd.right, .string nd.high, .bool nd.dead, .slice (sA (tg (tg (β 26) 0) 5)) nd.es.length (sC (tg (tg (β 26) 0) 5)),vi ((nd.free:Int))] | 5=>True | 6=>True | 7=>σ 12=vp (pb (β 12))∧X 4=eB (pb (β 12)) 84 #[vi 0,vi 0,vi 0, .string ByteArray.empty, .bool false, .slice none 0 0,vi 0] | 8=>X 5=eB (pb (β 12)) 84 #[vi wk.pos,vi nd.lv,vi nd.right, .string nd.high, .bool nd.dead, .slice (sA (tg (tg (β 26) 0) 5)) nd.es.length (sC (tg (tg (β 26) 0) 5)),vi ((nd.free:Int))] | _=>True) [0,2,3,5] [2,3,4,5,6,7,8] [(12,7,4,15),(8,3,1,9),(0,0,3,3),(0,4,3,3)] hst14 ?_ ?_ ?_
  ·exact fun ix _ _ _ _ _ _ hs hb hx h=>match ix,h with
   | 2,h=>by dsimp only; rw [← hs 26 rfl,← hb 26 rfl,← hx 2 rfl,← hx 3 rfl]; exact h
   | 3,h=>by dsimp only; rw [← hs 23 rfl,← hb 26 rfl]; exact h
   | 4,h=>by dsimp only; rw [← hs 27 rfl,← hb 26 rfl]; exact h
   | 7,h=>by dsimp only; rw [← hs 12 rfl,← hb 12 rfl,← hx 4 rfl]; exact h
   | 8,h=>by dsimp only; rw [← hb 12 rfl,← hb 26 rfl,← hx 5 rfl]; exact h
   | 0, _ | 1, _ | 5, _ | 6, _ | _+9, _=>trivial
  ·refine ⟨?_,?_,?_,?_,?_,?_,?_,trivial⟩
   ·refine svA fun ρ β W X cx=>?_
    refine DoesU.call (run_callF (args:=#[vp B22_12, .iface tt (tv)]) rfl cx.sees rfl (by kernel_rfl) (map2 (cx.an 0) (cx.an 1))) ?_
    refine (nx_to2 hR (kwnext_any _ _ _ wk.pos wk.st wk.fm wk.fin ps _ (cx.bi 1 rfl) (fun W hW=>hS.ext (CtxV.joinB cx (cx.init 1 _ rfl) rfl hW).to_ext) hok hoc (by omega) (by omega))).mono ?_
    rintro e W1 ⟨EA4,ec4,rfl,hs4⟩
    refine ⟨_,rfl,post_obj (E:=eB B22_12 81 #[vi wk.pos,vi wk.st, .string wk.fm, .bool wk.fin]) [eB B22_12 81 #[vi w1.pos,vi w1.st, .string w1.fm, .bool w1.fin],eO 89 3 (.slice EA4 nd.es.length ec4) nd.es.length (nd.es.flatMap enC)] (cx.init 1 _ rfl) rfl rfl hs4 (fun σ β' X' hs hb hv hN=>?_)⟩
    have hv1:=(hv 26 rfl).1; have hv2:=(hv 26 rfl).2
    exact ⟨hv1.trans (by rw [hv2]; rfl),(List.cons.inj hN).1,(by rw [hv2]; exact (List.cons.inj (List.cons.inj hN).2).1)⟩
   ·exact sv rfl rfl rfl rfl rfl _ (fun _ _ _ h=>h) (fun β β' h=>by rw [h 26 (by decide)]) fun ρ β W X cx=>run_move' rfl (dTn (cx.an 2)).1
   ·exact sv rfl rfl rfl rfl rfl _ (fun _ _ _ h=>h) (fun β β' h=>by rw [h 26 (by decide)]) fun ρ β W X cx=>run_extract' rfl (dTn (cx.an 3)) rfl
   ·exact xs4 rfl id fun cx=>run_extract' rfl (dTn (cx.an 3)) rfl
   ·exact xs4 rfl id fun cx=>run_extract' rfl (dTn (cx.an 3)) rfl
   ·refine svA fun ρ β W X cx=>?_
    exact dv_alloc (cs:=#[vi 0,vi 0,vi 0, .string ByteArray.empty, .bool false, .slice none 0 0,vi 0]) rfl (by kernel_rfl) rfl rfl (fun σ β' X' hs hb hv hx=>⟨hv,hx⟩)
   ·refine svA fun ρ β W X cx=>?_
    exact dv_store (n:=7) rfl (dTn (cx.an 7)).1 (dTn (cx.an 4)) (by kernel_rfl) (by kernel_rfl) (by kernel_rfl) cx (dTn (cx.an 7)).2 rfl (nle rfl) (by kernel_rfl) rfl rfl rfl (fun σ β' X' hs hb hx=>by rw [hb 12,hb 26]; exact hx)
  intro σ β X W45 hD hst45 fr hfr
  obtain ⟨EA26_45,hu_EA26_45⟩:∃ z,sA (tg (tg (β 26) 0) 5)=z:=⟨_,rfl⟩
  obtain ⟨ec26_45,hu_ec26_45⟩:∃ z,sC (tg (tg (β 26) 0) 5)=z:=⟨_,rfl⟩
  obtain ⟨B12_45,hu_B12_45⟩:∃ z,pb (β 12)=z:=⟨_,rfl⟩
  simp only [exq 2 ((dTn (hD 2 lq)).2.1),exq 3 ((dTn (hD 2 lq)).2.2),exq 5 ((dTn (hD 8 lq))),hu_EA26_45,hu_ec26_45,hu_B12_45] at hst45
  simp only [ed 26 ((dTn (hD 2 lq)).1),ed 23 ((dTn (hD 3 lq))),ed 27 ((dTn (hD 4 lq))),ed 12 ((dTn (hD 7 lq)).1),hu_EA26_45,hu_ec26_45,hu_B12_45] at hfr
  clear hD hu_EA26_45 hu_ec26_45 hu_B12_45; subst hfr; clear σ β X
  refine then_normal (wp_seq (wp_seq (sqr (sqp [.k 30 (.bool true), .k 31 (.bool false)] ?_))))
  refine then_normal (wcf rfl (wp_skip (then_normal (wp_seq (sqr (sqp [.k 32 (.bool true)] ?_))))))
  refine then_normal (wct rfl (wp_seq (sqr (sqp [.k 33 (.pointer (some ⟨B12_45,5,none⟩))] ?_))))
  refine sqld 3 hst45 ?_
  refine sqv (.func (.func 33) #[] #[vp B10_7]) hst45 (by
    exact sv0 rfl rfl rfl rfl rfl (fun _ _ _ h=>h) fun ρ β W X cx=>by
     have fF10:ρ (.tmp 10)=vp B10_7:=(cx.ou 10)
     simp [go_sem,Instr.makeFunc,fF10]) fun W51 hst51=>?_
  refine sqc0 (.slice EA26_45 ((onlyX x nd.es).length) ec26_45) (eDe EA26_45 nd.es.length ec26_45 (onlyX x nd.es)) 2 hst51 (by
    refine svA fun ρ β W X cx=>?_
    refine DoesU.call (run_callF (args:=#[.slice EA26_45 nd.es.length ec26_45, .func (.func 33) #[] #[vp B10_7]]) rfl cx.sees rfl (by kernel_rfl) (map2 (cx.ou 34) (cx.ou 35))) ?_
    refine (krm_del (cx.ri 2 rfl) (by omega) (fun W hW=>(CtxV.keepF cx (cx.init 0 _ rfl) (cx.init 2 _ rfl) rfl rfl (by decide)) W hW)).mono ?_
    rintro e W1 ⟨rfl,hs4⟩
    refine ⟨_,rfl,post_obj (E:=eO 89 3 (.slice EA26_45 nd.es.length ec26_45) nd.es.length (nd.es.flatMap enC)) [eDe EA26_45 nd.es.length ec26_45 (onlyX x nd.es)] (cx.init 2 _ rfl) rfl rfl hs4 (fun σ β' X' hs hb hv hN=>?_)⟩
    have hv1:=(hv 36 rfl).1; have hv2:=(hv 36 rfl).2
    exact ⟨hv1.trans rfl,(List.cons.inj hN).1⟩) fun W52 hst52=>?_
  refine sqp [.m 15 36] ?_
  refine then_normal (wp_seq (sqr (sqp [.k 37 (vp B12_45)] ?_)))
  refine sqld 3 hst52 ?_
  refine sqp [.m 39 15] ?_
  refine sqk2 (fun A40_57 c40_57=> .slice A40_57 ((clearE wk.pos (onlyX x nd.es)).length) c40_57) (fun A40_57 c40_57=>eO 67 3 (.slice A40_57 ((clearE wk.pos (onlyX x nd.es)).length) c40_57) ((clearE wk.pos (onlyX x nd.es)).length) ((clearE wk.pos (onlyX x nd.es)).flatMap edC)) hst52 (fun cx=>⟨_,(kclear_any wk.pos _ _ _ (onlyX x nd.es) _ (eDe_at (CtxV.holdF cx (cx.init 2 _ rfl) rfl)) rfl (by omega)).mono (by rintro e W1 ⟨A4,c4,rfl,ho_,hx⟩; exact ⟨_, _,rfl,St.one hx (eO_new (n:=(clearE wk.pos (onlyX x nd.es)).length) (xs:=(clearE wk.pos (onlyX x nd.es)).flatMap edC) ho_)⟩),(map2 (cx.ou 38) (cx.ou 39))⟩) fun A40_57 c40_57 W57 hst57=>?_
  refine sqp [.m 41 15, .k 42 (vi (((onlyX x nd.es).length:Int))), .k 43 (.bool (decide (0 < ((onlyX x nd.es).length:Int)))), .m 8 40, .m 9 43] ?_
  refine then_normal (wp_ret (blk_ret (then_ret (blk_ret ?_))))
  refine bpr (.tuple #[.slice A40_57 ((clearE wk.pos (onlyX x nd.es)).length) c40_57, .bool (decide (0 < ((onlyX x nd.es).length:Int)))]) (results_2 Tryz.results9 rpt rpt) ?_
  rw [hrun,show 1000 - i=(999 - i)+1 by omega,rm_at hR]
  exact ⟨_, _,rfl,hst57.pick [4] (by decide) rfl⟩
end
section
open Go.RowKit
/-- the node of a level where an entry belongs -/
def Here (T:List (List AbN)) (k:Nat) (pos:Int) (x:ByteArray) (pre suf:List AbN) (a:AbN):Prop:=T[k]? =some (pre++a::suf)∧a.pg=pos∧lessF x a.low=false∧∀ b s,suf=b::s→lessF x b.low=true
theorem wk_go {ps:List PgS} {T:List (List AbN)} {root pos st:Int} {fm:ByteArray} (h:Tr ps T root) (hp:PosOk T pos fm 0) (h4:4≤fm.size) (hst:st+1 < 1000):
  (∃ pos',wkN ps ⟨pos,st,fm,false⟩=(⟨pos',st+1,fm,false⟩, .on)∧PosOk T pos' fm 0∧Mv T 0 pos pos')∨
  ∃ pre suf a n,wkN ps ⟨pos,st,fm,false⟩=(⟨pos,st+1,fm,false⟩, .at n)∧Here T 0 pos fm pre suf a∧ndAt ps pos=some n:=by
 obtain ⟨k,lv,a,hk,ha,hpg, _,hge⟩:=hp
 obtain ⟨pre,suf,rfl⟩:=List.append_of_mem ha
 obtain ⟨n,hn,hlv,hdd,hrt,hhi,hes⟩:=h.node hk
 have hL:=(h.level hk).2
 have hsn:=snd_next (x:=fm) hdd hhi fun b hb=>hL.l4 b (by simp [hb])
 rw [hpg] at hn
 have e0:=wk_some (fm:=fm) (st:=st) (fin:=false) (by simp; omega) hn
 cases hs:sndB n.dead n.high fm with
 | true=>
   rw [hs] at hsn
   cases suf with
   | nil=>cases hsn
   | cons b suf=>
     have hb0:lessF fm b.low=false:=by simpa [sndA] using hsn.symm
     have hbp:=h.pg_lt (pgs_mem hk (a:=b) (by simp))
     have hrb:n.right=b.pg:=hrt
     rw [hs,if_pos rfl,hrb,decide_eq_false (by omega),if_neg (by omega)] at e0
     exact .inl ⟨b.pg,e0,⟨k, _,b,hk,by simp,rfl,by omega,hb0⟩, .right k pre suf a b hk hpg rfl (by omega)⟩
 | false=>
   rw [hs,if_neg (by decide)] at e0
   by_cases hl:0 < n.lv
   ·obtain ⟨k0,rfl⟩:∃ k0,k=k0+1:=⟨k - 1,by omega⟩
    obtain ⟨below,m,hb,hm,hd,hml⟩:=h.down hk (by rw [hpg]; exact hn) h4 hge
    rw [if_pos hl,hd] at e0
    exact .inl ⟨m.pg,e0,⟨k0,below,m,hb,hm,rfl,by omega,hml⟩, .down k0 _ below a m hk (by simp) hb hm hpg rfl (by omega)⟩
   ·rw [if_neg hl] at e0
    obtain rfl:k=0:=by omega
    refine .inr ⟨pre,suf,a,n,e0,⟨hk,hpg,hge,?_⟩,hn⟩
    rintro b s rfl
    rw [hs] at hsn
    cases hc:lessF fm b.low with
    | true=>rfl
    | false=>simp [sndA,hc] at hsn
/-- the entries without x -/
def remA (x:ByteArray) (es:List Kv):List Kv:=es.filter fun e=>!(e.1.toList==x.toList)
theorem tl_eq {a b:ByteArray}:(a.toList==b.toList)=true↔a=b:=by
 rw [beq_iff_eq,ByteArray.toList_eq,ByteArray.toList_eq]
 exact ⟨fun h=>bl_inj h,fun h=>by rw [h]⟩
theorem rem_mem {x:ByteArray} {es:List Kv} {e:Kv}:e∈remA x es↔e∈es∧e.1≠x:=by
 rw [remA,List.mem_filter]
 constructor
 ·rintro ⟨h1,h2⟩
  exact ⟨h1,fun e2=>by rw [tl_eq.2 e2] at h2; cases h2⟩
 ·rintro ⟨h1,h2⟩
  refine ⟨h1,?_⟩
  cases hc:(e.1.toList==x.toList) with
  | true=>exact absurd (tl_eq.1 hc) h2
  | false=>rfl
theorem rem_id {x:ByteArray} {es:List Kv} (h:∀ e∈es,e.1≠x):remA x es=es:=List.filter_eq_self.2 fun e he=>by
 cases hc:(e.1.toList==x.toList) with
 | true=>exact absurd (tl_eq.1 hc) (h e he)
 | false=>rfl
/-- an entry of the leaves stands where it belongs -/
theorem here_in {ps:List PgS} {T:List (List AbN)} {root pos:Int} {x:ByteArray} {pre suf:List AbN} {a:AbN} (h:Tr ps T root) (hh:Here T 0 pos x pre suf a):∀ e∈lfs T,e.1=x→e∈a.es:=fun e he hx=>by
 obtain ⟨hk,hpg,hge,hlt⟩:=hh
 obtain ⟨hrep,hL⟩:=h.level hk
 rw [lfs,lvA_some hk] at he
 obtain ⟨c,hc,hec⟩:=List.mem_flatMap.1 he
 have hcv:=hL.nd c hc
 have hav:=hL.nd a (by simp)
 obtain ⟨_,p2,p3⟩:=List.pairwise_append.1 hL.pw
 rcases List.mem_append.1 hc with hc | hc
 ·have:=(p3 c hc a (by simp)).2 e hec
  rw [hx,hge] at this; cases this
 ·rcases List.mem_cons.1 hc with rfl | hc
  ·exact hec
  ·have h1:=hL.behind hlt c hc
   have h2:=hcv.ge e hec
   rw [hx,h1] at h2; cases h2
theorem rmv_lfs {T:List (List AbN)} {x:ByteArray} {pre suf:List AbN} {a:AbN} (hk:T[0]? =some (pre++a::suf)) (h:∀ e∈lfs T,e.1=x→e∈a.es) (hd:∀ c∈pre++suf,∀ e∈c.es,e.1≠x):lfs (T.set 0 (pre++⟨a.pg,a.low,remA x a.es⟩::suf))=remA x (lfs T):=by
 rw [lfs_set hk,if_pos rfl,lfs,lvA_some hk]
 have key:∀ l:List AbN,(∀ c∈l,∀ e∈c.es,e.1≠x)→remA x (l.flatMap AbN.es)=l.flatMap AbN.es:=fun l hl=>rem_id fun e he=>by
  obtain ⟨c,hc,hec⟩:=List.mem_flatMap.1 he
  exact hl c hc e hec
 have app:∀ l m:List Kv,remA x (l++m)=remA x l++remA x m:=fun l m=>List.filter_append ..
 rw [List.flatMap_append,List.flatMap_append,List.flatMap_cons,List.flatMap_cons,app,app,key pre fun c hc=>hd c (by simp [hc]),key suf fun c hc=>hd c (by simp [hc])]
theorem only_perm (x:ByteArray) (es:List EnD):es.Perm (onlyX x es++es.filter fun e=>!(e.1.toList==x.toList)):=(List.filter_append_perm _ _).symm
/-- Remove in a valid tree -/
theorem Tr.rm {ps:List PgS} {T:List (List AbN)} {root:Int} {x:ByteArray} (h:Tr ps T root) (h4:4≤x.size) (hps:ps.length≤150) (hits:∀ q∈ps,q.2.2.length≤101):
  ∃ T',Tr (doB ps (rmF ps root x).1) T' root∧lfs T'=remA x (lfs T)∧((rmF ps root x).2=true↔∃ e∈lfs T,e.1=x)∧Evo T T'∧pgsA T'=pgsA T∧T'.length=T.length∧(∀ k:Nat,k≠0→T'[k]? =T[k]?):=by
 have hroot:PosOk T root x 0:=by
  obtain ⟨T0,r,e,h1,h2,h3⟩:=h.root
  exact ⟨T0.length,[r],r,h3,by simp,h1,by omega,by rw [h2]; exact least_le _⟩
 have hrk:=rk_le T root
 have hbd:=h.bd
 obtain ⟨g,hg⟩:∃ g,1000=rkF T root+g:=⟨1000 - rkF T root,by omega⟩
 obtain ⟨pre,suf,a,n,h1,h2,h3⟩:∃ pre suf a n,rmF ps root x=(clearE a.pg (onlyX x n.es),decide ((0:Int) < ((onlyX x n.es).length:Int)))∧Here T 0 a.pg x pre suf a∧ndAt ps a.pg=some n:=by
  have key:∀ (f:Nat) {pos st:Int},PosOk T pos x 0→rkF T pos≤f→0≤st→st+(rkF T pos:Int) < 999→∃ pre suf a n,rmG ps x f ⟨pos,st,x,false⟩=(clearE a.pg (onlyX x n.es),decide ((0:Int) < ((onlyX x n.es).length:Int)))∧Here T 0 a.pg x pre suf a∧ndAt ps a.pg=some n:=by
   intro f
   induction f with
   | zero=>
     intro pos st hp hr h0 hst
     obtain ⟨k,lv,a,hk,ha,hpg, _,hge⟩:=hp
     obtain ⟨pre,suf,rfl⟩:=List.append_of_mem ha
     rw [← hpg,rk_at h.dist hk] at hr; omega
   | succ f ih=>
     intro pos st hp hr h0 hst
     have hpos:1≤rkF T pos:=by
      obtain ⟨k,lv,a,hk,ha,hpg, _,hge⟩:=hp
      obtain ⟨pre,suf,rfl⟩:=List.append_of_mem ha
      rw [← hpg,rk_at h.dist hk]; omega
     rcases wk_go h hp h4 (st:=st) (by omega) with ⟨pos',h1,h2,h3⟩ | ⟨pre,suf,a,n,h1,h2,h3⟩
     ·rw [rm_on h1]
      have:=h3.rk h.dist
      exact ih h2 (by omega) (by omega) (by omega)
     ·rw [rm_at h1]
      have hp:=h2.2.1
      subst hp
      exact ⟨pre,suf,a,n,rfl,h2,h3⟩
  exact key 1000 hroot (by omega) (by omega) (by omega)
 obtain ⟨hk, _,hge,hlt⟩:=id h2
 obtain ⟨n0,hn0,hlv,hdd,hrt,hhi,hes⟩:=h.node hk
 rw [h3] at hn0
 injection hn0 with hn0
 subst hn0
 obtain ⟨hrep,hL⟩:=h.level hk
 have hA:=hL.nd a (by simp)
 obtain ⟨hp0,hp1, _⟩:=nd_at h3
 obtain ⟨n',c1,⟨c2,c3,c4,c5⟩,c6⟩:=clr_nd (L:=onlyX x n.es) (R:=n.es.filter fun e=>!(e.1.toList==x.toList)) h3 (hits _ (getD_mem' (l:=ps) (n:=a.pg.toNat) (d:=pgs0) (by omega)).2) (only_perm x n.es)
 have hsub:(remA x a.es).Sublist a.es:=List.filter_sublist
 have hris:=hA.ris.sublist hsub
 have hes':n'.es.map kv=remA x a.es:=by
  refine nd_eq c1 ((c6.map kv).trans (List.Perm.of_eq ?_)) hris
  rw [remA,← hes,List.filter_map]; rfl
 have hcl:∀ e∈clearE a.pg (onlyX x n.es),e.1=a.pg:=fun e he=>by obtain ⟨y, _,rfl⟩:=List.mem_map.1 he; rfl
 have hoth:∀ q,q≠a.pg→ndAt (doB ps (clearE a.pg (onlyX x n.es))) q=ndAt ps q:=fun q hq=>nd_other fun e he=>by rw [hcl e he]; exact fun e=>hq e.symm
 have hmem:∀ e∈remA x a.es,e∈a.es:=fun e he=>(rem_mem.1 he).1
 obtain ⟨_,pp,p3⟩:=List.pairwise_append.1 hL.pw
 have hsuf:=(List.pairwise_cons.1 pp).1
 have hT:Tr (doB ps (clearE a.pg (onlyX x n.es))) (T.set 0 (pre++⟨a.pg,a.low,remA x a.es⟩::suf)) root:=by
  refine h.repl (mid:=[]) (a':=⟨a.pg,a.low,remA x a.es⟩) hk rfl rfl (fun q _ hq=>hoth q hq) ⟨⟨n',c1,c2.trans hlv,c5.trans hdd,c3.trans hrt,c4.trans hhi,hes'⟩,?_⟩ ?_ (fun k0 below e=>by omega) (List.nodup_nil) (fun b hb=>nomatch hb) (.inr rfl)
  ·exact (RepL.mem hrep).2.keep fun b hb=>hoth _ ((h.same hk).2 b hb)
  ·exact hL.one rfl ⟨hris,fun e he=>hA.ge e (hmem e he),fun e he=>hA.z4 e (hmem e he),hA.l4,Nat.le_trans hsub.length_le hA.len⟩ fun c hc e he=>(hsuf c hc).2 e (hmem e he)
 rw [h1]
 have hin:=here_in h h2
 refine ⟨_,hT,rmv_lfs hk hin fun c hc e he hx=>?_,?_,Evo.repl (mid:=[]) hk rfl rfl,?_,List.length_set ..,fun k hk0=>List.getElem?_set_ne (fun e=>hk0 e.symm)⟩
 ·have hel:e∈lfs T:=by
   rw [lfs,lvA_some hk]
   refine List.mem_flatMap.2 ⟨c,?_,he⟩
   rcases List.mem_append.1 hc with hc | hc
   ·simp [hc]
   ·simp [hc]
  have hea:=hin e hel hx
  rcases List.mem_append.1 hc with hc | hc
  ·have h5:=(p3 c hc a (by simp)).2 e he
   rw [hA.ge e hea] at h5; cases h5
  ·have h5:=(hsuf c hc).2 e hea
   have h6:=(hL.nd c (by simp [hc])).ge e he
   rw [h5] at h6; cases h6
 ·constructor
  ·intro ht
   have ht:=of_decide_eq_true ht
   obtain ⟨y,hy⟩:=List.exists_mem_of_length_pos (show 0 < (onlyX x n.es).length by omega)
   obtain ⟨hy1,hy2⟩:=List.mem_filter.1 hy
   refine ⟨kv y,?_,tl_eq.1 hy2⟩
   rw [lfs,lvA_some hk]
   exact List.mem_flatMap.2 ⟨a,by simp,kv_mem hes hy1⟩
  ·rintro ⟨e,he,hx⟩
   have hea:=hin e he hx
   rw [← hes] at hea
   obtain ⟨y,hy,hye⟩:=List.mem_map.1 hea
   have:y∈onlyX x n.es:=List.mem_filter.2 ⟨hy,tl_eq.2 (by rw [← hx,← hye]; rfl)⟩
   have:=List.length_pos_of_mem this
   exact decide_eq_true (by omega)
 ·obtain ⟨T1,T2,e, _,h5⟩:=lv_split hk
  rw [h5,pgs_app,e,pgs_app]; simp
end
section
open Go.RowKit
theorem neB_nil {a:ByteArray} (h:a.size=0):neB a=false:=by
 have:a=⟨#[]⟩:=by apply bl_inj; exact List.length_eq_zero_iff.1 (by rw [bl_len]; exact h)
 subst this; rw [neB,beq_self_eq_true]; rfl
theorem idxP_pos {α:Type} {p:α→Bool} {x:α} {B:List α} (hx:p x=true):∀ {A:List α} {k:Int},(∀ y∈A,p y=false)→idxP p k (A++x::B)=k+A.length
 | [],k, _=>by rw [List.nil_append,idxP,if_pos hx]; simp
 | y::A,k,h=>by
   rw [List.cons_append,idxP,if_neg (by rw [h y (by simp)]; decide),idxP_pos hx fun z hz=>h z (by simp [hz]),List.length_cons]
   omega
theorem getD_mid {α:Type} {A B:List α} {x d:α}:(A++x::B).getD A.length d=x:=by
 rw [List.getD_eq_getElem?_getD,List.getElem?_append_right (Nat.le_refl _),Nat.sub_self]; rfl
/-- the bound of the node ahead is the next node's least entry -/
theorem high_prev {ps:List PgS} {lv:Int} {A B:List AbN} {b c:AbN} (h:RepL ps lv (A++b::c::B)):(ndD ps b.pg).high=c.low:=by
 obtain ⟨⟨n,h1, _, _, _,h5, _⟩, _⟩:=RepL.mem h
 rw [ndD_some h1,h5]; rfl
theorem low_at {ps:List PgS} {lv:Int} {pre suf:List AbN} {a:AbN} (h:RepL ps lv (pre++a::suf)):lowF ((pre++a::suf).map (ndP ps)) pre.length=if pre=[] then ⟨#[]⟩ else a.low:=by
 rcases List.eq_nil_or_concat pre with rfl | ⟨A,b,rfl⟩
 ·rfl
 ·rw [lowF,if_neg (by simp),if_neg (by simp)]
  rw [List.concat_eq_append] at h ⊢
  have e:((A++[b])++a::suf).map (ndP ps)=A.map (ndP ps)++ndP ps b::(a::suf).map (ndP ps):=by simp
  have e2:(A++[b]).length - 1=(A.map (ndP ps)).length:=by simp
  rw [e,e2,getD_mid]
  exact high_prev (by simpa using h)
theorem low_idx {ps:List PgS} {lv:Int} {p s:List AbN} {m:AbN} (hL:LvOk (p++m::s)) (h:RepL ps lv (p++m::s)):ldW ((p++m::s).map (ndP ps)) (p.length:Int)=m.low:=by
 rcases List.eq_nil_or_concat p with rfl | ⟨A,b,rfl⟩
 ·rw [ldW,if_neg (by simp)]; exact hL.headlow.symm
 ·rw [ldW,if_pos (by simp)]
  rw [List.concat_eq_append] at h ⊢
  have e:((A++[b])++m::s).map (ndP ps)=A.map (ndP ps)++ndP ps b::(m::s).map (ndP ps):=by simp
  have e2:(((A++[b]).length:Int) - 1).toNat=(A.map (ndP ps)).length:=by simp
  have e3:ldW ((A++[b]++m::s).map (ndP ps)) ((A++[b]).length:Int)= _:=rfl
  rw [e,e2,show (0,nodZ)=((0,nodZ):Int×NoD) from rfl,getD_mid]
  exact high_prev (by simpa using h)
theorem ld_ok {ps:List PgS} {lv:Int} {below:List AbN} {es:List EnD} {a:AbN} (hL:LvOk below) (h:RepL ps lv below) (hd:(below.map AbN.pg).Nodup) (hes:es.map kv=a.es) (hne:0 < es.length) (hin:∀ e∈a.es,∃ m∈below,m.pg=e.2∧m.low=e.1):ldF (below.map (ndP ps)) es=true:=by
 rw [ldF,Bool.and_eq_true]
 refine ⟨List.all_eq_true.2 fun i hi=>?_,decide_eq_true (by omega)⟩
 have hi:=List.mem_range.1 hi
 obtain ⟨e,he⟩:∃ z,es.getD i en0=z:=⟨_,rfl⟩
 have hem:e∈es:=by rw [← he]; exact (getD_mem' hi).2
 rw [he]
 obtain ⟨m,hm,h1,h2⟩:=hin _ (kv_mem hes hem)
 obtain ⟨p,s,rfl⟩:=List.append_of_mem hm
 have hidx:ldI ((p++m::s).map (ndP ps)) e.2.2=(p.length:Int):=by
  rw [ldI,List.map_append,List.map_cons,idxP_pos (by show ((ndP ps m).1==e.2.2)=true; rw [beq_iff_eq]; exact h1),List.length_map]
  ·omega
  ·intro y hy
   obtain ⟨b,hb,rfl⟩:=List.mem_map.1 hy
   show ((ndP ps b).1==e.2.2)=false
   rw [beq_eq_false_iff_ne]
   intro e2
   have e2:b.pg=e.2.2:=e2
   rw [List.map_append] at hd
   exact (List.nodup_append.1 hd).2.2 b.pg (List.mem_map.2 ⟨b,hb,rfl⟩) m.pg (by simp) (e2.trans h1.symm)
 rw [ldS,hidx,low_idx hL h,h2,beq_self_eq_true,decide_eq_false (by omega)]; rfl
theorem sr_ok {n:NoD} {a:AbN} {suf:List AbN} {lo:ByteArray} (hv:NdV a) (hes:n.es.map kv=a.es) (hhi:n.high=hiA suf) (hlo:lo=⟨#[]⟩∨lo=a.low) (hlt:∀ c∈suf,LtA a c):srF n.high lo n.es=true:=by
 rw [srF]
 refine List.all_eq_true.2 fun i hi=>?_
 have hi:=List.mem_range.1 hi
 obtain ⟨e,he⟩:∃ z,n.es.getD i en0=z:=⟨_,rfl⟩
 have hem:e∈n.es:=by rw [← he]; exact (getD_mem' hi).2
 have hea:=kv_mem hes hem
 have h1:(neB lo&&lessF e.1 lo)=false:=by
  rcases hlo with rfl | rfl
  ·rw [neB_nil rfl]; rfl
  ·rw [hv.ge _ hea,Bool.and_false]
 have h2:(neB n.high&&!(lessF e.1 n.high))=false:=by
  rw [hhi]
  cases suf with
  | nil=>rw [show hiA []=ByteArray.empty from rfl,neB_nil rfl]; rfl
  | cons c s=>
    rw [show hiA (c::s)=c.low from rfl,(hlt c (by simp)).2 _ hea]
    simp
 have h3:(decide (0 < (i:Int))&&(e.1.toList==(n.es.getD ((i:Int) - 1).toNat en0).1.toList))=false:=by
  by_cases h0:0 < (i:Int)
  ·obtain ⟨j,rfl⟩:∃ j,i=j+1:=⟨i - 1,by omega⟩
   have hr:n.es.Pairwise (fun a b=>lessF a.1 b.1=true):=by have:=hv.ris; rw [← hes] at this; exact List.pairwise_map.1 this
   have hj:((((j+1:Nat):Int) - 1).toNat)=j:=by omega
   rw [hj]
   have h4:=List.pairwise_iff_getElem.1 hr j (j+1) (by omega) hi (by omega)
   have e1:n.es[j+1]=e:=by rw [← he,List.getD_eq_getElem?_getD,List.getElem?_eq_getElem hi]; rfl
   have e2:n.es.getD j en0=n.es[j]:=by rw [List.getD_eq_getElem?_getD,List.getElem?_eq_getElem (by omega)]; rfl
   rw [e1] at h4
   rw [e2]
   have:(e.1.toList==(n.es[j]).1.toList)=false:=by
    rw [beq_eq_false_iff_ne]
    intro e3
    rw [ByteArray.toList_eq,ByteArray.toList_eq] at e3
    rw [bl_inj e3,lessF_irr] at h4; cases h4
   rw [this,Bool.and_false]
  ·rw [decide_eq_false h0]; rfl
 rw [srS,he,h1,h2,h3]; rfl
theorem rg_ok {ps:List PgS} {T:List (List AbN)} {root:Int} (h:Tr ps T root) {k:Nat} {l:List AbN} (hk:T[k]? =some l) (hlen:l.length≤400) {Lb:List (Int×NoD)} (hb:∀ k0,k=k0+1→∃ below,T[k0]? =some below∧Lb=below.map (ndP ps)):rgF (l.map (ndP ps)) Lb=true:=by
 obtain ⟨hrep,hL⟩:=h.level hk
 have hpos:0 < l.length:=by obtain ⟨a,t,rfl, _⟩:=hL.hd; simp
 rw [rgF,Bool.and_eq_true,List.length_map]
 refine ⟨List.all_eq_true.2 fun i hi=>?_,by rw [decide_eq_true (by omega),decide_eq_true (by omega)]; rfl⟩
 have hi:=List.mem_range.1 hi
 obtain ⟨pre,a,suf,e,hpl⟩:∃ pre a suf,l=pre++a::suf∧pre.length=i:=⟨l.take i,l[i],l.drop (i+1),by rw [List.getElem_cons_drop,List.take_append_drop],by rw [List.length_take]; omega⟩
 subst e hpl
 obtain ⟨n,h1,h2,h3,h4,h5,h6⟩:=h.node hk
 have hA:=hL.nd a (by simp)
 obtain ⟨_,pp, _⟩:=List.pairwise_append.1 hL.pw
 have hlt:=(List.pairwise_cons.1 pp).1
 have hg:((pre++a::suf).map (ndP ps)).getD pre.length (0,nodZ)=(a.pg,n):=by
  have e:(pre++a::suf).map (ndP ps)=pre.map (ndP ps)++ndP ps a::suf.map (ndP ps):=by simp
  rw [e,show pre.length=(pre.map (ndP ps)).length by simp,getD_mid,ndP,ndD_some h1]
 have hlo:=low_at hrep
 obtain ⟨lo,hlo2⟩:∃ z,lowF ((pre++a::suf).map (ndP ps)) pre.length=z:=⟨_,rfl⟩
 rw [hlo2] at hlo
 have hlo3:lo=⟨#[]⟩∨lo=a.low:=by rw [hlo]; split; exact .inl rfl; exact .inr rfl
 rw [rgX,hg,hlo2,List.length_map]
 have lst:(((pre.length:Nat):Int)==((pre++a::suf).length:Int) - 1)=decide (suf=[]):=by
  rw [List.length_append,List.length_cons]
  cases suf with
  | nil=>simp
  | cons c s=>simp; omega
 have hA1:rgA n (((pre.length:Nat):Int)==((pre++a::suf).length:Int) - 1) lo=false:=by
  rw [rgA,h3,sr_ok hA h6 h5 hlo3 hlt,lst,decide_eq_false (show ¬ 8 < (n.es.length:Int) by have:=hA.len; rw [← h6,List.length_map] at this; omega),h4,h5]
  cases suf with
  | nil=>rw [show (hiA []).toList=(⟨#[]⟩:ByteArray).toList from rfl,beq_self_eq_true]; rfl
  | cons c s=>
    have hc:=h.pg_lt (pgs_mem hk (a:=c) (by simp))
    rw [show hiA (c::s)=c.low from rfl,ne_nil_size (hL.l4 c (by simp)),show rtA (c::s)=c.pg from rfl,decide_eq_false (show ¬ c.pg < 0 by omega)]; rfl
 have hB1:rgB n pre.length Lb=false:=by
  rw [rgB]
  by_cases h0:0 < n.lv
  ·obtain ⟨k0,rfl⟩:∃ k0,k=k0+1:=⟨k - 1,by omega⟩
   obtain ⟨below,hbl,rfl⟩:=hb k0 rfl
   obtain ⟨⟨k1,t,g1⟩,g2⟩:=h.inn k0 _ _ hk hbl a (by simp)
   obtain ⟨hrb,hLb⟩:=h.level hbl
   have hdist:(below.map AbN.pg).Nodup:=by
    obtain ⟨T1,T2,e2, _, _⟩:=lv_split hbl
    have hd:=h.dist
    rw [e2,pgs_app] at hd
    exact (List.nodup_append.1 (List.nodup_append.1 hd).2.1).1
   have hnl:0 < n.es.length:=by rw [← List.length_map (f:=kv),h6,g1]; simp
   rw [ld_ok hLb hrb hdist h6 hnl g2,decide_eq_true h0]
   by_cases hp:pre=[]
   ·subst hp
    obtain ⟨c,u,rfl,hcl⟩:=hLb.hd
    obtain ⟨m,hm,hm1,hm2⟩:=g2 (a.low,k1) (by rw [g1]; simp)
    have hmc:=hLb.first hm (by rw [hm2]; exact hL.headlow)
    have hx:(n.es.getD 0 en0).2.2=c.pg:=by
     obtain ⟨x,r,he⟩:=List.exists_cons_of_ne_nil (List.length_pos_iff.1 hnl)
     rw [he,g1] at h6
     injection h6 with h7 _
     have h7:kv x=(a.low,k1):=h7
     injection h7 with _ h8
     rw [he]
     show x.2.2=c.pg
     rw [h8,← hmc]; exact hm1.symm
    rw [hx]
    show (true&&(!true||((((0:Nat):Int)==0)&&(c.pg != (ndP ps c).1))))=false
    simp [ndP]
   ·have:(((pre.length:Nat):Int)==0)=false:=by
     rw [beq_eq_false_iff_ne]
     have:=List.length_pos_iff.2 hp
     omega
    rw [this]; rfl
  ·rw [decide_eq_false h0]; rfl
 have hC1:rgC n lo=false:=by
  rw [rgC]
  rcases hlo3 with rfl | rfl
  ·rw [neB_nil rfl]; rfl
  ·rw [h5]
   cases suf with
   | nil=>rw [show hiA []=ByteArray.empty from rfl,show neB ByteArray.empty=false from neB_nil rfl]; simp
   | cons c s=>rw [show hiA (c::s)=c.low from rfl,lessF_asym (hlt c (by simp)).1,Bool.and_false]
 rw [hA1,hB1,hC1]; rfl
theorem Tr.check {ps:List PgS} {T:List (List AbN)} {root:Int} (h:Tr ps T root) (hps:ps.length≤150):checkF ps root=0:=by
 obtain ⟨T0,r,e,h1,h2,h3⟩:=h.root
 obtain ⟨n,g1,g2, _⟩:=h.node (pre:=[]) h3
 rw [h1] at g1
 have hlT:T.length=T0.length+1:=by rw [e]; simp
 have hbd:=h.bd
 rw [checkF,g1]
 dsimp only
 rw [if_pos]
 refine List.all_eq_true.2 fun k hk=>?_
 have hk:=List.mem_range.1 hk
 have hkT:T[k]? =some (T[k]'(by omega)):=List.getElem?_eq_getElem (by omega)
 obtain ⟨l,hl⟩:∃ l,T[k]'(by omega)=l:=⟨_,rfl⟩
 rw [hl] at hkT
 have hrow:=h.row hps hkT
 have hll:l.length≤150:=by
  have:l.length≤(pgsA T).length:=by
   rw [pgs_flat]
   obtain ⟨T1,T2,e2, _, _⟩:=lv_split hkT
   rw [e2]; simp; omega
  omega
 have hbel:∀ k0,k=k0+1→∃ below,T[k0]? =some below∧belowL ps root k=below.map (ndP ps):=by
  rintro k0 rfl
  have hb:T[k0]? =some (T[k0]'(by omega)):=List.getElem?_eq_getElem (by omega)
  exact ⟨_,hb,h.row hps hb⟩
 have c1:(((k:Int)==n.lv)&&(((rowF ps root (k:Int)).length:Int) != 1))=false:=by
  by_cases hkn:k=T0.length
  ·subst hkn
   rw [h3] at hkT
   injection hkT with hkT
   rw [hrow,← hkT]; simp
  ·rw [show ((k:Int)==n.lv)=false by rw [beq_eq_false_iff_ne,g2]; omega]; rfl
 have c2:(decide (0 < (k:Int))&&(((belowL ps root k).length:Int)==0))=false:=by
  by_cases h0:0 < (k:Int)
  ·obtain ⟨k0,rfl⟩:∃ k0,k=k0+1:=⟨k - 1,by omega⟩
   obtain ⟨below,hb,hbe⟩:=hbel k0 rfl
   obtain ⟨c,u,rfl, _⟩:=(h.level hb).2.hd
   rw [hbe]
   rw [show ((((c::u).map (ndP ps)).length:Int)==0)=false by rw [beq_eq_false_iff_ne]; simp; omega,Bool.and_false]
  ·rw [decide_eq_false h0]; rfl
 have c3:rgF (rowF ps root (k:Int)) (belowL ps root k)=true:=by rw [hrow]; exact rg_ok h hkT (by omega) hbel
 rw [ckX,c1,c2,c3]; rfl
end
end Go.Proofs.YtjlcoglmjldjbaaGreat

/- HeapGoesRow9: part 7 of the proof. -/
import Derived.Test.YtjnplglnnamfdaaGreatDoorZ6
import Derived.Test.YtjnplglnnamfdaaGreatDoorRows
import Derived.ProofKit
import Derived.OpenShut
import Derived.Below
import Derived.ChangeSame
import Derived.WideKeyArgs
import Derived.SliceStrings
import Derived.ChangeMaps5
import Derived.Lib.SmallJoins
import Derived.SizedLaws
import Derived.LaidMore
import Derived.Stop.Joined
import Derived.Test.YtjnplglnnamfdaaGreatDoorCards
import Derived.Test.YtjnplglnnamfdaaGreatDoorTie
import Derived.SevenTiedAt
import Derived.WalkKit
set_option linter.unusedVariables false
set_option linter.unusedSimpArgs false
set_option maxRecDepth 100000
set_option maxHeartbeats 16000000
namespace Go.Proofs.YtjnplglnnamfdaaGreatDoor
section
open Go.RowKit
theorem stand9_m (LA:Option Addr) (lc:Nat) (s:List Int) (n:Nat) (w:World) (hn:n=s.length) (hA:At w LA (s.map (Value.int .i64))) (hl:s.length≤1000):Calls Tryz.prog 11 #[.slice LA n lc] w (Ret (.agg ((stdT s).map (Value.int .i64)).toArray) w):=by
 subst hn; exact stand9_any LA lc s w hA hl
theorem tmbd (a:Int) {b:Int} (h:0 < b): -b < a.tmod b∧a.tmod b < b:=⟨Int.lt_tmod_of_pos a h,Int.tmod_lt_of_pos a h⟩
theorem edl_le (m:MpD) (v:PV) (n:Int):(edL m v n 23).length≤23:=ed_len m v n 23
theorem getEd {l:List (Int×ByteArray)} {k:Nat} (h:k < l.length):∃ s b,l[k]? =some (s,b):=⟨l[k].1,l[k].2,List.getElem?_eq_getElem h⟩
theorem run_neEd {o:Oper} {ρ:Operand→Value} {W:World} {x y:Operand} {a b:Int} {s:ByteArray} (h:o.op= .binOp .neq 49 x y 49) (hx:ρ x= .agg #[.int .i64 a, .int .i64 b, .string s]) (hy:ρ y= .agg #[.int .i64 a, .int .i64 b, .string s]):
  (execOp ρ o).run Tryz.prog W= .ok (.value (.bool false)) W:=by
 unfold execOp; rw [h]
 simp [go_sem,hx,hy]
theorem dd_le (v:PV) (p:Nat→Bool):((rtL v 24).filter p).length≤24:=Nat.le_trans (List.length_filter_le _ _) (rt_le v 24)
theorem free_n {tt:TypeId} {tv:Value} {pv:Int→PV} {n:Int} {SA:Option Addr} {k sc:Nat} {ss:List Int} {w:World} (hk:k=ss.length) (hS:PgsOk w tt tv pv) (hN:NoneAt w) (hA:At w SA (ss.map (Value.int .i64))) (hsl:ss.length≤1000) (hsb:∀ x∈ss, -9223372036854775808≤x∧x≤9223372036854775807):
  Calls Tryz.prog 26 #[.iface tt tv, .int .i64 n, .slice SA k sc] w (ChPost (edL (frM (pv n) n ss ss.length) (pv n) n 23) n w):=by subst hk; exact hfreeH_any tt tv pv n SA sc ss w hS hN hA hsl hsb
theorem rfree_n {PA:Option Addr} {pc m:Nat} {Ps:List PgD} {n:Int} {SA:Option Addr} {k sc:Nat} {ss:List Int} {w:World} (hm:Ps.length=m) (hk:k=ss.length) (hP:PgsAt w PA Ps) (hA:At w SA (ss.map (Value.int .i64))) (hsl:ss.length≤1000) (hsb:∀ x∈ss, -9223372036854775808≤x∧x≤9223372036854775807):
  Calls Tryz.prog 27 #[.agg #[.slice PA m pc], .int .i64 n, .slice SA k sc] w (ChPost (edL (frM (pvF Ps n) n ss ss.length) (pvF Ps n) n 23) n w):=by subst hk; subst hm; exact rfreeH_any PA pc Ps n SA sc ss w hP hA hsl hsb
theorem rpages_m {PA:Option Addr} {pc m:Nat} {Ps:List PgD} {w:World} (hm:Ps.length=m) (h:PgsAt w PA Ps):PgsOk w 30 (.agg #[.slice PA m pc]) (pvF Ps):=by subst hm; exact rpages_ok PA pc Ps w h
theorem rdead_m {PA:Option Addr} {pc m:Nat} {Ps:List PgD} {n hz:Int} {T:List Int} {w:World} (hm:Ps.length=m) (hP:PgsAt w PA Ps) (hT:T.length=128):Calls Tryz.prog 25 #[.agg #[.slice PA m pc], .int .i64 n, .int .i64 hz, .agg (T.map (Value.int .i64)).toArray] w (RtPost ((rtL (pvF Ps n) 24).filter (dchB (pvF Ps n) n hz (tabF T))) n w):=by
 subst hm; exact rdead9_any PA pc Ps n hz T (tabF T) w hP hT (fun _=>rfl)
theorem rprune_m {PA:Option Addr} {pc m:Nat} {Ps:List PgD} {n hz:Int} {T:List Int} {w:World} (hm:Ps.length=m) (hP:PgsAt w PA Ps) (hT:T.length=128):Calls Tryz.prog 18 #[.agg #[.slice PA m pc], .int .i64 n, .int .i64 hz, .agg (T.map (Value.int .i64)).toArray] w (ChPost (edL (pruM (dP (tabF T) hz) (tabF T) n (pvF Ps n)) (pvF Ps n) n 23) n w):=by
 subst hm; exact rprune_any PA pc Ps n hz T (tabF T) w hP hT (fun _=>rfl)
theorem sameed_any (A B:Option Addr) (c d:Nat) (n:Int) (l:List (Int×ByteArray)) (w:World) (hA:At w A (l.flatMap (cellsEd n))) (hB:At w B (l.flatMap (cellsEd n))) (hl:l.length≤1000):
  Calls Tryz.prog 17 #[.slice A l.length c, .slice B l.length d] w (Ret (.bool true) w):=by
 go_enter Tryz.func17,Tryz.ntmps17
 have hst0:=St.start w
 refine wp_seq (sqr (sqp [.k 4 (.bool false)] ?_))
 refine then_normal (wp_seq (wp_seq (sqr (sqp [.m 6 0, .k 7 (vi ((l.length:Int))), .m 8 1, .k 9 (vi ((l.length:Int))), .e 10 (.bool ((l.length:Int) != (l.length:Int))) (.bool false) (congrArg Value.bool (show ((l.length:Int) != (l.length:Int))=false from (bne_self_eq_false _)))] ?_))))
 refine then_normal (wcf rfl (wp_skip (then_normal (wp_seq (wp_seq (sqr (sqp [.k 5 (vi 0)] ?_)))))))
 refine then_normal (wp_block ?_)
 refine wp_loopT (fun t_ mz az W=>∃ k:Nat,k≤l.length∧mz=l.length - k∧az=⟨(ovr (jv az) [(4,4,1,[vi ((k:Int))]),(5,11,15,[])] t_).toArray,[]⟩∧St w [] [] W) (l.length - 0) ?_ ?_
 · -- the loop begins
   exact ⟨0,Nat.zero_le _,rfl,(by kernel_rfl),hst0.pk []⟩
 rintro n8 a8 W8 ⟨k,hk,rfl,hj_,hst8⟩
 refine ovz hj_ fun u8_=>?_
 refine wp_seq (wp_seq (sqr (sqp [.m 11 5, .m 12 0, .k 13 (vi ((l.length:Int))), .k 14 (.bool (decide ((k:Int) < (l.length:Int))))] ?_)))
 refine then_normal (wds (fun hs13 hs13p=>?_) fun hs13 hs13p=>?_)
 ·refine wp_skip (then_normal (wp_seq (wp_block (wp_seq ?_))))
  obtain ⟨fs,fb,hfj⟩:=getEd (l:=l) (k:=k) (by omega)
  refine wp_region_Z [0,0,3,7,0,0,48,112,255] [] [.k 17 (.slice A l.length c), .k 18 (vi ((k:Int))), .c 19 (.pointer (some ((ad A).add (k*3)))), .c 20 (.agg #[vi n,vi fs, .string fb]), .k 21 (.slice B l.length d), .k 22 (vi ((k:Int))), .c 23 (.pointer (some ((ad B).add (k*3)))), .c 24 (.agg #[vi n,vi fs, .string fb]), .c 25 (.bool false)] [] [2,3,6,7,8] [(17,0,9,26)] hst8 ?_ fun W14 hst14=>?_
  ·refine ⟨?_,?_,?_,?_,?_,trivial⟩
   ·exact xs4 rfl id fun cx=>run_indexSlM (e:=49) (m:=k) (sz:=3) rfl (by kernel_rfl) (by kernel_rfl) (cx.an 0) (cx.an 1) (by omega) (by omega) (hA.ext cx.upd.to_ext) (flatPos (sz:=3) (cellsEd_len n) (by decide) (by omega))
   ·exact xs4 rfl id fun cx=>run_loadElt (f:=(cellsEd n)) (m:=k) (sz:=3) (off:=0) (n:=3) rfl (by kernel_rfl) (by kernel_rfl) (cx.an 2) rfl (cellsEd_len n) (hA.ext cx.upd.to_ext) hfj (fun k hk=>match k,hk with | 0, _=>rfl | 1, _=>rfl | 2, _=>rfl | k+3,hk=>absurd hk (by omega))
   ·exact xs4 rfl id fun cx=>run_indexSlM (e:=49) (m:=k) (sz:=3) rfl (by kernel_rfl) (by kernel_rfl) (cx.an 4) (cx.an 5) (by omega) (by omega) (hB.ext cx.upd.to_ext) (flatPos (sz:=3) (cellsEd_len n) (by decide) (by omega))
   ·exact xs4 rfl id fun cx=>run_loadElt (f:=(cellsEd n)) (m:=k) (sz:=3) (off:=0) (n:=3) rfl (by kernel_rfl) (by kernel_rfl) (cx.an 6) rfl (cellsEd_len n) (hB.ext cx.upd.to_ext) hfj (fun k hk=>match k,hk with | 0, _=>rfl | 1, _=>rfl | 2, _=>rfl | k+3,hk=>absurd hk (by omega))
   ·exact xs4 rfl id fun cx=>run_neEd rfl (cx.an 3) (cx.an 7)
  refine then_normal (wcf rfl (wp_skip (blk_normal (then_normal (sqr (sqp [.m 15 5,sI 16 ((k:Int)+1) (by omega), .m 5 16] ?_))))))
  refine then_normal ?_
  refine ⟨l.length - ((k+1)),by omega,?_⟩
  exact ⟨(k+1),by omega,rfl,(by kernel_rfl),hst14.pk []⟩
 refine wp_exit (then_exit (then_exit (blk_eq (then_normal (wp_seq (sqr (sqp [.k 4 (.bool true)] ?_)))))))
 refine then_normal (wp_ret ?_)
 refine bpr (.bool true) (results_1 Tryz.results17 rpt) ?_
 exact Ret.of rfl hst8.ext
theorem heapgoes_any (SA:Option Addr) (sc:Nat) (s:List Int) (TA:Option Addr) (tc:Nat) (stand:List Int) (hz:Int) (QA:Option Addr) (qc:Nat) (qs:List Int) (w:World) (hS:At w SA (s.map (Value.int .i64))) (hsc:s.length≤sc) (hT:At w TA (stand.map (Value.int .i64))) (htc:stand.length≤tc) (hQ:At w QA (qs.map (Value.int .i64))) (hqc:qs.length≤qc) (hqb:∀ x∈qs, -9223372036854775808≤x∧x≤9223372036854775807) (hzb_: -9223372036854775808≤hz∧hz≤9223372036854775807) (hN:NoneAt w):
  Calls Tryz.prog 4 #[.slice SA s.length sc, .slice TA stand.length tc, .agg #[.int .i64 hz, .slice QA qs.length qc]] w (Ret (.bool true) w):=by
 go_enter Tryz.func4,Tryz.ntmps4
 have hst0:=St.start w
 refine wp_seq (sqr ?_)
 refine sqbx #[vi hz, .slice QA qs.length qc] hst0 fun B5_1 W1 hst1=>?_
 refine sqp [.k 6 (.bool false)] ?_
 refine then_normal (wp_seq (sqr (sqk (.bool true) hst1 (fun cx=>⟨_,sanity09_any _ (hN.ext cx.upd.to_ext),map0⟩) fun W3 hst3=>?_)))
 refine sqp [.k 7 (.bool true)] ?_
 refine then_normal (wp_seq (sqr (sqp [.m 18 0] ?_)))
 refine sqk2s (fun A19_6 c19_6=> .agg #[.slice A19_6 5 c19_6]) (fun A19_6 c19_6 r1_6=>eMd (s.take 200) A19_6 r1_6) hst3 (fun cx=>⟨_,(made09_any _ _ s _ (hS.ext cx.upd.to_ext) hsc).mono (by rintro e W1 ⟨A4,c4,fp4,rfl,hc⟩; exact ⟨_, _, _,rfl,hc⟩),(map1 (cx.ou 18))⟩) fun A19_6 c19_6 r1_6 W6 hst6=>?_
 refine sqal #[.slice none 0 0] hst6 fun B8_7 W7 hst7=>?_
 refine sqst (n:=1) 2 #[.slice A19_6 5 c19_6] hst7 fun W8 hst8=>?_
 refine then_normal (wp_seq ?_)
 obtain ⟨m2,hminm2,htkm2,hlem2,hem2⟩:=cut_len stand 128
 refine sqr (sqp [.m 20 1, .m 21 1, .k 22 (vi ((stand.length:Int)))] ?_)
 refine sql (vi ((m2:Int))) hst8 (fun cx=>run_min2 rfl (cx.ou 22) (cx.co _) (hminm2)) ?_
 refine sql (.slice TA m2 tc) hst8 (fun cx=>run_sliceL_hi (e:=3) (sz:=1) (m:=m2) rfl (by kernel_rfl) (by kernel_rfl) (cx.ou 20) (cx.ou 23) (by omega) (by omega)) ?_
 refine sqk (.agg ((stdT (stand.take 128)).map (Value.int .i64)).toArray) hst8 (fun cx=>⟨_,stand9_m _ _ (stand.take 128) _ _ hem2 (by rw [← htkm2]; exact (At.take_mapI (hT.ext cx.upd.to_ext) m2)) (by rw [List.length_take]; omega),(map1 (cx.ou 24))⟩) fun W14 hst14=>?_
 refine sqn1 (fun x_=>pb x_) (fun B9_15=>vp B9_15) (fun B9_15=>eB B9_15 34 ((List.replicate 128 (0:Int)).map (Value.int .i64)).toArray) hst14 (by
   refine svA fun ρ β W X cx=>?_
   exact dv_alloc (cs:=((List.replicate 128 (0:Int)).map (Value.int .i64)).toArray) rfl (by kernel_rfl) rfl rfl (fun σ β' X' hs hb hv hx=>⟨hv,hx⟩)) fun B9_15 W15 hst15=>?_
 refine sqc (eB B9_15 34 ((stdT (stand.take 128)).map (Value.int .i64)).toArray) 3 hst15 (by
   refine svA fun ρ β W X cx=>?_
   exact dv_storeL (n:=128) rfl (cx.ou 9) (show _=Value.agg ((stdT (stand.take 128)).map (Value.int .i64)).toArray from (cx.ou 25)) (by kernel_rfl) (by simp [stdT_len]) (by simp [stdT_len]) (int_one _) cx (cx.init 3 _ rfl) rfl rfl rfl rfl (fun σ β' X' hs hb hx=>hx)) fun W16 hst16=>?_
 refine then_normal (wp_seq ?_)
 obtain ⟨Ps,hPl,hMd,hP⟩:=eMd_at ((hst16.get 1 rfl).holds)
 have hx0:=hst16.ext
 have hB8:=hst16.blk 2 rfl
 have hB9:=hst16.blk 3 rfl
 have hB5:=hst16.blk 0 rfl
 have hN3:=hN.ext hx0
 have hQ3:=hQ.ext hx0
 clear hst16
 have hstb:=St.start W16
 have hmz1:=tmbd hz (b:=58) (by decide)
 have hmz2:=tmbd (hz.tmod 58+58) (b:=58) (by decide)
 refine sqr (sqp [.k 26 (vp B5_1)] ?_)
 refine sql (vi hz) hstb (fun cx=>run_load1 rfl (by kernel_rfl) (cx.ou 26) ((Blk.ext hB5 cx.upd.to_ext).cell 0)) ?_
 refine sqp [.k 28 (vp B5_1)] ?_
 refine sql (vi hz) hstb (fun cx=>run_load1 rfl (by kernel_rfl) (cx.ou 28) ((Blk.ext hB5 cx.upd.to_ext).cell 0)) ?_
 refine sqp [sRe 30 .i64 hz 58 (hz.tmod 58) (rfl),sI 31 ((hz.tmod 58)+58) (by omega),sRe 32 .i64 (hz.tmod 58+58) 58 ((hz.tmod 58+58).tmod 58) (rfl),sI 33 (3+((hz.tmod 58+58).tmod 58)) (by omega), .k 34 (.agg #[vi hz,vi (3+((hz.tmod 58+58).tmod 58))])] ?_
 refine sqn1 (fun x_=>pb x_) (fun B10_26=>vp B10_26) (fun B10_26=>eB B10_26 69 (([0,0]:List Int).map (Value.int .i64)).toArray) hstb (by
   refine svA fun ρ β W X cx=>?_
   exact dv_alloc (cs:=(([0,0]:List Int).map (Value.int .i64)).toArray) rfl (by kernel_rfl) rfl rfl (fun σ β' X' hs hb hv hx=>⟨hv,hx⟩)) fun B10_26 W26 hst26=>?_
 refine sqc (eB B10_26 69 ([hz,(3+((hz.tmod 58+58).tmod 58))].map (Value.int .i64)).toArray) 0 hst26 (by
   refine svA fun ρ β W X cx=>?_
   exact dv_store (n:=2) (cs:=(([0,0]:List Int).map (Value.int .i64)).toArray) (cs':=([hz,(3+((hz.tmod 58+58).tmod 58))].map (Value.int .i64)).toArray) rfl (cx.ou 10) (show _=Value.agg #[vi hz,vi (3+((hz.tmod 58+58).tmod 58))] from (cx.ou 34)) (by kernel_rfl) (by kernel_rfl) (by kernel_rfl) cx (cx.init 0 _ rfl) rfl (Nat.le_of_ble_eq_true (by rfl)) ((by rfl)) rfl rfl rfl (fun σ β' X' hs hb hx=>hx)) fun W27 hst27=>?_
 refine then_normal (wp_seq (wp_seq (sqr (sqp [.k 11 (vi (-1))] ?_))))
 refine then_normal (wp_block ?_)
 refine wp_loopT (fun t_ mz az W=>∃ n:Int,(-1≤n∧n≤6)∧mz=(6 - n).toNat∧az=⟨(ovr (jv az) [(6,6,1,[]),(4,11,0,[vi n]),(0,12,5,[]),(18,35,82,[])] t_).toArray,[]⟩∧St W16 [] [eB B10_26 69 ([hz,(3+((hz.tmod 58+58).tmod 58))].map (Value.int .i64)).toArray] W) ((6 - ((-1))).toNat) ?_ ?_
 · -- the loop begins
   exact ⟨(-1),(by decide),rfl,(by kernel_rfl),hst27.pk [0]⟩
 rintro n29 a29 W29 ⟨n,hn,rfl,hj_,hst29⟩
 refine ovz hj_ fun u29_=>?_
 refine wp_seq (wp_seq (sqr (sqp [.m 35 11, .k 36 (.bool (decide (n < 6)))] ?_)))
 refine then_normal (wds (fun hs32 hs32p=>?_) fun hs32 hs32p=>?_)
 ·refine wp_skip (then_normal (wp_seq (wp_block (wp_seq (wp_seq (sqr (sqp [.k 12 (vi 0)] ?_)))))))
  refine then_normal (wp_block ?_)
  refine wp_loopT (fun t_ mz az W=>∃ ii:Nat,ii≤2∧mz=2 - ii∧az=⟨(ovr (jv az) [(6,6,1,[]),(5,12,0,[vi ((ii:Int))]),(0,13,3,[]),(23,39,60,[])] t_).toArray,[]⟩∧St W16 [] [eB B10_26 69 ([hz,(3+((hz.tmod 58+58).tmod 58))].map (Value.int .i64)).toArray] W) (2 - 0) ?_ ?_
  · -- the loop begins
    exact ⟨0,Nat.zero_le _,rfl,(by kernel_rfl),hst29.pk [0]⟩
  rintro n34 a34 W34 ⟨ii,hii,rfl,hj_,hst34⟩
  refine ovz hj_ fun u34_=>?_
  refine wp_seq (wp_seq (sqr (sqp [.m 39 12, .k 40 (.bool (decide ((ii:Int) < 2)))] ?_)))
  refine then_normal (wds (fun hs37 hs37p=>?_) fun hs37 hs37p=>?_)
  ·refine wp_skip (then_normal (wp_seq (wp_block (wp_seq (wp_region_Y [0,1,0,0,8,24,0,64,255,511] [[],[],[],[],[],[0]] [[],[],[],[],[],[],[],[],[1]] [] [.c 43 (.agg #[.slice A19_6 5 c19_6]), .c 44 (.iface 30 (.agg #[.slice A19_6 5 c19_6])), .k 45 (vi n), .k 46 (vi ((ii:Int))), .c 47 (.pointer (some ⟨B10_26,ii,none⟩)), .c 48 (vi (([hz,(3+((hz.tmod 58+58).tmod 58))]).getD ii 0)), .c 49 (.agg ((stdT (stand.take 128)).map (Value.int .i64)).toArray), .c 50 (.iface 34 (.agg ((stdT (stand.take 128)).map (Value.int .i64)).toArray)), .a 51, .a 13] (fun ix σ β X=>match ix with | 0=>True | 1=>True | 2=>True | 3=>True | 4=>True | 5=>True | 6=>True | 7=>True | 8=>σ 51= .slice (sA (β 51)) (((rtL (pvF Ps n) 24).filter (dchB (pvF Ps n) n (([hz,(3+((hz.tmod 58+58).tmod 58))]).getD ii 0) (tabF (stdT (stand.take 128))))).length) (sC (β 51))∧X 1=eO 24 2 (.slice (sA (β 51)) (((rtL (pvF Ps n) 24).filter (dchB (pvF Ps n) n (([hz,(3+((hz.tmod 58+58).tmod 58))]).getD ii 0) (tabF (stdT (stand.take 128))))).length) (sC (β 51))) (((rtL (pvF Ps n) 24).filter (dchB (pvF Ps n) n (([hz,(3+((hz.tmod 58+58).tmod 58))]).getD ii 0) (tabF (stdT (stand.take 128))))).length) (((rtL (pvF Ps n) 24).filter (dchB (pvF Ps n) n (([hz,(3+((hz.tmod 58+58).tmod 58))]).getD ii 0) (tabF (stdT (stand.take 128))))).flatMap (cellsR n)) | 9=>σ 13= .slice (sA (β 51)) (((rtL (pvF Ps n) 24).filter (dchB (pvF Ps n) n (([hz,(3+((hz.tmod 58+58).tmod 58))]).getD ii 0) (tabF (stdT (stand.take 128))))).length) (sC (β 51)) | _=>True) [0,1] [0,1,4,5,6,7,8,9] [(13,9,1,14),(29,0,9,38)] hst34 ?_ ?_ ?_)))))
   ·exact fun ix _ _ _ _ _ _ hs hb hx h=>match ix,h with
    | 8,h=>by dsimp only; rw [← hs 51 rfl,← hb 51 rfl,← hx 1 rfl]; exact h
    | 9,h=>by dsimp only; rw [← hs 13 rfl,← hb 51 rfl]; exact h
    | 0, _ | 1, _ | 2, _ | 3, _ | 4, _ | 5, _ | 6, _ | 7, _ | _+10, _=>trivial
   ·refine ⟨?_,?_,?_,?_,?_,?_,?_,?_,trivial⟩
    ·exact xs4 rfl id fun cx=>run_loadB (n:=1) rfl (by kernel_rfl) (by kernel_rfl) (cx.ou 8) (Blk.ext hB8 cx.upd.to_ext) (nle rfl) rfl
    ·exact sv0 rfl rfl rfl rfl rfl (fun _ _ _ h=>h) fun ρ β W X cx=>by
      have fF43:ρ (.tmp 43)= .agg #[.slice A19_6 5 c19_6]:=(cx.an 0)
      simp [go_sem,fF43]
    ·exact xs4 rfl id fun cx=>run_indexArrB (n:=2) (sz:=1) (m:=ii) (q:=ii) rfl (by kernel_rfl) (cx.ou 10) (cx.an 3) (by omega) (by omega) (by omega)
    ·exact xs4 rfl id fun cx=>run_load1 rfl (by kernel_rfl) (cx.an 4) (((cx.bi 0 rfl).cell ii).trans ((List.getElem?_toArray ..).trans (getD_int (by simp only [List.length_cons,List.length_nil]; omega))))
    ·exact xs4 rfl id fun cx=>run_loadAr (n:=128) rfl (by kernel_rfl) (by kernel_rfl) (cx.ou 9) (Blk.ext hB9 cx.upd.to_ext) (by simp [stdT_len])
    ·exact sv0 rfl rfl rfl rfl rfl (fun _ _ _ h=>h) fun ρ β W X cx=>by
      have fF49:ρ (.tmp 49)= .agg ((stdT (stand.take 128)).map (Value.int .i64)).toArray:=(cx.an 6)
      simp [go_sem,fF49]
    ·refine svA fun ρ β W X cx=>?_
     refine DoesU.call (run_callF (args:=#[.iface 30 (.agg #[.slice A19_6 5 c19_6]),vi n,vi (([hz,(3+((hz.tmod 58+58).tmod 58))]).getD ii 0), .iface 34 (.agg ((stdT (stand.take 128)).map (Value.int .i64)).toArray)]) rfl cx.sees rfl (by kernel_rfl) (map4 (cx.an 1) (cx.an 2) (cx.an 5) (cx.an 7))) ?_
     refine (hdead_any _ _ (pvF Ps) n (([hz,(3+((hz.tmod 58+58).tmod 58))]).getD ii 0) _ _ (tabF (stdT (stand.take 128))) _ (rpages_m hPl (hP.ext cx.upd.to_ext)) (hN3.ext cx.upd.to_ext) ((table_ok _ _ (stdT_len _)).ext cx.upd.to_ext)).mono ?_
     rintro e W1 ⟨A4,c4,rfl,ho_,hx⟩
     refine ⟨_,rfl,post_call [eO 24 2 (.slice A4 ((rtL (pvF Ps n) 24).filter (dchB (pvF Ps n) n (([hz,(3+((hz.tmod 58+58).tmod 58))]).getD ii 0) (tabF (stdT (stand.take 128))))).length c4) ((rtL (pvF Ps n) 24).filter (dchB (pvF Ps n) n (([hz,(3+((hz.tmod 58+58).tmod 58))]).getD ii 0) (tabF (stdT (stand.take 128))))).length (((rtL (pvF Ps n) 24).filter (dchB (pvF Ps n) n (([hz,(3+((hz.tmod 58+58).tmod 58))]).getD ii 0) (tabF (stdT (stand.take 128))))).flatMap (cellsR n))] rfl rfl hx (one_new (eO_new (n:=((rtL (pvF Ps n) 24).filter (dchB (pvF Ps n) n (([hz,(3+((hz.tmod 58+58).tmod 58))]).getD ii 0) (tabF (stdT (stand.take 128))))).length) (xs:=((rtL (pvF Ps n) 24).filter (dchB (pvF Ps n) n (([hz,(3+((hz.tmod 58+58).tmod 58))]).getD ii 0) (tabF (stdT (stand.take 128))))).flatMap (cellsR n)) ho_)) (List.pairwise_singleton _ _) (fun σ β' X' hs hb hv hN=>?_)⟩
     have hv1:=(hv 51 rfl).1; have hv2:=(hv 51 rfl).2
     exact ⟨hv1.trans (by rw [hv2]; rfl),(by rw [hv2]; exact (List.cons.inj hN).1)⟩
    ·exact sv rfl rfl rfl rfl rfl _ (fun _ _ _ h=>h) (fun β β' h=>by rw [h 51 (by decide)]) fun ρ β W X cx=>run_assign' rfl (dTn (cx.an 8)).1
   intro σ β X W38 hD hst38 fr hfr
   obtain ⟨A51_38,hu_A51_38⟩:∃ z,sA (β 51)=z:=⟨_,rfl⟩
   obtain ⟨c51_38,hu_c51_38⟩:∃ z,sC (β 51)=z:=⟨_,rfl⟩
   simp only [exq 1 ((dTn (hD 8 lq)).2),hu_A51_38,hu_c51_38] at hst38
   simp only [ed 51 ((dTn (hD 8 lq)).1),ed 13 ((dTn (hD 9 lq))),hu_A51_38,hu_c51_38] at hfr
   clear hD hu_A51_38 hu_c51_38; subst hfr; clear σ β X
   refine then_normal (wp_seq (wp_region_Y [0,0,0,4,12,0,63,127] [[],[],[],[],[0]] [[],[],[],[],[],[],[2]] [] [.c 52 (.agg #[.slice A19_6 5 c19_6]), .k 53 (vi n), .k 54 (vi ((ii:Int))), .c 55 (.pointer (some ⟨B10_26,ii,none⟩)), .c 56 (vi (([hz,(3+((hz.tmod 58+58).tmod 58))]).getD ii 0)), .c 57 (.agg ((stdT (stand.take 128)).map (Value.int .i64)).toArray), .a 58, .a 14] (fun ix σ β X=>match ix with | 0=>True | 1=>True | 2=>True | 3=>True | 4=>True | 5=>True | 6=>σ 58= .slice (sA (β 58)) (((rtL (pvF Ps n) 24).filter (dchB (pvF Ps n) n (([hz,(3+((hz.tmod 58+58).tmod 58))]).getD ii 0) (tabF (stdT (stand.take 128))))).length) (sC (β 58))∧X 2=eO 24 2 (.slice (sA (β 58)) (((rtL (pvF Ps n) 24).filter (dchB (pvF Ps n) n (([hz,(3+((hz.tmod 58+58).tmod 58))]).getD ii 0) (tabF (stdT (stand.take 128))))).length) (sC (β 58))) (((rtL (pvF Ps n) 24).filter (dchB (pvF Ps n) n (([hz,(3+((hz.tmod 58+58).tmod 58))]).getD ii 0) (tabF (stdT (stand.take 128))))).length) (((rtL (pvF Ps n) 24).filter (dchB (pvF Ps n) n (([hz,(3+((hz.tmod 58+58).tmod 58))]).getD ii 0) (tabF (stdT (stand.take 128))))).flatMap (cellsR n)) | 7=>σ 14= .slice (sA (β 58)) (((rtL (pvF Ps n) 24).filter (dchB (pvF Ps n) n (([hz,(3+((hz.tmod 58+58).tmod 58))]).getD ii 0) (tabF (stdT (stand.take 128))))).length) (sC (β 58)) | _=>True) [0,1,2] [0,3,4,5,6,7] [(14,7,1,15),(37,0,7,44)] hst38 ?_ ?_ ?_))
   ·exact fun ix _ _ _ _ _ _ hs hb hx h=>match ix,h with
    | 6,h=>by dsimp only; rw [← hs 58 rfl,← hb 58 rfl,← hx 2 rfl]; exact h
    | 7,h=>by dsimp only; rw [← hs 14 rfl,← hb 58 rfl]; exact h
    | 0, _ | 1, _ | 2, _ | 3, _ | 4, _ | 5, _ | _+8, _=>trivial
   ·refine ⟨?_,?_,?_,?_,?_,?_,trivial⟩
    ·exact xs4 rfl id fun cx=>run_loadB (n:=1) rfl (by kernel_rfl) (by kernel_rfl) (cx.ou 8) (Blk.ext hB8 cx.upd.to_ext) (nle rfl) rfl
    ·exact xs4 rfl id fun cx=>run_indexArrB (n:=2) (sz:=1) (m:=ii) (q:=ii) rfl (by kernel_rfl) (cx.ou 10) (cx.an 2) (by omega) (by omega) (by omega)
    ·exact xs4 rfl id fun cx=>run_load1 rfl (by kernel_rfl) (cx.an 3) (((cx.bi 0 rfl).cell ii).trans ((List.getElem?_toArray ..).trans (getD_int (by simp only [List.length_cons,List.length_nil]; omega))))
    ·exact xs4 rfl id fun cx=>run_loadAr (n:=128) rfl (by kernel_rfl) (by kernel_rfl) (cx.ou 9) (Blk.ext hB9 cx.upd.to_ext) (by simp [stdT_len])
    ·refine svA fun ρ β W X cx=>?_
     refine DoesU.call (run_callF (args:=#[.agg #[.slice A19_6 5 c19_6],vi n,vi (([hz,(3+((hz.tmod 58+58).tmod 58))]).getD ii 0), .agg ((stdT (stand.take 128)).map (Value.int .i64)).toArray]) rfl cx.sees rfl (by kernel_rfl) (map4 (cx.an 0) (cx.an 1) (cx.an 4) (cx.an 5))) ?_
     refine (rdead_m hPl (hP.ext cx.upd.to_ext) (stdT_len _)).mono ?_
     rintro e W1 ⟨A4,c4,rfl,ho_,hx⟩
     refine ⟨_,rfl,post_call [eO 24 2 (.slice A4 ((rtL (pvF Ps n) 24).filter (dchB (pvF Ps n) n (([hz,(3+((hz.tmod 58+58).tmod 58))]).getD ii 0) (tabF (stdT (stand.take 128))))).length c4) ((rtL (pvF Ps n) 24).filter (dchB (pvF Ps n) n (([hz,(3+((hz.tmod 58+58).tmod 58))]).getD ii 0) (tabF (stdT (stand.take 128))))).length (((rtL (pvF Ps n) 24).filter (dchB (pvF Ps n) n (([hz,(3+((hz.tmod 58+58).tmod 58))]).getD ii 0) (tabF (stdT (stand.take 128))))).flatMap (cellsR n))] rfl rfl hx (one_new (eO_new (n:=((rtL (pvF Ps n) 24).filter (dchB (pvF Ps n) n (([hz,(3+((hz.tmod 58+58).tmod 58))]).getD ii 0) (tabF (stdT (stand.take 128))))).length) (xs:=((rtL (pvF Ps n) 24).filter (dchB (pvF Ps n) n (([hz,(3+((hz.tmod 58+58).tmod 58))]).getD ii 0) (tabF (stdT (stand.take 128))))).flatMap (cellsR n)) ho_)) (List.pairwise_singleton _ _) (fun σ β' X' hs hb hv hN=>?_)⟩
     have hv1:=(hv 58 rfl).1; have hv2:=(hv 58 rfl).2
     exact ⟨hv1.trans (by rw [hv2]; rfl),(by rw [hv2]; exact (List.cons.inj hN).1)⟩
    ·exact sv rfl rfl rfl rfl rfl _ (fun _ _ _ h=>h) (fun β β' h=>by rw [h 58 (by decide)]) fun ρ β W X cx=>run_assign' rfl (dTn (cx.an 6)).1
   intro σ β X W39 hD hst39 fr hfr
   obtain ⟨A58_39,hu_A58_39⟩:∃ z,sA (β 58)=z:=⟨_,rfl⟩
   obtain ⟨c58_39,hu_c58_39⟩:∃ z,sC (β 58)=z:=⟨_,rfl⟩
   simp only [exq 2 ((dTn (hD 6 lq)).2),hu_A58_39,hu_c58_39] at hst39
   simp only [ed 58 ((dTn (hD 6 lq)).1),ed 14 ((dTn (hD 7 lq))),hu_A58_39,hu_c58_39] at hfr
   clear hD hu_A58_39 hu_c58_39; subst hfr; clear σ β X
   refine then_normal (wp_seq (wp_seq (wp_region_Y [0,1,0,4,15,31,63,127,63,63,575,1599,63,4159,16383,63,63,63,131135,393279,63,2097151,4194303,8388607,16777215] [[],[],[],[],[],[],[],[],[],[],[],[0],[],[],[],[],[],[],[],[0],[],[],[3,4]] [[],[],[],[],[],[],[],[],[],[],[],[],[],[],[3],[],[],[],[],[],[],[4]] [] [.k 59 (.slice A51_38 (((rtL (pvF Ps n) 24).filter (dchB (pvF Ps n) n (([hz,(3+((hz.tmod 58+58).tmod 58))]).getD ii 0) (tabF (stdT (stand.take 128))))).length) c51_38), .k 60 (vi ((((rtL (pvF Ps n) 24).filter (dchB (pvF Ps n) n (([hz,(3+((hz.tmod 58+58).tmod 58))]).getD ii 0) (tabF (stdT (stand.take 128))))).length:Int))), .k 61 (.slice A58_39 (((rtL (pvF Ps n) 24).filter (dchB (pvF Ps n) n (([hz,(3+((hz.tmod 58+58).tmod 58))]).getD ii 0) (tabF (stdT (stand.take 128))))).length) c58_39), .k 62 (vi ((((rtL (pvF Ps n) 24).filter (dchB (pvF Ps n) n (([hz,(3+((hz.tmod 58+58).tmod 58))]).getD ii 0) (tabF (stdT (stand.take 128))))).length:Int))), .e 63 (.bool ((((rtL (pvF Ps n) 24).filter (dchB (pvF Ps n) n (([hz,(3+((hz.tmod 58+58).tmod 58))]).getD ii 0) (tabF (stdT (stand.take 128))))).length:Int) != (((rtL (pvF Ps n) 24).filter (dchB (pvF Ps n) n (([hz,(3+((hz.tmod 58+58).tmod 58))]).getD ii 0) (tabF (stdT (stand.take 128))))).length:Int))) (.bool false) (congrArg Value.bool (show ((((rtL (pvF Ps n) 24).filter (dchB (pvF Ps n) n (([hz,(3+((hz.tmod 58+58).tmod 58))]).getD ii 0) (tabF (stdT (stand.take 128))))).length:Int) != (((rtL (pvF Ps n) 24).filter (dchB (pvF Ps n) n (([hz,(3+((hz.tmod 58+58).tmod 58))]).getD ii 0) (tabF (stdT (stand.take 128))))).length:Int))=false from (bne_self_eq_false _))), .k 64 (.bool false), .c 65 (.agg #[.slice A19_6 5 c19_6]), .c 66 (.iface 30 (.agg #[.slice A19_6 5 c19_6])), .k 67 (vi n), .k 68 (vi ((ii:Int))), .c 69 (.pointer (some ⟨B10_26,ii,none⟩)), .c 70 (vi (([hz,(3+((hz.tmod 58+58).tmod 58))]).getD ii 0)), .c 71 (.agg ((stdT (stand.take 128)).map (Value.int .i64)).toArray), .c 72 (.iface 34 (.agg ((stdT (stand.take 128)).map (Value.int .i64)).toArray)), .a 73, .c 74 (.agg #[.slice A19_6 5 c19_6]), .k 75 (vi n), .k 76 (vi ((ii:Int))), .c 77 (.pointer (some ⟨B10_26,ii,none⟩)), .c 78 (vi (([hz,(3+((hz.tmod 58+58).tmod 58))]).getD ii 0)), .c 79 (.agg ((stdT (stand.take 128)).map (Value.int .i64)).toArray), .a 80, .c 81 (.bool true), .k 82 (.bool false), .k 83 (.bool false)] (fun ix σ β X=>match ix with | 0=>True | 1=>True | 2=>True | 3=>True | 4=>True | 5=>True | 6=>True | 7=>True | 8=>True | 9=>True | 10=>True | 11=>True | 12=>True | 13=>True | 14=>σ 73= .slice (sA (β 73)) ((edL (pruM (dP (tabF (stdT (stand.take 128))) (([hz,(3+((hz.tmod 58+58).tmod 58))]).getD ii 0)) (tabF (stdT (stand.take 128))) n (pvF Ps n)) (pvF Ps n) n 23).length) (sC (β 73))∧X 3=eO 49 3 (.slice (sA (β 73)) ((edL (pruM (dP (tabF (stdT (stand.take 128))) (([hz,(3+((hz.tmod 58+58).tmod 58))]).getD ii 0)) (tabF (stdT (stand.take 128))) n (pvF Ps n)) (pvF Ps n) n 23).length) (sC (β 73))) ((edL (pruM (dP (tabF (stdT (stand.take 128))) (([hz,(3+((hz.tmod 58+58).tmod 58))]).getD ii 0)) (tabF (stdT (stand.take 128))) n (pvF Ps n)) (pvF Ps n) n 23).length) ((edL (pruM (dP (tabF (stdT (stand.take 128))) (([hz,(3+((hz.tmod 58+58).tmod 58))]).getD ii 0)) (tabF (stdT (stand.take 128))) n (pvF Ps n)) (pvF Ps n) n 23).flatMap (cellsEd n)) | 15=>True | 16=>True | 17=>True | 18=>True | 19=>True | 20=>True | 21=>σ 80= .slice (sA (β 80)) ((edL (pruM (dP (tabF (stdT (stand.take 128))) (([hz,(3+((hz.tmod 58+58).tmod 58))]).getD ii 0)) (tabF (stdT (stand.take 128))) n (pvF Ps n)) (pvF Ps n) n 23).length) (sC (β 80))∧X 4=eO 49 3 (.slice (sA (β 80)) ((edL (pruM (dP (tabF (stdT (stand.take 128))) (([hz,(3+((hz.tmod 58+58).tmod 58))]).getD ii 0)) (tabF (stdT (stand.take 128))) n (pvF Ps n)) (pvF Ps n) n 23).length) (sC (β 80))) ((edL (pruM (dP (tabF (stdT (stand.take 128))) (([hz,(3+((hz.tmod 58+58).tmod 58))]).getD ii 0)) (tabF (stdT (stand.take 128))) n (pvF Ps n)) (pvF Ps n) n 23).length) ((edL (pruM (dP (tabF (stdT (stand.take 128))) (([hz,(3+((hz.tmod 58+58).tmod 58))]).getD ii 0)) (tabF (stdT (stand.take 128))) n (pvF Ps n)) (pvF Ps n) n 23).flatMap (cellsEd n)) | _=>True) [0,1,2,3,4] [6,7,10,11,12,13,14,15,18,19,20,21,22] [(59,0,25,84)] hst39 ?_ ?_ ?_)))
   ·exact fun ix _ _ _ _ _ _ hs hb hx h=>match ix,h with
    | 14,h=>by dsimp only; rw [← hs 73 rfl,← hb 73 rfl,← hx 3 rfl]; exact h
    | 21,h=>by dsimp only; rw [← hs 80 rfl,← hb 80 rfl,← hx 4 rfl]; exact h
    | 0, _ | 1, _ | 2, _ | 3, _ | 4, _ | 5, _ | 6, _ | 7, _ | 8, _ | 9, _ | 10, _ | 11, _ | 12, _ | 13, _ | 15, _ | 16, _ | 17, _ | 18, _ | 19, _ | 20, _ | _+22, _=>trivial
   ·refine ⟨?_,?_,?_,?_,?_,?_,?_,?_,?_,?_,?_,?_,?_,trivial⟩
    ·exact xs5 rfl id (fun cx=>(cx.an 5)) fun cx=>run_loadB (n:=1) rfl (by kernel_rfl) (by kernel_rfl) (cx.ou 8) (Blk.ext hB8 cx.upd.to_ext) (nle rfl) rfl
    ·exact sv0_on rfl rfl rfl rfl rfl rfl (fun _ _ _ h=>h) (fun _ _ _ _ cx=>(cx.an 5)) fun ρ β W X cx=>by
      have fF65:ρ (.tmp 65)= .agg #[.slice A19_6 5 c19_6]:=(cx.an 6)
      simp [go_sem,fF65]
    ·exact xs5 rfl id (fun cx=>(cx.an 5)) fun cx=>run_indexArrB (n:=2) (sz:=1) (m:=ii) (q:=ii) rfl (by kernel_rfl) (cx.ou 10) (cx.an 9) (by omega) (by omega) (by omega)
    ·exact xs5 rfl id (fun cx=>(cx.an 5)) fun cx=>run_load1 rfl (by kernel_rfl) (cx.an 10) (((cx.bi 0 rfl).cell ii).trans ((List.getElem?_toArray ..).trans (getD_int (by simp only [List.length_cons,List.length_nil]; omega))))
    ·exact xs5 rfl id (fun cx=>(cx.an 5)) fun cx=>run_loadAr (n:=128) rfl (by kernel_rfl) (by kernel_rfl) (cx.ou 9) (Blk.ext hB9 cx.upd.to_ext) (by simp [stdT_len])
    ·exact sv0_on rfl rfl rfl rfl rfl rfl (fun _ _ _ h=>h) (fun _ _ _ _ cx=>(cx.an 5)) fun ρ β W X cx=>by
      have fF71:ρ (.tmp 71)= .agg ((stdT (stand.take 128)).map (Value.int .i64)).toArray:=(cx.an 12)
      simp [go_sem,fF71]
    ·refine sv_any_on rfl rfl rfl (fun _ _ _ _ cx=>(cx.an 5)) fun ρ β W X cx=>?_
     refine DoesU.call (run_callF (args:=#[.iface 30 (.agg #[.slice A19_6 5 c19_6]),vi n,vi (([hz,(3+((hz.tmod 58+58).tmod 58))]).getD ii 0), .iface 34 (.agg ((stdT (stand.take 128)).map (Value.int .i64)).toArray)]) rfl cx.sees rfl (by kernel_rfl) (map4 (cx.an 7) (cx.an 8) (cx.an 11) (cx.an 13))) ?_
     refine (hprune_any _ _ (pvF Ps) n (([hz,(3+((hz.tmod 58+58).tmod 58))]).getD ii 0) _ _ (tabF (stdT (stand.take 128))) _ (rpages_m hPl (hP.ext cx.upd.to_ext)) (hN3.ext cx.upd.to_ext) ((table_ok _ _ (stdT_len _)).ext cx.upd.to_ext)).mono ?_
     rintro e W1 ⟨A4,c4,rfl,ho_,hx⟩
     refine ⟨_,rfl,post_call [eO 49 3 (.slice A4 (edL (pruM (dP (tabF (stdT (stand.take 128))) (([hz,(3+((hz.tmod 58+58).tmod 58))]).getD ii 0)) (tabF (stdT (stand.take 128))) n (pvF Ps n)) (pvF Ps n) n 23).length c4) (edL (pruM (dP (tabF (stdT (stand.take 128))) (([hz,(3+((hz.tmod 58+58).tmod 58))]).getD ii 0)) (tabF (stdT (stand.take 128))) n (pvF Ps n)) (pvF Ps n) n 23).length ((edL (pruM (dP (tabF (stdT (stand.take 128))) (([hz,(3+((hz.tmod 58+58).tmod 58))]).getD ii 0)) (tabF (stdT (stand.take 128))) n (pvF Ps n)) (pvF Ps n) n 23).flatMap (cellsEd n))] rfl rfl hx (one_new (eO_new (n:=(edL (pruM (dP (tabF (stdT (stand.take 128))) (([hz,(3+((hz.tmod 58+58).tmod 58))]).getD ii 0)) (tabF (stdT (stand.take 128))) n (pvF Ps n)) (pvF Ps n) n 23).length) (xs:=(edL (pruM (dP (tabF (stdT (stand.take 128))) (([hz,(3+((hz.tmod 58+58).tmod 58))]).getD ii 0)) (tabF (stdT (stand.take 128))) n (pvF Ps n)) (pvF Ps n) n 23).flatMap (cellsEd n)) ho_)) (List.pairwise_singleton _ _) (fun σ β' X' hs hb hv hN=>?_)⟩
     have hv1:=(hv 73 rfl).1; have hv2:=(hv 73 rfl).2
     exact ⟨hv1.trans (by rw [hv2]; rfl),(by rw [hv2]; exact (List.cons.inj hN).1)⟩
    ·exact xs5 rfl id (fun cx=>(cx.an 5)) fun cx=>run_loadB (n:=1) rfl (by kernel_rfl) (by kernel_rfl) (cx.ou 8) (Blk.ext hB8 cx.upd.to_ext) (nle rfl) rfl
    ·exact xs5 rfl id (fun cx=>(cx.an 5)) fun cx=>run_indexArrB (n:=2) (sz:=1) (m:=ii) (q:=ii) rfl (by kernel_rfl) (cx.ou 10) (cx.an 17) (by omega) (by omega) (by omega)
    ·exact xs5 rfl id (fun cx=>(cx.an 5)) fun cx=>run_load1 rfl (by kernel_rfl) (cx.an 18) (((cx.bi 0 rfl).cell ii).trans ((List.getElem?_toArray ..).trans (getD_int (by simp only [List.length_cons,List.length_nil]; omega))))
    ·exact xs5 rfl id (fun cx=>(cx.an 5)) fun cx=>run_loadAr (n:=128) rfl (by kernel_rfl) (by kernel_rfl) (cx.ou 9) (Blk.ext hB9 cx.upd.to_ext) (by simp [stdT_len])
    ·refine sv_any_on rfl rfl rfl (fun _ _ _ _ cx=>(cx.an 5)) fun ρ β W X cx=>?_
     refine DoesU.call (run_callF (args:=#[.agg #[.slice A19_6 5 c19_6],vi n,vi (([hz,(3+((hz.tmod 58+58).tmod 58))]).getD ii 0), .agg ((stdT (stand.take 128)).map (Value.int .i64)).toArray]) rfl cx.sees rfl (by kernel_rfl) (map4 (cx.an 15) (cx.an 16) (cx.an 19) (cx.an 20))) ?_
     refine (rprune_m hPl (hP.ext cx.upd.to_ext) (stdT_len _)).mono ?_
     rintro e W1 ⟨A4,c4,rfl,ho_,hx⟩
     refine ⟨_,rfl,post_call [eO 49 3 (.slice A4 (edL (pruM (dP (tabF (stdT (stand.take 128))) (([hz,(3+((hz.tmod 58+58).tmod 58))]).getD ii 0)) (tabF (stdT (stand.take 128))) n (pvF Ps n)) (pvF Ps n) n 23).length c4) (edL (pruM (dP (tabF (stdT (stand.take 128))) (([hz,(3+((hz.tmod 58+58).tmod 58))]).getD ii 0)) (tabF (stdT (stand.take 128))) n (pvF Ps n)) (pvF Ps n) n 23).length ((edL (pruM (dP (tabF (stdT (stand.take 128))) (([hz,(3+((hz.tmod 58+58).tmod 58))]).getD ii 0)) (tabF (stdT (stand.take 128))) n (pvF Ps n)) (pvF Ps n) n 23).flatMap (cellsEd n))] rfl rfl hx (one_new (eO_new (n:=(edL (pruM (dP (tabF (stdT (stand.take 128))) (([hz,(3+((hz.tmod 58+58).tmod 58))]).getD ii 0)) (tabF (stdT (stand.take 128))) n (pvF Ps n)) (pvF Ps n) n 23).length) (xs:=(edL (pruM (dP (tabF (stdT (stand.take 128))) (([hz,(3+((hz.tmod 58+58).tmod 58))]).getD ii 0)) (tabF (stdT (stand.take 128))) n (pvF Ps n)) (pvF Ps n) n 23).flatMap (cellsEd n)) ho_)) (List.pairwise_singleton _ _) (fun σ β' X' hs hb hv hN=>?_)⟩
     have hv1:=(hv 80 rfl).1; have hv2:=(hv 80 rfl).2
     exact ⟨hv1.trans (by rw [hv2]; rfl),(by rw [hv2]; exact (List.cons.inj hN).1)⟩
    ·exact sv_call_on rfl rfl rfl rfl rfl rfl (fun _ _ _ h=>h) (fun _ _ _ _ cx=>(cx.an 5)) fun ρ β W X cx=>⟨_, _,run_callF (args:=#[.slice (sA (β 73)) ((edL (pruM (dP (tabF (stdT (stand.take 128))) (([hz,(3+((hz.tmod 58+58).tmod 58))]).getD ii 0)) (tabF (stdT (stand.take 128))) n (pvF Ps n)) (pvF Ps n) n 23).length) (sC (β 73)), .slice (sA (β 80)) ((edL (pruM (dP (tabF (stdT (stand.take 128))) (([hz,(3+((hz.tmod 58+58).tmod 58))]).getD ii 0)) (tabF (stdT (stand.take 128))) n (pvF Ps n)) (pvF Ps n) n 23).length) (sC (β 80))]) rfl cx.sees rfl (by kernel_rfl) (map2 (dTn (cx.an 14)).1 (dTn (cx.an 21)).1),sameed_any _ _ _ _ n _ _ (At.of_ownN (cx.row (dTn (cx.an 14)).2 rfl)) (At.of_ownN (cx.row (dTn (cx.an 21)).2 rfl)) (Nat.le_trans (edl_le _ _ _) (by decide))⟩
   intro σ β X W40 hD hst40 fr hfr
   obtain ⟨A73_40,hu_A73_40⟩:∃ z,sA (β 73)=z:=⟨_,rfl⟩
   obtain ⟨c73_40,hu_c73_40⟩:∃ z,sC (β 73)=z:=⟨_,rfl⟩
   obtain ⟨A80_40,hu_A80_40⟩:∃ z,sA (β 80)=z:=⟨_,rfl⟩
   obtain ⟨c80_40,hu_c80_40⟩:∃ z,sC (β 80)=z:=⟨_,rfl⟩
   simp only [exq 3 ((dTn (hD 14 lq)).2),exq 4 ((dTn (hD 21 lq)).2),hu_A73_40,hu_c73_40,hu_A80_40,hu_c80_40] at hst40
   simp only [ed 73 ((dTn (hD 14 lq)).1),ed 80 ((dTn (hD 21 lq)).1),hu_A73_40,hu_c73_40,hu_A80_40,hu_c80_40] at hfr
   clear hD hu_A73_40 hu_c73_40 hu_A80_40 hu_c80_40; subst hfr; clear σ β X
   refine then_normal (wcf rfl (wp_skip (then_normal (wp_seq (sqr (sqp [.k 15 (vi 0)] ?_))))))
   refine then_normal (wp_block ?_)
   have hdl_:((rtL (pvF Ps n) 24).filter (dchB (pvF Ps n) n (([hz,(3+((hz.tmod 58+58).tmod 58))]).getD ii 0) (tabF (stdT (stand.take 128))))).length≤24:=dd_le _ _
   refine wp_loopT (fun t_ mz az W=>∃ kk:Nat,kk≤((rtL (pvF Ps n) 24).filter (dchB (pvF Ps n) n (([hz,(3+((hz.tmod 58+58).tmod 58))]).getD ii 0) (tabF (stdT (stand.take 128))))).length∧mz=((rtL (pvF Ps n) 24).filter (dchB (pvF Ps n) n (([hz,(3+((hz.tmod 58+58).tmod 58))]).getD ii 0) (tabF (stdT (stand.take 128))))).length - kk∧az=⟨(ovr (jv az) [(6,6,1,[]),(8,15,0,[vi ((kk:Int))]),(68,84,15,[])] t_).toArray,[]⟩∧St W16 [] [eB B10_26 69 ([hz,(3+((hz.tmod 58+58).tmod 58))].map (Value.int .i64)).toArray,eO 24 2 (.slice A51_38 (((rtL (pvF Ps n) 24).filter (dchB (pvF Ps n) n (([hz,(3+((hz.tmod 58+58).tmod 58))]).getD ii 0) (tabF (stdT (stand.take 128))))).length) c51_38) (((rtL (pvF Ps n) 24).filter (dchB (pvF Ps n) n (([hz,(3+((hz.tmod 58+58).tmod 58))]).getD ii 0) (tabF (stdT (stand.take 128))))).length) (((rtL (pvF Ps n) 24).filter (dchB (pvF Ps n) n (([hz,(3+((hz.tmod 58+58).tmod 58))]).getD ii 0) (tabF (stdT (stand.take 128))))).flatMap (cellsR n)),eO 24 2 (.slice A58_39 (((rtL (pvF Ps n) 24).filter (dchB (pvF Ps n) n (([hz,(3+((hz.tmod 58+58).tmod 58))]).getD ii 0) (tabF (stdT (stand.take 128))))).length) c58_39) (((rtL (pvF Ps n) 24).filter (dchB (pvF Ps n) n (([hz,(3+((hz.tmod 58+58).tmod 58))]).getD ii 0) (tabF (stdT (stand.take 128))))).length) (((rtL (pvF Ps n) 24).filter (dchB (pvF Ps n) n (([hz,(3+((hz.tmod 58+58).tmod 58))]).getD ii 0) (tabF (stdT (stand.take 128))))).flatMap (cellsR n))] W) (((rtL (pvF Ps n) 24).filter (dchB (pvF Ps n) n (([hz,(3+((hz.tmod 58+58).tmod 58))]).getD ii 0) (tabF (stdT (stand.take 128))))).length - 0) ?_ ?_
   · -- the loop begins
     exact ⟨0,Nat.zero_le _,rfl,(by kernel_rfl),hst40.pk [0,1,2]⟩
   rintro n42 a42 W42 ⟨kk,hkk,rfl,hj_,hst42⟩
   refine ovz hj_ fun u42_=>?_
   refine wp_seq (wp_seq (sqr (sqp [.m 84 15, .m 85 13, .k 86 (vi ((((rtL (pvF Ps n) 24).filter (dchB (pvF Ps n) n (([hz,(3+((hz.tmod 58+58).tmod 58))]).getD ii 0) (tabF (stdT (stand.take 128))))).length:Int))), .k 87 (.bool (decide ((kk:Int) < (((rtL (pvF Ps n) 24).filter (dchB (pvF Ps n) n (([hz,(3+((hz.tmod 58+58).tmod 58))]).getD ii 0) (tabF (stdT (stand.take 128))))).length:Int))))] ?_)))
   refine then_normal (wds (fun hs47 hs47p=>?_) fun hs47 hs47p=>?_)
   ·refine wp_skip (then_normal (wp_seq (wp_block (wp_seq ?_))))
    obtain ⟨rr,hrr⟩:∃ z,((rtL (pvF Ps n) 24).filter (dchB (pvF Ps n) n (([hz,(3+((hz.tmod 58+58).tmod 58))]).getD ii 0) (tabF (stdT (stand.take 128)))))[kk]? =some z:=⟨_,List.getElem?_eq_getElem (by omega)⟩
    refine wp_region_Z [0,0,3,7,0,0,48,112,255] [[],[],[1],[1],[],[],[2],[2]] [.k 90 (.slice A51_38 (((rtL (pvF Ps n) 24).filter (dchB (pvF Ps n) n (([hz,(3+((hz.tmod 58+58).tmod 58))]).getD ii 0) (tabF (stdT (stand.take 128))))).length) c51_38), .k 91 (vi ((kk:Int))), .c 92 (.pointer (some ((ad A51_38).add (kk*2)))), .c 93 (.agg #[vi n,vi ((rr:Int))]), .k 94 (.slice A58_39 (((rtL (pvF Ps n) 24).filter (dchB (pvF Ps n) n (([hz,(3+((hz.tmod 58+58).tmod 58))]).getD ii 0) (tabF (stdT (stand.take 128))))).length) c58_39), .k 95 (vi ((kk:Int))), .c 96 (.pointer (some ((ad A58_39).add (kk*2)))), .c 97 (.agg #[vi n,vi ((rr:Int))]), .c 98 (.bool false)] [0,1,2] [2,3,6,7,8] [(90,0,9,99)] hst42 ?_ fun W48 hst48=>?_
    ·refine ⟨?_,?_,?_,?_,?_,trivial⟩
     ·exact xs4 rfl id fun cx=>run_indexSlM (e:=24) (m:=kk) (sz:=2) rfl (by kernel_rfl) (by kernel_rfl) (cx.an 0) (cx.an 1) (by omega) (by omega) (At.of_ownN (cx.ri 1 rfl)) (flatPos (sz:=2) (cellsR_len n) (by decide) (by omega))
     ·exact xs4 rfl id fun cx=>run_loadElt (f:=(cellsR n)) (m:=kk) (sz:=2) (off:=0) (n:=2) rfl (by kernel_rfl) (by kernel_rfl) (cx.an 2) rfl (cellsR_len n) (At.of_ownN (cx.ri 1 rfl)) hrr (fun k hk=>match k,hk with | 0, _=>rfl | 1, _=>rfl | k+2,hk=>absurd hk (by omega))
     ·exact xs4 rfl id fun cx=>run_indexSlM (e:=24) (m:=kk) (sz:=2) rfl (by kernel_rfl) (by kernel_rfl) (cx.an 4) (cx.an 5) (by omega) (by omega) (At.of_ownN (cx.ri 2 rfl)) (flatPos (sz:=2) (cellsR_len n) (by decide) (by omega))
     ·exact xs4 rfl id fun cx=>run_loadElt (f:=(cellsR n)) (m:=kk) (sz:=2) (off:=0) (n:=2) rfl (by kernel_rfl) (by kernel_rfl) (cx.an 6) rfl (cellsR_len n) (At.of_ownN (cx.ri 2 rfl)) hrr (fun k hk=>match k,hk with | 0, _=>rfl | 1, _=>rfl | k+2,hk=>absurd hk (by omega))
     ·exact s4 rfl (fun _ _ _ h=>h.trans (congrArg Value.bool (show (!(n==n&&(rr:Int)==(rr:Int)))=false from (by simp)))) fun cx=>run_neT rfl (cx.an 3) (cx.an 7) rfl
    refine then_normal (wcf rfl (wp_skip (blk_normal (then_normal (sqr (sqp [.m 88 15,sI 89 ((kk:Int)+1) (by omega), .m 15 89] ?_))))))
    refine then_normal ?_
    refine ⟨((rtL (pvF Ps n) 24).filter (dchB (pvF Ps n) n (([hz,(3+((hz.tmod 58+58).tmod 58))]).getD ii 0) (tabF (stdT (stand.take 128))))).length - ((kk+1)),by omega,?_⟩
    exact ⟨(kk+1),by omega,rfl,(by kernel_rfl),hst48.pk [0,1,2]⟩
   refine wp_exit (then_exit (then_exit (blk_eq (blk_normal (then_normal (sqr (sqp [.m 41 12,sI 42 ((ii:Int)+1) (by omega), .m 12 42] ?_)))))))
   refine then_normal ?_
   refine ⟨2 - ((ii+1)),by omega,?_⟩
   exact ⟨(ii+1),by omega,rfl,(by kernel_rfl),hst42.pk [0]⟩
  refine wp_exit (then_exit (then_exit (blk_eq (then_normal (wp_seq ?_)))))
  obtain ⟨m3,hminm3,htkm3,hlem3,hem3⟩:=cut_len qs 12
  refine sqr (sqp [.k 99 (.pointer (some ⟨B5_1,1,none⟩))] ?_)
  refine sql (.slice QA qs.length qc) hst34 (fun cx=>run_load1 rfl (by kernel_rfl) (cx.ou 99) ((Blk.ext hB5 cx.upd.to_ext).cell 1)) ?_
  refine sqp [.k 101 (.pointer (some ⟨B5_1,1,none⟩))] ?_
  refine sql (.slice QA qs.length qc) hst34 (fun cx=>run_load1 rfl (by kernel_rfl) (cx.ou 101) ((Blk.ext hB5 cx.upd.to_ext).cell 1)) ?_
  refine sqp [.k 103 (vi ((qs.length:Int)))] ?_
  refine sql (vi ((m3:Int))) hst34 (fun cx=>run_min2 rfl (cx.ou 103) (cx.co _) (hminm3)) ?_
  refine sql (.slice QA m3 qc) hst34 (fun cx=>run_sliceL_hi (e:=3) (sz:=1) (m:=m3) rfl (by kernel_rfl) (by kernel_rfl) (cx.ou 100) (cx.ou 104) (by omega) (by omega)) ?_
  refine sqp [.m 16 105] ?_
  refine then_normal (wp_seq ?_)
  obtain ⟨qq,hqq⟩:∃ z,qs.take 12=z:=⟨_,rfl⟩
  have hqe:m3=qq.length:=by rw [← hqq]; exact hem3
  have hqt:qq=qs.take m3:=by rw [← hqq]; exact htkm3.symm
  have hqqb:∀ x∈qq, -9223372036854775808≤x∧x≤9223372036854775807:=fun x hx=>hqb x (by rw [← hqq] at hx; exact List.mem_of_mem_take hx)
  have hq12:qq.length≤12:=by rw [← hqq,List.length_take]; omega
  refine wp_region_Y [0,1,0,0,15,0,0,0,255,511,1023] [[],[],[],[],[],[],[],[],[],[1,2]] [[],[],[],[],[1],[],[],[],[2]] [] [.c 106 (.agg #[.slice A19_6 5 c19_6]), .c 107 (.iface 30 (.agg #[.slice A19_6 5 c19_6])), .k 108 (vi n), .k 109 (.slice QA m3 qc), .a 110, .c 111 (.agg #[.slice A19_6 5 c19_6]), .k 112 (vi n), .k 113 (.slice QA m3 qc), .a 114, .c 115 (.bool true), .k 116 (.bool false)] (fun ix σ β X=>match ix with | 0=>True | 1=>True | 2=>True | 3=>True | 4=>σ 110= .slice (sA (β 110)) ((edL (frM (pvF Ps n) n qq qq.length) (pvF Ps n) n 23).length) (sC (β 110))∧X 1=eO 49 3 (.slice (sA (β 110)) ((edL (frM (pvF Ps n) n qq qq.length) (pvF Ps n) n 23).length) (sC (β 110))) ((edL (frM (pvF Ps n) n qq qq.length) (pvF Ps n) n 23).length) ((edL (frM (pvF Ps n) n qq qq.length) (pvF Ps n) n 23).flatMap (cellsEd n)) | 5=>True | 6=>True | 7=>True | 8=>σ 114= .slice (sA (β 114)) ((edL (frM (pvF Ps n) n qq qq.length) (pvF Ps n) n 23).length) (sC (β 114))∧X 2=eO 49 3 (.slice (sA (β 114)) ((edL (frM (pvF Ps n) n qq qq.length) (pvF Ps n) n 23).length) (sC (β 114))) ((edL (frM (pvF Ps n) n qq qq.length) (pvF Ps n) n 23).length) ((edL (frM (pvF Ps n) n qq qq.length) (pvF Ps n) n 23).flatMap (cellsEd n)) | _=>True) [0,1,2] [0,1,4,5,8,9] [(106,0,11,117)] hst34 ?_ ?_ ?_
  ·exact fun ix _ _ _ _ _ _ hs hb hx h=>match ix,h with
   | 4,h=>by dsimp only; rw [← hs 110 rfl,← hb 110 rfl,← hx 1 rfl]; exact h
   | 8,h=>by dsimp only; rw [← hs 114 rfl,← hb 114 rfl,← hx 2 rfl]; exact h
   | 0, _ | 1, _ | 2, _ | 3, _ | 5, _ | 6, _ | 7, _ | _+9, _=>trivial
  ·refine ⟨?_,?_,?_,?_,?_,?_,trivial⟩
   ·exact xs4 rfl id fun cx=>run_loadB (n:=1) rfl (by kernel_rfl) (by kernel_rfl) (cx.ou 8) (Blk.ext hB8 cx.upd.to_ext) (nle rfl) rfl
   ·exact sv0 rfl rfl rfl rfl rfl (fun _ _ _ h=>h) fun ρ β W X cx=>by
     have fF106:ρ (.tmp 106)= .agg #[.slice A19_6 5 c19_6]:=(cx.an 0)
     simp [go_sem,fF106]
   ·refine svA fun ρ β W X cx=>?_
    refine DoesU.call (run_callF (args:=#[.iface 30 (.agg #[.slice A19_6 5 c19_6]),vi n, .slice QA m3 qc]) rfl cx.sees rfl (by kernel_rfl) (map3 (cx.an 1) (cx.an 2) (cx.an 3))) ?_
    refine (free_n (ss:=qq) hqe (rpages_m hPl (hP.ext cx.upd.to_ext)) (hN3.ext cx.upd.to_ext) (by rw [hqt]; exact (At.take_mapI (hQ3.ext cx.upd.to_ext) m3)) (by omega) hqqb).mono ?_
    rintro e W1 ⟨A4,c4,rfl,ho_,hx⟩
    refine ⟨_,rfl,post_call [eO 49 3 (.slice A4 (edL (frM (pvF Ps n) n qq qq.length) (pvF Ps n) n 23).length c4) (edL (frM (pvF Ps n) n qq qq.length) (pvF Ps n) n 23).length ((edL (frM (pvF Ps n) n qq qq.length) (pvF Ps n) n 23).flatMap (cellsEd n))] rfl rfl hx (one_new (eO_new (n:=(edL (frM (pvF Ps n) n qq qq.length) (pvF Ps n) n 23).length) (xs:=(edL (frM (pvF Ps n) n qq qq.length) (pvF Ps n) n 23).flatMap (cellsEd n)) ho_)) (List.pairwise_singleton _ _) (fun σ β' X' hs hb hv hN=>?_)⟩
    have hv1:=(hv 110 rfl).1; have hv2:=(hv 110 rfl).2
    exact ⟨hv1.trans (by rw [hv2]; rfl),(by rw [hv2]; exact (List.cons.inj hN).1)⟩
   ·exact xs4 rfl id fun cx=>run_loadB (n:=1) rfl (by kernel_rfl) (by kernel_rfl) (cx.ou 8) (Blk.ext hB8 cx.upd.to_ext) (nle rfl) rfl
   ·refine svA fun ρ β W X cx=>?_
    refine DoesU.call (run_callF (args:=#[.agg #[.slice A19_6 5 c19_6],vi n, .slice QA m3 qc]) rfl cx.sees rfl (by kernel_rfl) (map3 (cx.an 5) (cx.an 6) (cx.an 7))) ?_
    refine (rfree_n (ss:=qq) (n:=n) hPl hqe (hP.ext cx.upd.to_ext) (by rw [hqt]; exact (At.take_mapI (hQ3.ext cx.upd.to_ext) m3)) (by omega) hqqb).mono ?_
    rintro e W1 ⟨A4,c4,rfl,ho_,hx⟩
    refine ⟨_,rfl,post_call [eO 49 3 (.slice A4 (edL (frM (pvF Ps n) n qq qq.length) (pvF Ps n) n 23).length c4) (edL (frM (pvF Ps n) n qq qq.length) (pvF Ps n) n 23).length ((edL (frM (pvF Ps n) n qq qq.length) (pvF Ps n) n 23).flatMap (cellsEd n))] rfl rfl hx (one_new (eO_new (n:=(edL (frM (pvF Ps n) n qq qq.length) (pvF Ps n) n 23).length) (xs:=(edL (frM (pvF Ps n) n qq qq.length) (pvF Ps n) n 23).flatMap (cellsEd n)) ho_)) (List.pairwise_singleton _ _) (fun σ β' X' hs hb hv hN=>?_)⟩
    have hv1:=(hv 114 rfl).1; have hv2:=(hv 114 rfl).2
    exact ⟨hv1.trans (by rw [hv2]; rfl),(by rw [hv2]; exact (List.cons.inj hN).1)⟩
   ·exact xsc rfl id rfl rfl fun cx=>⟨_,sameed_any _ _ _ _ n _ _ (At.of_ownN (cx.row (dTn (cx.an 4)).2 rfl)) (At.of_ownN (cx.row (dTn (cx.an 8)).2 rfl)) (Nat.le_trans (edl_le _ _ _) (by decide)),(map2 (dTn (cx.an 4)).1 (dTn (cx.an 8)).1)⟩
  intro σ β X W63 hD hst63 fr hfr
  obtain ⟨A110_63,hu_A110_63⟩:∃ z,sA (β 110)=z:=⟨_,rfl⟩
  obtain ⟨c110_63,hu_c110_63⟩:∃ z,sC (β 110)=z:=⟨_,rfl⟩
  obtain ⟨A114_63,hu_A114_63⟩:∃ z,sA (β 114)=z:=⟨_,rfl⟩
  obtain ⟨c114_63,hu_c114_63⟩:∃ z,sC (β 114)=z:=⟨_,rfl⟩
  simp only [exq 1 ((dTn (hD 4 lq)).2),exq 2 ((dTn (hD 8 lq)).2),hu_A110_63,hu_c110_63,hu_A114_63,hu_c114_63] at hst63
  simp only [ed 110 ((dTn (hD 4 lq)).1),ed 114 ((dTn (hD 8 lq)).1),hu_A110_63,hu_c110_63,hu_A114_63,hu_c114_63] at hfr
  clear hD hu_A110_63 hu_c110_63 hu_A114_63 hu_c114_63; subst hfr; clear σ β X
  refine then_normal (wcf rfl (wp_skip (blk_normal (then_normal (sqr (sqp [.m 37 11,sI 38 (n+1) (by omega), .m 11 38] ?_))))))
  refine then_normal ?_
  refine ⟨(6 - ((n+1))).toNat,by omega,?_⟩
  exact ⟨(n+1),by omega,rfl,(by kernel_rfl),hst63.pk [0]⟩
 refine wp_exit (then_exit (then_exit (blk_eq (then_normal (wp_seq (sqr (sqp [.k 117 (.bool true), .k 6 (.bool true)] ?_)))))))
 refine then_normal (wp_ret ?_)
 refine bpr (.bool true) (results_1 Tryz.results4 rpt) ?_
 exact Ret.bool rfl (hx0.trans hst29.ext)
end
section
open Go.ChangeShapes Go.WideShapes Go.ChangeAt Go.RowKit Go.Deep Go.Joins
theorem ownKnob_none:ownKnob Tryz.prog.godebug=none:=by kernel_rfl
theorem laidOut:laidOutB Tryz.prog=true:=by kernel_rfl
section
variable {H:Type} {enc:TypeId×Value→H} {P:Program}
theorem trodAll_stays (hl:laidOutB P=true) {W W':World} {sp:Nat→Bool}:∀ {ts:List TypeId} {vs:List Value} {ds:List (DataW H)} {ps:List MemPlace},(∀ t∈ts,P.readableRec t=true∧t < P.types.size)→
  DataW.TrodAll enc P W 0 (fun _=>true) true ts vs ds ps→(∀ p∈ps,W.sameAt W' p)→(∀ p∈ps,sp p.block=true)→DataW.TrodAll enc P W' 0 sp true ts vs ds ps
 | [],[],[], _, _,h, _, _=>h
 | t:: _, _:: _, _:: _, _,hT,⟨p,q,h1,h2,e⟩,hsm,hs=>
   ⟨p,q,WideElems.Trod_stays hl (hT t (by simp)).1 (hT t (by simp)).2 h1 (fun x hx=>hsm x (by rw [e]; exact List.mem_append_left _ hx)) (fun x hx=>hs x (by rw [e]; exact List.mem_append_left _ hx)),
     trodAll_stays hl (fun t ht=>hT t (by simp [ht])) h2 (fun x hx=>hsm x (by rw [e]; exact List.mem_append_right _ hx)) (fun x hx=>hs x (by rw [e]; exact List.mem_append_right _ hx)),e⟩
/-- THE POST OF A LAW: true, and the input reads as it did, where the call wrote nothing that was there. -/
theorem law_post {f:Func} {s:ChangeSpec} {fresh handsOn again:Bool} {W W':World} {args:Array Value} {ds gs:List (DataW H)} {before:List MemPlace} {tb:TypeId}
  (hl:laidOutB P=true) (hT:∀ t∈f.params.toList,P.readableRec t=true∧t < P.types.size) (hr:f.resultTypes=#[tb]) (hb:P.underlying tb=some .bool)
  (hW:DataW.Whole enc P f.params.toList s.vars false W args.toList ds gs before) (hvs:s.vars=[])
  (hres:(s.fn H (ds++gs)).results=[.lit (.bool true)]) (hargs:(s.fn H (ds++gs)).args=ds) (hvars:(s.fn H (ds++gs)).vars=[]) (hx:Ext W W'):
  s.post enc P f false fresh handsOn again W args (.bool true) W':=by
 have hlt:∀ p∈before,p.block < W.heap.size:=fun p hp=>hW.lt p hp
 have hold:∀ p∈before,(fun b=>decide (b < W.heap.size)) p.block=true:=fun p hp=>by simpa using hlt p hp
 have hW0:=hW
 obtain ⟨p,q,hA,hV,rfl,hz,hn⟩:=hW
 rw [hvs] at hV
 obtain ⟨rfl,rfl⟩:=trodVars_none hV
 rw [List.append_nil] at hlt hold hz
 have HA:∀ sp:Nat→Bool,(∀ x∈p,sp x.block=true)→DataW.TrodAll enc P W' 0 sp true f.params.toList args.toList (s.fn H (ds++[])).args p:=fun sp hs=>by
  rw [hargs]
  exact trodAll_stays hl hT hA (fun x hx'=>hx.out.same (hlt x hx')) hs
 have HR:∀ (b:Nat) (sp:Nat→Bool) (hd:Bool),DataW.TrodAll enc P W' b sp hd f.resultTypes.toList ((Value.bool true).resultList f.resultTypes.size) (s.fn H (ds++[])).results []:=fun b sp hd=>by
  rw [hres,hr]
  exact trodAll_cons_mk (shut_bool hb _) trodAll_mk0
 have HV:∀ sp:Nat→Bool,DataW.TrodVars enc P W' sp s.vars (s.fn H (ds++[])).vars []:=fun sp=>by
  rw [hvs,hvars]
  rfl
 refine ⟨ds,[],p++[],[],p,[],hW0,HR _ _ _,HA _ hold,HV _,World.keptBut_mono (fun x hx'=>⟨hx',?_⟩) (hx.out.frame (·∈p++[])),fun _=>?_⟩
 ·rw [List.append_nil] at hx'
  exact Or.inr (Or.inl hx')
 ·refine ⟨?_, _, _,([]++p)++[],⟨[]++p,[],trodAll_append (HA _ (fun _ _=>rfl)) (HR _ _ _),HV _,rfl,?_,fun ha=>by cases ha⟩,?_⟩
  ·exact ok_one hr rfl (okWide_bool_mk hb _)
  ·intro b off hp
   have hin:MemPlace.cell b off∈p:=by simpa using hp
   rw [hx.out.frozen (hlt _ hin)]
   exact hz b off hin
  ·intro x hx' _
   simpa using hx'
end
end
section
open Go.ChangeShapes Go.WideShapes Go.ChangeAt Go.RowKit Go.Deep Go.Joins
/-- the shape of a type; 'sl e by': a slice, an element takes 'by' bytes; 'st': a struct or an array -/
inductive Sh where
 | int (k:IntKind)
 | bool
 | str
 | sl (e:Sh) (bs:Nat)
 | st (fs:List Sh)
mutual
def Sh.n:Sh→Nat
 | .st fs=>Sh.ns fs
 | .int _=>1
 | .bool=>1
 | .str=>1
 | .sl _ _=>1
def Sh.ns:List Sh→Nat
 | []=>0
 | f::fs=>f.n+Sh.ns fs
end
mutual
def Shows (w:World):Sh→List Value→Prop
 | .int k,cs=>∃ z,cs=[.int k z]∧(Lit.int k z).wf=true
 | .bool,cs=>∃ b,cs=[.bool b]
 | .str,cs=>∃ s:ByteArray,cs=[.string s]∧s.size≤140737488351232
 | .sl e bs,cs=>∃ (A:Option Addr) (n c:Nat) (xs:List Value),cs=[.slice A n c]∧At w A xs∧xs.length=n*e.n∧n≤c∧c*bs≤140737488351232∧∀ i,i < n→Shows w e ((xs.drop (i*e.n)).take e.n)
 | .st fs,cs=>ShowsL w fs cs
def ShowsL (w:World):List Sh→List Value→Prop
 | [],cs=>cs=[]
 | f::fs,cs=>∃ a b,cs=a++b∧Shows w f a∧ShowsL w fs b
end
mutual
def Sh.fits (P:Program):Sh→TypeId→Bool
 | .int k,t=>match P.underlying t with | some (.int k')=>decide (k'=k) | _=>false
 | .bool,t=>match P.underlying t with | some .bool=>true | _=>false
 | .str,t=>match P.underlying t with | some .string=>true | _=>false
 | .sl e bs,t=>match P.underlying t with | some (.slice u)=>e.fits P u&&decide (P.cellsOf u=e.n)&&decide (P.bytesOf u=bs)&&decide (0 < e.n) | _=>false
 | .st fs,t=>match P.underlying t with
   | some (.struct gs)=>decide (P.cellsOf t=Sh.ns fs)&&Sh.fitsF P fs gs.toList 0
   | some (.array n u)=>decide (P.cellsOf t=Sh.ns fs)&&decide (fs.length=n)&&Sh.fitsA P fs u
   | _=>false
def Sh.fitsF (P:Program):List Sh→List Field→Nat→Bool
 | [],[], _=>true
 | f::fs,g::gs,off=>decide (g.offset=off)&&decide (P.cellsOf g.type=f.n)&&f.fits P g.type&&Sh.fitsF P fs gs (off+f.n)
 | _, _, _=>false
def Sh.fitsA (P:Program):List Sh→TypeId→Bool
 | [], _=>true
 | f::fs,u=>decide (P.cellsOf u=f.n)&&f.fits P u&&Sh.fitsA P fs u
end
theorem mapM_at {α β:Type} {f:α→Option β}:∀ {l:List α} {ys:List β},l.mapM f=some ys→ys.length=l.length∧∀ (i:Nat) (a:α),l[i]? =some a→f a=ys[i]?
 | [],ys,h=>by simp at h; subst h; simp
 | a::l,ys,h=>by
   simp only [List.mapM_cons,Option.bind_eq_bind,Option.pure_def,Option.bind_eq_some_iff] at h
   obtain ⟨b,hb,bs,hbs,he⟩:=h
   obtain rfl:b::bs=ys:=by simpa using he
   obtain ⟨h1,h2⟩:=mapM_at hbs
   refine ⟨by simp [h1],fun i x hx=>?_⟩
   cases i with
   | zero=>simp at hx; subst hx; simpa using hb
   | succ i=>simpa using h2 i x (by simpa using hx)
section
variable {H:Type} {enc:TypeId×Value→H} {P:Program}
theorem weightsAll_at {e:TypeId}:∀ {ds:List (DataW H)} (i:Nat) (d:DataW H),ds[i]? =some d→∀ x∈d.weights P e,x∈DataW.weightsAll P e ds
 | [],i,d,h,x,hx=>by simp at h
 | d0::ds,0,d,h,x,hx=>by
   simp at h; subst h
   simp only [DataW.weightsAll,List.mem_append]; exact .inl hx
 | d0::ds,i+1,d,h,x,hx=>by
   simp only [DataW.weightsAll,List.mem_append]
   exact .inr (weightsAll_at i d (by simpa using h) x hx)
/-- the cells of a slice's elements -/
theorem cells_row {w:World} {a:Addr} {m len:Nat} (hm:0 < m) (h:∀ i,i < len→∃ csi,w.cells? 0 (a.add (i*m)) m=some csi):
  ∃ xs:List Value,xs.length=len*m∧At w (some a) xs∧∀ i,i < len→∀ csi,w.cells? 0 (a.add (i*m)) m=some csi→(xs.drop (i*m)).take m=csi:=by
 have key:∀ i,i < len→∀ csi,w.cells? 0 (a.add (i*m)) m=some csi→csi.length=m∧∀ r,r < m→w.cell? (a.add (i*m+r))=csi[r]? :=by
  intro i hi csi hc
  unfold World.cells? at hc
  rw [if_pos (Nat.zero_le _)] at hc
  obtain ⟨h1,h2⟩:=mapM_at hc
  refine ⟨by simpa using h1,fun r hr=>?_⟩
  have:=h2 r r (by simp [hr])
  rw [add_add'] at this
  exact this
 have each:∀ j,j < len*m→∃ u,w.cell? (a.add j)=some u:=by
  intro j hj
  have hi:j / m < len:=by rw [Nat.div_lt_iff_lt_mul hm]; exact hj
  obtain ⟨csi,hc⟩:=h _ hi
  obtain ⟨h1,h2⟩:=key _ hi _ hc
  have hr:=Nat.mod_lt j hm
  have:=h2 _ hr
  rw [show j / m*m+j % m=j by rw [Nat.mul_comm]; exact Nat.div_add_mod j m] at this
  rw [List.getElem?_eq_getElem (by omega)] at this
  exact ⟨_,this⟩
 refine ⟨(List.range (len*m)).map fun j=>(w.cell? (a.add j)).getD undef,by simp,fun j u hu=>?_,fun i hi csi hc=>?_⟩
 ·rw [List.getElem?_map] at hu
  rcases Nat.lt_or_ge j (len*m) with hj | hj
  ·obtain ⟨v,hv⟩:=each j hj
   rw [List.getElem?_range hj] at hu
   simp only [Option.map_some,hv,Option.getD_some,Option.some.injEq] at hu
   subst hu
   have:=World.block_lt_of_cell? _ _ hv
   rw [add_block] at this
   exact ⟨a,rfl,this,hv⟩
  ·rw [List.getElem?_eq_none (by simpa using hj)] at hu; cases hu
 ·obtain ⟨h1,h2⟩:=key i hi csi hc
  have hb:i*m+m≤len*m:=by
   have:(i+1)*m≤len*m:=Nat.mul_le_mul_right m hi
   rw [Nat.add_mul,Nat.one_mul] at this
   exact this
  apply List.ext_getElem?
  intro r
  rw [List.getElem?_take]
  by_cases hr:r < m
  ·rw [if_pos hr,List.getElem?_drop,List.getElem?_map,List.getElem?_range (by omega),Option.map_some,h2 r hr,List.getElem?_eq_getElem (by omega)]
   rfl
  ·rw [if_neg hr,List.getElem?_eq_none (by omega)]
mutual
theorem sees_of {w:World}:∀ (s:Sh) (t:TypeId) (fuel:Nat) (cs:List Value) (x:DataW H×List MemPlace),s.fits P t=true→DataW.trod enc P w 0 (fun _=>true) true fuel t cs=some x→
  (∀ n∈x.1.weights P t,n≤reachBytes)→Shows w s cs
 | .int k,t,fuel,cs,x,hf,h,hw=>by
   simp only [Sh.fits] at hf
   split at hf
   ·rename_i k' hu
    obtain rfl:=of_decide_eq_true hf
    obtain ⟨z,hc, _,hz⟩:=DataW.trod_int hu h
    exact ⟨z,hc,hz⟩
   ·cases hf
 | .bool,t,fuel,cs,x,hf,h,hw=>by
   simp only [Sh.fits] at hf
   split at hf
   ·rename_i hu
    obtain ⟨b,hc, _⟩:=DataW.trod_bool hu h
    exact ⟨b,hc⟩
   ·cases hf
 | .str,t,fuel,cs,x,hf,h,hw=>by
   simp only [Sh.fits] at hf
   split at hf
   ·rename_i hu
    obtain ⟨s,hc,rfl, _⟩:=DataW.trod_string hu h
    refine ⟨s,hc,?_⟩
    have:=hw s.data.toList.length (by simp [DataW.weights])
    exact this
   ·cases hf
 | .sl e bs,t,fuel,cs,x,hf,h,hw=>by
   simp only [Sh.fits] at hf
   split at hf
   ·rename_i u hu
    simp only [Bool.and_eq_true,decide_eq_true_eq] at hf
    obtain ⟨⟨⟨he,hm⟩,hb⟩,hp⟩:=hf
    rcases DataW.trod_slice hu h with ⟨rfl,rfl⟩ | ⟨a,len,cap,elems,rest,n, _,rfl,rfl, _,hl, _,hlen,hel,hsp, _⟩
    ·exact ⟨none,0,0,[],rfl,At.nil _ _,by simp,by simp,by simp,fun i hi=>by omega⟩
    ·obtain ⟨hrl, _⟩:=hsp rfl
     rw [hm] at hel
     have hsz:=hw ((elems.length+rest.length)*P.bytesOf u) (by simp [DataW.weights,hu])
     rw [hlen,hrl,hb] at hsz
     have hR:reachBytes=140737488351232:=rfl
     rw [hR] at hsz
     have hex:∀ i,i < len→∃ csi y,w.cells? 0 (a.add (i*e.n)) e.n=some csi∧elems[i]? =some y∧DataW.trod enc P w 0 (fun _=>true) true n u csi=some y:=by
      intro i hi
      have h1:=hel i hi
      rw [List.getElem?_eq_getElem (by omega),Option.bind_eq_some_iff] at h1
      obtain ⟨csi,hc,hy⟩:=h1
      exact ⟨csi, _,hc,List.getElem?_eq_getElem (by omega),hy⟩
     obtain ⟨xs,hxl,hxa,hxe⟩:=cells_row (w:=w) (a:=a) (len:=len) hp (fun i hi=>let ⟨csi, _,hc, _⟩:=hex i hi; ⟨csi,hc⟩)
     refine ⟨some a,len,cap,xs,rfl,hxa,hxl,hl,?_,fun i hi=>?_⟩
     ·rw [show len+(cap - len)=cap by omega] at hsz
      exact hsz
     ·obtain ⟨csi,y,hc,hy,ht⟩:=hex i hi
      rw [hxe i hi csi hc]
      refine sees_of e u n csi y he ht fun z hz=>hw z ?_
      simp only [DataW.weights,hu,List.mem_cons,List.mem_append]
      refine .inr (.inl ?_)
      exact weightsAll_at i y.1 (by rw [List.getElem?_map,hy]; rfl) z hz
   ·cases hf
 | .st fs,t,fuel,cs,x,hf,h,hw=>by
   simp only [Sh.fits] at hf
   split at hf
   ·rename_i gs hu
    simp only [Bool.and_eq_true,decide_eq_true_eq] at hf
    obtain ⟨hc,hF⟩:=hf
    obtain ⟨xs,n, _,rfl,hcl,hxl,hat⟩:=DataW.trod_struct hu h
    have:=seesF_of fs gs.toList 0 cs xs n hF (fun i g hg=>hat i g (by rw [← hg]; exact (Array.getElem?_toList ..).symm)) (by simpa using hxl) (by omega) (fun z hz=>hw z (by simp only [DataW.weights,hu]; exact hz))
    rw [List.drop_zero,List.take_of_length_le (by omega)] at this
    exact this
   ·rename_i n u hu
    simp only [Bool.and_eq_true,decide_eq_true_eq] at hf
    obtain ⟨⟨hc,hn⟩,hF⟩:=hf
    obtain ⟨xs,m, _,rfl,hcl,hxl,hat⟩:=DataW.trod_array hu h
    have:=seesA_of fs u 0 cs xs m hF (fun i hi=>by rw [Nat.zero_add]; exact hat i (by omega)) (by omega) (by rw [Nat.zero_mul,Nat.zero_add]; omega) (fun z hz=>hw z (by simp only [DataW.weights,hu]; exact hz))
    rw [Nat.zero_mul,List.drop_zero,List.take_of_length_le (by omega)] at this
    exact this
   ·cases hf
theorem seesF_of {w:World}:∀ (fs:List Sh) (gs:List Field) (off:Nat) (cs:List Value) (xs:List (DataW H×List MemPlace)) (m:Nat),Sh.fitsF P fs gs off=true→
  (∀ (i:Nat) (g:Field),gs[i]? =some g→DataW.trod enc P w 0 (fun _=>true) true m g.type ((cs.drop g.offset).take (P.cellsOf g.type))=xs[i]?)→xs.length=gs.length→off+Sh.ns fs≤cs.length→
  (∀ n∈DataW.weightsEach P (gs.map (·.type)) (xs.map (·.1)),n≤reachBytes)→ShowsL w fs ((cs.drop off).take (Sh.ns fs))
 | [],[],off,cs,xs,m,hf,h,hx,hl,hw=>by simp [ShowsL,Sh.ns]
 | f::fs,g::gs,off,cs,xs,m,hf,h,hx,hl,hw=>by
   simp only [Sh.fitsF,Bool.and_eq_true,decide_eq_true_eq] at hf
   obtain ⟨⟨⟨ho,hc⟩,hff⟩,hF⟩:=hf
   simp only [Sh.ns] at hl
   match xs,hx with
   | y::ys,hx=>
     have h0:=h 0 g rfl
     simp only [List.getElem?_cons_zero] at h0
     rw [ho,hc] at h0
     refine ⟨(cs.drop off).take f.n,(cs.drop (off+f.n)).take (Sh.ns fs),?_,sees_of f g.type m _ y hff h0 (fun z hz=>hw z ?_),seesF_of fs gs (off+f.n) cs ys m hF (fun i g' hg=>?_) (by simpa using hx) (by omega) (fun z hz=>hw z ?_)⟩
     ·rw [Sh.ns,← List.drop_drop,List.take_add]
     ·simp only [List.map_cons,DataW.weightsEach,List.mem_append]; exact .inl hz
     ·simpa using h (i+1) g' (by simpa using hg)
     ·simp only [List.map_cons,DataW.weightsEach,List.mem_append]; exact .inr hz
 | [], _:: _,off,cs,xs,m,hf,h,hx,hl,hw=>by simp [Sh.fitsF] at hf
 | _:: _,[],off,cs,xs,m,hf,h,hx,hl,hw=>by simp [Sh.fitsF] at hf
theorem seesA_of {w:World}:∀ (fs:List Sh) (u:TypeId) (k:Nat) (cs:List Value) (xs:List (DataW H×List MemPlace)) (m:Nat),Sh.fitsA P fs u=true→
  (∀ i,i < fs.length→DataW.trod enc P w 0 (fun _=>true) true m u ((cs.drop ((k+i)*P.cellsOf u)).take (P.cellsOf u))=xs[i]?)→xs.length=fs.length→k*P.cellsOf u+Sh.ns fs≤cs.length→
  (∀ n∈DataW.weightsAll P u (xs.map (·.1)),n≤reachBytes)→ShowsL w fs ((cs.drop (k*P.cellsOf u)).take (Sh.ns fs))
 | [],u,k,cs,xs,m,hf,h,hx,hl,hw=>by simp [ShowsL,Sh.ns]
 | f::fs,u,k,cs,xs,m,hf,h,hx,hl,hw=>by
   simp only [Sh.fitsA,Bool.and_eq_true,decide_eq_true_eq] at hf
   obtain ⟨⟨hc,hff⟩,hF⟩:=hf
   simp only [Sh.ns] at hl
   match xs,hx with
   | y::ys,hx=>
     have h0:=h 0 (by simp)
     simp only [List.getElem?_cons_zero,Nat.add_zero] at h0
     have hk:(k+1)*P.cellsOf u=k*P.cellsOf u+f.n:=by rw [Nat.add_mul,Nat.one_mul,hc]
     refine ⟨(cs.drop (k*P.cellsOf u)).take f.n,(cs.drop ((k+1)*P.cellsOf u)).take (Sh.ns fs),?_,sees_of f u m _ y hff (by rw [← hc]; exact h0) (fun z hz=>hw z ?_),seesA_of fs u (k+1) cs ys m hF (fun i hi=>?_) (by simpa using hx) (by rw [hk]; omega) (fun z hz=>hw z ?_)⟩
     ·rw [Sh.ns,hk,← List.drop_drop,List.take_add]
     ·simp only [List.map_cons,DataW.weightsAll,List.mem_append]; exact .inl hz
     ·rw [show k+1+i=k+(i+1) by omega]
      simpa using h (i+1) (by simp; omega)
     ·simp only [List.map_cons,DataW.weightsAll,List.mem_append]; exact .inr hz
end
end
/-- an argument opened -/
theorem sees_arg {H:Type} {enc:TypeId×Value→H} {P:Program} {w:World} {ts:List TypeId} {ds:List (DataW H)} (hsz:(DataW.weightsEach P ts ds).all (·≤reachBytes)=true) (j:Nat) {t:TypeId} {v:Value} {d:DataW H} {p:List MemPlace} (s:Sh)
  (hf:s.fits P t=true) (ht:ts[j]? =some t) (hd:ds[j]? =some d) (h:DataW.Trod enc P w 0 (fun _=>true) true t v d p):Shows w s v.cells.toList:=by
 obtain ⟨fuel,h⟩:=h
 exact sees_of s t fuel _ (d,p) hf h fun n hn=>of_decide_eq_true (List.all_eq_true.1 hsz n (DataW.weights_mem_each ht hd n hn))
/-- the elements of a slice as a list -/
theorem chunks {T:Type} (f:T→List Value) (p:T→Prop) (m:Nat):∀ (n:Nat) (xs:List Value),xs.length=n*m→(∀ i,i < n→∃ t,(xs.drop (i*m)).take m=f t∧p t)→
  ∃ ts:List T,ts.length=n∧xs=ts.flatMap f∧∀ t∈ts,p t
 | 0,xs,hl,h=>⟨[],rfl,by simpa using hl,by simp⟩
 | n+1,xs,hl,h=>by
   obtain ⟨t,ht,hp⟩:=h 0 (by omega)
   rw [Nat.zero_mul,List.drop_zero] at ht
   have hle:(n+1)*m=m+n*m:=by rw [Nat.add_mul,Nat.one_mul,Nat.add_comm]
   obtain ⟨ts,h1,h2,h3⟩:=chunks f p m n (xs.drop m) (by rw [List.length_drop]; omega) (fun i hi=>by
    obtain ⟨t',ht',hp'⟩:=h (i+1) (by omega)
    refine ⟨t',?_,hp'⟩
    rw [List.drop_drop,show m+i*m=(i+1)*m by rw [Nat.add_mul,Nat.one_mul,Nat.add_comm]]
    exact ht')
   refine ⟨t::ts,by simp [h1],?_,by simpa using ⟨hp,h3⟩⟩
   rw [List.flatMap_cons,← h2,← ht,List.take_append_drop]
theorem flatMap_one {T:Type} (f:T→Value):∀ ts:List T,(ts.flatMap fun t=>[f t])=ts.map f
 | []=>rfl
 | t::ts=>by simp [flatMap_one f ts]
/-- a slice of ints -/
theorem sees_ints {w:World} {k:IntKind} {bs:Nat} {cs:List Value} (h:Shows w (.sl (.int k) bs) cs):
  ∃ (A:Option Addr) (c:Nat) (zs:List Int),cs=[.slice A zs.length c]∧At w A (zs.map (Value.int k))∧zs.length≤c∧c*bs≤140737488351232∧∀ z∈zs,(Lit.int k z).wf=true:=by
 simp only [Shows,Sh.n,Nat.mul_one] at h
 obtain ⟨A,n,c,xs,rfl,hA,hl,hc,hb,he⟩:=h
 obtain ⟨zs,h1,h2,h3⟩:=chunks (fun z=>[Value.int k z]) (fun z=>(Lit.int k z).wf=true) 1 n xs (by omega) (fun i hi=>by rw [Nat.mul_one]; exact he i hi)
 rw [flatMap_one] at h2
 subst h1 h2
 exact ⟨A,c,zs,rfl,hA,hc,hb,h3⟩
/-- what an argument is -/
def ShowsV (w:World) (s:Sh) (v:Value):Prop:=match s with
 | .st fs=>∃ cs:List Value,v= .agg ⟨cs⟩∧ShowsL w fs cs
 | s=>Shows w s [v]
theorem sees_val {P:Program} {W w:World} {r:Reach} {b0:Nat} {t:TypeId} {v:Value} (s:Sh) (hf:s.fits P t=true) (hv:Value.okWide P W r b0 t v) (h:Shows w s v.cells.toList):ShowsV w s v:=by
 cases s with
 | int k=>
   simp only [Sh.fits] at hf
   split at hf
   ·rename_i k' hu
    obtain ⟨n,rfl⟩:=okWide_int hu hv
    exact h
   ·cases hf
 | bool=>
   simp only [Sh.fits] at hf
   split at hf
   ·rename_i hu
    obtain ⟨n,rfl⟩:=okWide_bool hu hv
    exact h
   ·cases hf
 | str=>
   simp only [Sh.fits] at hf
   split at hf
   ·rename_i hu
    obtain ⟨n,rfl⟩:=okWide_string hu hv
    exact h
   ·cases hf
 | sl e bs=>
   simp only [Sh.fits] at hf
   split at hf
   ·rename_i u hu
    obtain ⟨a,l,c,rfl⟩:=okWide_slice hu hv
    exact h
   ·cases hf
 | st fs=>
   simp only [Sh.fits] at hf
   split at hf
   ·rename_i gs hu
    obtain ⟨cs,rfl, _⟩:=okWide_struct hu hv
    exact ⟨cs.toList,rfl,h⟩
   ·rename_i n u hu
    simp only [Value.okWide,hu] at hv
    obtain ⟨cs,rfl, _⟩:=hv
    exact ⟨cs.toList,rfl,h⟩
   ·cases hf
end
section
open Go.ChangeShapes Go.WideShapes Go.ChangeAt Go.RowKit Go.Deep Go.Joins
abbrev laid1:List (String×DataW Unit):=[("vintner/tuple.none",Rows.laid_vintner_tuple_none)]
theorem gNone:Tryz.prog.globalNamed "vintner/tuple.none" =some 0:=by kernel_rfl
theorem tNone:(Tryz.prog.globals[0]?).map (·.type)=some 24:=by kernel_rfl
theorem door_met (os:Os) (args:Array Value):laidMetH Tryz.prog laid1 ((World.doorLaid Tryz.prog 400 os).forCall (fun _ _=>0) ⟨#[],args,[]⟩).memory:=
 laidMetH_of_parts3 (fuel:=8) (laidMet_of_run' 8 (by kernel_rfl) (by kernel_rfl)) (by kernel_rfl) (by kernel_rfl)
theorem none_of_met {W:World} (h:laidMet Tryz.prog laid1 W):NoneAt W:=by
 obtain ⟨ps,⟨g0,t0,cs0,f0,p0,q0,hg0,ht0,hv0,hd0, _, _⟩, _, _⟩:=h
 obtain rfl:=Option.some.inj (gNone.symm.trans hg0)
 obtain rfl:=Option.some.inj (tNone.symm.trans ht0)
 obtain ⟨xs,m, _,hx,hc,hl,hat⟩:=DataW.trod_struct Tryz.underlying24 hd0
 have c2:Tryz.prog.cellsOf 24=2:=by kernel_rfl
 have c1:Tryz.prog.cellsOf 3=1:=by kernel_rfl
 rw [c2] at hc
 obtain ⟨l0⟩:=cs0
 match l0,hc with
 | [a,b], _=>
   have hl2:xs.length=2:=hl
   match xs,hl2,hx,hat with
   | [x0,x1], _,hx,hat=>
     have e0:=hat 0 _ rfl
     have e1:=hat 1 _ rfl
     obtain ⟨k,k1,k2, _⟩:=DataW.trod_int Tryz.underlying3 (show DataW.trod _ Tryz.prog W 0 _ _ m 3 _=some x0 from e0)
     obtain ⟨n,n1,n2, _⟩:=DataW.trod_int Tryz.underlying3 (show DataW.trod _ Tryz.prog W 0 _ _ m 3 _=some x1 from e1)
     subst k2 n2
     have hh:DataW.agg [DataW.lit (Lit.int .i64 (-1)),DataW.lit (Lit.int .i64 0)]=DataW.agg [(DataW.lit (Lit.int .i64 k):DataW Unit),DataW.lit (Lit.int .i64 n)]:=(Prod.mk.inj hx).1
     injection hh with hh
     injection hh with h0 h1
     injection h1 with h1 _
     injection h0 with h0
     injection h0 with _ hk
     injection h1 with h1
     injection h1 with _ hn
     subst hk hn
     have ka:a= .int .i64 (-1):=by
      have h3:List.take (Tryz.prog.cellsOf 3) [a,b]=[Value.int .i64 (-1)]:=k1
      rw [c1] at h3
      simpa using h3
     have nb:b= .int .i64 0:=by
      have h3:List.take (Tryz.prog.cellsOf 3) [b]=[Value.int .i64 0]:=n1
      rw [c1] at h3
      simpa using h3
     subst ka nb
     have h0:W.cell? ⟨0,0,none⟩=some (.int .i64 (-1)):=(World.var?_cell hg0 hv0 0).trans rfl
     have h1:W.cell? ⟨0,1,none⟩=some (.int .i64 0):=(World.var?_cell hg0 hv0 1).trans rfl
     intro j u hj
     match j,hj with
     | 0,hj=>
       obtain rfl:Value.int .i64 (-1)=u:=by simpa using hj
       exact ⟨_,rfl,World.block_lt_of_cell? _ _ h0,h0⟩
     | 1,hj=>
       obtain rfl:Value.int .i64 0=u:=by simpa using hj
       exact ⟨_,rfl,World.block_lt_of_cell? _ _ h0,by rw [Addr.add_lit]; exact h1⟩
     | j+2,hj=>simp at hj
theorem none_of_laid {W:World} (h:laidMetH Tryz.prog laid1 W):NoneAt W:=by
 rw [MakeChecks.laidMetH_plain _ _ _ (by kernel_rfl)] at h
 exact none_of_met h
theorem i64_bd {z:Int} (h:(Lit.int .i64 z).wf=true): -9223372036854775808≤z∧z≤9223372036854775807:=by
 rw [Lit.wf,Bool.and_eq_true,decide_eq_true_eq,decide_eq_true_eq,show IntKind.i64.min= -9223372036854775808 from rfl,show IntKind.i64.max=9223372036854775807 from rfl] at h
 exact h
end
end Go.Proofs.YtjnplglnnamfdaaGreatDoor
namespace Go.Proofs.YtjnplglnnamfdaaGreatDoor.heapGoes
section
open Go.ChangeShapes Go.WideShapes Go.ChangeAt Go.RowKit Go.Deep Go.Joins
theorem lifted (os:Os) (started:os.Started) (H:Type) (enc:TypeId×Value→H):
  ReturnsInHanded {} Tryz.checked os 4 .any (fun w args=>(Rows.heapGoesSpec.pre enc Tryz.prog Tryz.f4 [] false w args∧laidMetH Tryz.prog laid1 w)∧sizedMet enc Tryz.prog Tryz.f4 (OpenSpec.ofChange Rows.heapGoesSpec) false w args) (Rows.heapGoesSpec.post enc Tryz.prog Tryz.f4 false true false false):=by
 refine returnsInHanded_of_change_and (C:=Tryz.checked) (X:=fun w _=>laidMetH Tryz.prog laid1 w) (fun _ _ _ hh h=>h.of_heap hh) ownKnob_none started (by kernel_rfl) Tryz.func4
  (ChangeSpec.witness_shaped (enc:=enc) (C:=Tryz.checked) (os:=os) (X:=fun w _=>laidMetH Tryz.prog laid1 w) false (World.doorLaid Tryz.prog 400 os) #[.slice none 0 0, .slice none 0 0, .agg #[.int .i64 0, .slice none 0 0]] 8 rfl (World.shaped_of_RefB (by kernel_rfl) (by kernel_rfl)) (by kernel_rfl) (by kernel_rfl) (by kernel_rfl) (door_met os _)) ?_
 intro W base args ds gs before hval0 hW hcnd hsz0 hLaid _
 have hN:=none_of_laid hLaid
 have hval:∀ (j:Nat) t v,Tryz.f4.params[j]? =some t→args[j]? =some v→Value.okWide Tryz.prog W .any base t v:=hval0
 have hsz:(DataW.weightsEach Tryz.prog (Tryz.f4.params.toList++Rows.heapGoesSpec.plain.varTypes Tryz.prog) (ds++gs)).all (·≤reachBytes)=true:=hsz0
 clear hsz0 hval0
 have hW':=hW
 obtain ⟨p,q,hA0,hV,rfl,hfz,hnd⟩:=hW
 have hA:DataW.TrodAll enc Tryz.prog W 0 (fun _=>true) true Tryz.f4.params.toList args.toList ds p:=hA0
 clear hA0
 rw [Tryz.params4] at hA hval hsz
 obtain ⟨v0,vs0,d0,ds0,p0,q0,hargs,rfl,rfl,h0,r0⟩:=trodAll_cons hA
 obtain ⟨v1,vs1,d1,ds1,p1,q1,rfl,rfl,rfl,h1,r1⟩:=trodAll_cons r0
 obtain ⟨v2,vs2,d2,ds2,p2,q2,rfl,rfl,rfl,h2,r2⟩:=trodAll_cons r1
 obtain ⟨rfl,rfl,rfl⟩:=trodAll_nil r2
 obtain rfl:args=#[v0,v1,v2]:=by cases args; simp_all
 obtain ⟨rfl,rfl⟩:=trodVars_none hV
 have s0:=sees_val (.sl (.int .i64) 8) (by kernel_rfl) (hval 0 _ _ rfl rfl) (sees_arg hsz 0 (.sl (.int .i64) 8) (by kernel_rfl) rfl rfl h0)
 have s1:=sees_val (.sl (.int .i64) 8) (by kernel_rfl) (hval 1 _ _ rfl rfl) (sees_arg hsz 1 (.sl (.int .i64) 8) (by kernel_rfl) rfl rfl h1)
 have s2:=sees_val (.st [.int .i64, .sl (.int .i64) 8]) (by kernel_rfl) (hval 2 _ _ rfl rfl) (sees_arg hsz 2 (.st [.int .i64, .sl (.int .i64) 8]) (by kernel_rfl) rfl rfl h2)
 clear hsz
 obtain ⟨SA,sc,s,hE,atSA,lSA,bSA,wSA⟩:=sees_ints s0
 cases hE
 obtain ⟨TA,tc,stand,hE,atTA,lTA,bTA,wTA⟩:=sees_ints s1
 cases hE
 obtain ⟨cs_,hE,s2⟩:=s2
 cases hE
 obtain ⟨a_,b_,hE,s2_0,s2r⟩:=s2
 cases hE
 obtain ⟨a_,b_,hE,s2_1,s2r⟩:=s2r
 cases hE
 cases s2r
 obtain ⟨hz,hE,whz⟩:=s2_0
 cases hE
 obtain ⟨QA,qc,qs,hE,atQA,lQA,bQA,wQA⟩:=sees_ints s2_1
 cases hE
 refine (heapgoes_any SA sc s TA tc stand hz QA qc qs W atSA (by omega) atTA (by omega) atQA (by omega) (fun x hx=>i64_bd (wQA x hx)) (i64_bd whz) hN).mono fun e W' ⟨he,hx⟩=>?_
 subst he
 exact ⟨_,rfl,law_post laidOut (by rw [Tryz.params4]; exact (by decide+kernel)) rfl Tryz.underlying4 hW' rfl rfl rfl rfl hx⟩
theorem over:Rows.heapGoesRow.holds Tryz.pinned (OpenSpec.ofChange Rows.heapGoesSpec):=
 OpenClaim.holds_of_wide 4 Tryz.f4 rfl rfl rfl rfl rfl rfl rfl ⟨rfl,rfl,rfl,rfl,rfl⟩ rfl rfl rfl rfl rfl (by kernel_rfl) Tryz.func4 (by kernel_rfl)
  (of_decide_eq_true (by kernel_rfl)) (by unfold Func.isWrapper; first | (rw [if_pos (by decide+kernel)]; kernel_rfl) | (rw [if_neg (by decide+kernel)]; exact ⟨rfl,rfl⟩))
  (fun os started H enc _=>lifted os started H enc)
theorem proved:Rows.HeapGoesCardSaid:=
 Claim7.holds_tied_plain_at .later [] [.data] true (true, "0534fde15a7cf9e11f91172a4db23648e64874bb25525f842c5fe204828ffe26") true
  over (fun _ h=>by cases h) (by kernel_rfl) (fun _ h=>by cases h) heapGoes_row_tie rfl ⟨rfl,rfl⟩ (by kernel_rfl) rfl
  (fun f fn hf hfn=>by
   obtain rfl:f=4:=Option.some.inj ((show Tryz.prog.funcNamed "vintner/vintnerlaw09.HeapGoes" =some 4 by kernel_rfl).symm.trans hf)|>.symm
   obtain rfl:fn=Tryz.f4:=(Option.some.inj (Tryz.func4.symm.trans hfn)).symm
   exact ⟨by kernel_rfl,fun j t ht=>by
    rw [Tryz.params4] at ht
    have hm:t∈[22,22,68]:=by simpa using Array.mem_of_getElem? ht
    have hall:([22,22,68].all fun u=>!Tryz.prog.wantsStandIn u)=true:=by kernel_rfl
    exact (show Tryz.prog.wantsStandIn t=false by simpa using List.all_eq_true.1 hall t hm)⟩)
  (by kernel_rfl)
end
end Go.Proofs.YtjnplglnnamfdaaGreatDoor.heapGoes

/- StoreRefusesRow: part 3 of the proof. -/
import Derived.Test.YtcdjaepgahbhfaaGreatZ2
import Derived.Recover
set_option linter.unusedVariables false
set_option linter.unusedSimpArgs false
set_option maxRecDepth 100000
set_option maxHeartbeats 16000000
namespace Go.Proofs.YtcdjaepgahbhfaaGreat
section
open Go.RowKit
def strL (l:List UInt8):ByteArray:=⟨l.toArray⟩
def rowB:ByteArray:=textO ⟨#[0]⟩
def hdB (r:RecM):ByteArray:=catS [putS r.kind 1,putS r.xid 1,putS r.tbl 2,rowB,rowB,putS (r.eds.length:Int) 1]
def edB (s:ByteArray) (e:EdT):ByteArray:=catS [s,putS e.1 2,putS (e.2.1+1) 1,textO e.2.2]
def edsF (s:ByteArray) (l:List EdT):ByteArray:=l.foldl edB s
def bytesR (r:RecM):ByteArray:=if recR r=true then catS [catS [edsF (hdB r) r.eds,putS 0 1],textO r.note] else ⟨#[]⟩
def frameR (r:RecM):ByteArray:=if recR r=true then catS [putS ((bytesR r).size:Int) 4,putS (sumF (bytesR r):Int) 4,bytesR r] else ⟨#[]⟩
theorem textO_sz (s:ByteArray):(textO s).size=2+s.size:=by rw [textO,ByteArray.size_append,putS_size _ _ (by decide)]
theorem rowB_size:rowB.size=3:=textO_sz _
theorem hdB_size (r:RecM):(hdB r).size=11:=by
 rw [hdB,catS_size]
 simp only [List.map_cons,List.map_nil,List.sum_cons,List.sum_nil,rowB_size,putS_size _ 1 (by decide),putS_size _ 2 (by decide)]
 rfl
theorem cat2_size (a b:ByteArray):(catS [a,b]).size=a.size+b.size:=by
 rw [catS_size]; simp only [List.map_cons,List.map_nil,List.sum_cons,List.sum_nil]; omega
theorem cat3_size (a b c:ByteArray):(catS [a,b,c]).size=a.size+b.size+c.size:=by
 rw [catS_size]; simp only [List.map_cons,List.map_nil,List.sum_cons,List.sum_nil]; omega
theorem edB_size (s:ByteArray) (e:EdT):(edB s e).size=s.size+5+e.2.2.size:=by
 rw [edB,catS_size]
 simp only [List.map_cons,List.map_nil,List.sum_cons,List.sum_nil,textO_sz,putS_size _ 1 (by decide),putS_size _ 2 (by decide)]
 omega
theorem edsF_take {s:ByteArray} {l:List EdT} {j:Nat} {e:EdT} (he:l[j]? =some e):edsF s (l.take (j+1))=edB (edsF s (l.take j)) e:=by
 obtain ⟨hj,rfl⟩:=List.getElem?_eq_some_iff.1 he
 rw [edsF,List.take_succ_eq_append_getElem hj,List.foldl_append]; rfl
theorem edsF_size {l:List EdT} (h:∀ e∈l,e.2.2.size≤400):∀ s:ByteArray,(edsF s l).size≤s.size+l.length*405:=by
 induction l with
 | nil=>intro s; exact Nat.le_refl _
 | cons e l ih=>
   intro s
   have h1:=ih (fun x hx=>h x (by simp [hx])) (edB s e)
   rw [edB_size] at h1
   have h2:=h e (by simp)
   show (edsF (edB s e) l).size≤ _
   rw [List.length_cons,Nat.add_mul]
   omega
theorem edR_item {e:EdT} (h:edR e=true):e.2.2.size≤400:=by
 simp only [edR,Bool.and_eq_true] at h
 have h2:=h.2
 split at h2
 ·simp only [kindBad,Bool.not_eq_true',Bool.or_eq_false_iff,decide_eq_false_iff_not] at h2
  omega
 ·simp only [Bool.and_eq_true,decide_eq_true_eq] at h2
  omega
theorem edR_bd {e:EdT} (h:edR e=true):(0≤e.1∧e.1≤399)∧ -1≤e.2.1∧e.2.1≤23:=by
 simp only [edR,inB,Bool.and_eq_true,decide_eq_true_eq] at h
 refine ⟨h.1,?_⟩
 have h2:=h.2
 split at h2
 ·omega
 ·simp only [Bool.and_eq_true,decide_eq_true_eq] at h2
  omega
structure RecOk (r:RecM):Prop where
 kind:1≤r.kind∧r.kind≤10
 xid:0≤r.xid∧r.xid≤127
 tbl:0≤r.tbl∧r.tbl≤65535
 many:r.eds.length≤64
 eds:∀ e∈r.eds,edR e=true
 note:r.note.size≤60000
theorem recR_ok {r:RecM} (h:recR r=true):RecOk r:=by
 simp only [recR,inB,Bool.and_eq_true,decide_eq_true_eq,List.all_eq_true] at h
 exact ⟨h.1,h.2.1,h.2.2.1,by omega,h.2.2.2.2.1,by omega⟩
theorem bytesR_size (r:RecM):(bytesR r).size≤100000:=by
 unfold bytesR
 split
 ·rename_i h
  have h1:=recR_ok h
  have h2:=edsF_size (fun e he=>edR_item (h1.eds e he)) (hdB r)
  have h3:r.eds.length*405≤64*405:=Nat.mul_le_mul_right _ h1.many
  have h4:=h1.note
  rw [hdB_size] at h2
  rw [catS_size]
  simp only [List.map_cons,List.map_nil,List.sum_cons,List.sum_nil,textO_sz,catS_size,putS_size _ 1 (by decide)]
  omega
 ·exact Nat.zero_le _
theorem jvright_0 (w:World):
  Calls Tryz.prog 181 #[.slice none 0 0] w (Ret (.bool true) w):=by
 go_enter Tryz.func181,Tryz.ntmps181
 have hst0:=St.start w
 refine wp_seq (sqr (sqp [.k 2 (.bool false)] ?_))
 refine then_normal (wp_seq (wp_seq (sqr (sqp [.m 5 0, .k 6 (vi 0), .k 7 (vi 0)] ?_))))
 refine then_normal (wp_block ?_)
 refine wp_loopT (fun t_ mz az W=>∃ j:Nat,j≤0∧mz=0 - j∧az=⟨(ovr (jv az) [(2,2,1,[]),(1,4,1,[]),(2,7,0,[vi ((j:Int))]),(0,8,7,[])] t_).toArray,[]⟩∧St w [] [] W) (0 - 0) ?_ ?_
 · -- the loop begins
   exact ⟨0,Nat.zero_le _,rfl,(by kernel_rfl),hst0.pk []⟩
 rintro n5 a5 W5 ⟨j,hj,rfl,hj_,hst5⟩
 refine ovz hj_ fun u5_=>?_
 refine wp_seq (sqr ?_)
 have hd7:(decide ((j:Int) < 0))=false:=(decide_eq_false (by omega))
 refine sqp [.e 8 (.bool (decide ((j:Int) < 0))) (.bool false) (congrArg Value.bool hd7)] ?_
 refine then_normal (wp_seq (wcf rfl (wp_exit (then_exit (then_exit (blk_eq (then_normal (wp_seq (sqr (sqp [.m 15 0, .k 16 (vi 0), .k 17 (.bool true), .k 2 (.bool true)] ?_))))))))))
 refine then_normal (wp_ret ?_)
 refine bpr (.bool true) (results_1 Tryz.results181 rpt) ?_
 exact Ret.bool (by decide) hst5.ext
theorem jvbytes_0 (w:World):
  Calls Tryz.prog 162 #[.slice none 0 0] w (Ret (.string ⟨#[0]⟩) w):=by
 go_enter Tryz.func162,Tryz.ntmps162
 have hst0:=St.start w
 refine wp_seq (sqr (sqp [.k 2 (.string ⟨#[]⟩)] ?_))
 refine then_normal (wp_seq (wp_seq (sqr (sqp [.m 6 0] ?_))))
 refine sqk (.bool true) hst0 (fun cx=>⟨_,jvright_0 _,(map1 (cx.ou 6))⟩) fun W3 hst3=>?_
 refine sqp [.k 8 (.bool false)] ?_
 refine then_normal (wcf rfl (wp_skip (then_normal (wp_seq (sqr (sqal #[.pointer none, .slice none 0 0] hst3 fun B3_5 W5 hst5=>?_))))))
 refine then_normal (wp_seq (sqr (sqp [.m 9 0, .k 10 (vi 0),sW 11 .u8 0 0 (by decide)] ?_)))
 refine sqc0s (fun X_=>rO X_) (.nilIface) (fun r1_9=>eBu B3_5 r1_9 [UInt8.ofNat (0:Int).toNat]) 0 hst5 (by
   refine svA fun ρ β W X cx=>?_
   refine DoesU.call (run_callF (args:=#[vp B3_5, .int .u8 0]) rfl cx.sees rfl (by kernel_rfl) (map2 (cx.ou 3) (cx.ou 11))) ?_
   refine (sbc_l _ _ [] 0 _ (SbAt.fresh (cx.bi 0 rfl)) (by omega) (by decide)).mono ?_
   rintro e W1 ⟨rfl,hu⟩
   refine ⟨_,rfl,post_sb (by rw [(cx.init 0 _ rfl)]; rfl) rfl rfl hu (fun σ β' X' hs hb hv hx=>?_)⟩
   exact ⟨(hv 12 rfl).1,hx⟩) fun r1_9 W9 hst9=>?_
 refine then_normal (wp_seq (wp_seq (sqr (sqp [.m 13 0, .k 14 (vi 0), .k 15 (vi 0)] ?_))))
 refine then_normal (wp_block ?_)
 refine wp_loopT (fun t_ mz az W=>∃ j:Nat,j≤0∧mz=0 - j∧az=⟨(ovr (jv az) [(5,5,1,[]),(9,15,0,[vi ((j:Int))]),(0,16,27,[])] t_).toArray,[]⟩∧St w [] [eBu B3_5 r1_9 [UInt8.ofNat (0:Int).toNat]] W) (0 - 0) ?_ ?_
 · -- the loop begins
   exact ⟨0,Nat.zero_le _,rfl,(by kernel_rfl),hst9.pk [0]⟩
 rintro n13 a13 W13 ⟨j,hj,rfl,hj_,hst13⟩
 refine ovz hj_ fun u13_=>?_
 refine wp_seq (sqr ?_)
 have hd15:(decide ((j:Int) < 0))=false:=(decide_eq_false (by omega))
 refine sqp [.e 16 (.bool (decide ((j:Int) < 0))) (.bool false) (congrArg Value.bool hd15)] ?_
 refine then_normal (wp_seq (wcf rfl (wp_exit (then_exit (then_exit (blk_eq (then_normal (wp_seq (wp_region_Y [0,1] [[0]] [] [[0]] [.a 43, .c 2 (.string (strL ([UInt8.ofNat (0:Int).toNat])))] (fun ix σ β X=>match ix with | 0=>σ 43= .string (strL ([UInt8.ofNat (0:Int).toNat])) | _=>True) [] [0,1] [(2,1,1,3),(40,0,1,41)] hst13 ?_ ?_ ?_)))))))))
 ·exact fun ix _ _ _ _ _ _ hs hb hx h=>match ix,h with
  | 0,h=>(hs _ rfl).symm.trans h
  | _+1, _=>trivial
 ·refine ⟨?_,?_,trivial⟩
  ·refine svA fun ρ β W X cx=>?_
   refine DoesU.call (run_callF (args:=#[vp B3_5]) rfl cx.sees rfl (by kernel_rfl) (map1 (cx.ou 3))) ?_
   refine (sbstr_l _ _ ([UInt8.ofNat (0:Int).toNat]) _ (cx.sb (cx.init 0 _ rfl) rfl) (by simp) (by (try simp only [List.length_append,List.length_cons,List.length_nil]); omega)).mono ?_
   rintro e W1 ⟨rfl,hu⟩
   refine ⟨_,rfl,post_kill (by rw [(cx.init 0 _ rfl)]; rfl) rfl rfl hu (fun σ β' X' hs hb hv=>?_)⟩
   exact (hv 43 rfl).1
  ·exact xs4 rfl id fun cx=>run_assign' rfl (dTn (cx.an 0))
 intro σ β X W16 hD hst16 fr hfr
 simp only [ed 43 ((dTn (hD 0 lq)))] at hfr
 clear hD; subst hfr; clear σ β X
 refine then_normal (wp_ret ?_)
 refine bpr (.string (strL ([UInt8.ofNat (0:Int).toNat]))) (results_1 Tryz.results162 rpt) ?_
 exact Ret.of rfl hst16.ext
theorem jbytes_any (k x t:Int) (A:Option Addr) (c:Nat) (l:List EdT) (note:ByteArray) (w:World) (hA:At w A (l.flatMap edC)) (hl:l.length≤1000000) (hz:∀ e∈l,e.2.2.size≤9223372036854775807) (hns:note.size≤9223372036854775807):
  Calls Tryz.prog 118 #[.agg #[.int .i64 k, .int .i64 x, .int .i64 t, .slice none 0 0, .slice none 0 0, .slice A l.length c, .slice none 0 0, .string note]] w (Ret (.string (bytesR ⟨k,x,t,l,note⟩)) w):=by
 go_enter Tryz.func118,Tryz.ntmps118
 have hst0:=St.start w
 refine wp_seq (sqr ?_)
 refine sqbx #[vi k,vi x,vi t, .slice none 0 0, .slice none 0 0, .slice A l.length c, .slice none 0 0, .string note] hst0 fun B1_1 W1 hst1=>?_
 refine sqp [.k 2 (.string ⟨#[]⟩)] ?_
 refine then_normal (wp_seq (wp_seq (sqr ?_)))
 refine sqlb 0 8 hst1 ?_
 refine sqk (.bool (recR ⟨k,x,t,l,note⟩)) hst1 (fun cx=>⟨_,jright_any k x t _ _ l note _ (hA.ext cx.upd.to_ext) hl hz hns,(map1 (cx.ou 8))⟩) fun W4 hst4=>?_
 refine sqp [.k 10 (.bool (!(recR ⟨k,x,t,l,note⟩)))] ?_
 refine then_normal ?_
 rcases Bool.eq_false_or_eq_true (recR ⟨k,x,t,l,note⟩) with hs6 | hs6
 ·refine wp_cond_false (show Act.eval _ _= .bool false from (congrArg Value.bool (by rw [hs6]; rfl))) (wp_skip (then_normal (wp_seq ?_)))
  have hrr:=hs6
  have hro:=recR_ok hrr
  have hrm:l.length≤64:=hro.many
  have hrn:note.size≤60000:=hro.note
  refine wp_region_Y [0,1,3,0,8,31,0,64,255,0,512,2047,4095,0,8192,32767,65535,0,131072,393216,1048575,2097151,4194303,8388607] [[],[0],[],[],[0],[],[],[0],[],[],[0],[],[],[],[0],[],[],[],[0],[],[],[],[1]] [[],[],[],[],[],[],[],[],[],[],[],[],[],[],[],[],[],[],[],[],[],[1]] [] [.k 11 (vp B1_1), .c 12 (vi k), .c 13 (.string (putS k 1)), .k 14 (.pointer (some ⟨B1_1,1,none⟩)), .c 15 (vi x), .c 16 (.string (putS x 1)), .k 17 (.pointer (some ⟨B1_1,2,none⟩)), .c 18 (vi t), .c 19 (.string (putS t 2)), .k 20 (.pointer (some ⟨B1_1,3,none⟩)), .c 21 (.slice none 0 0), .c 22 (.string ((⟨#[0]⟩:ByteArray))), .c 23 (.string (textO (⟨#[0]⟩:ByteArray))), .k 24 (.pointer (some ⟨B1_1,4,none⟩)), .c 25 (.slice none 0 0), .c 26 (.string ((⟨#[0]⟩:ByteArray))), .c 27 (.string (textO (⟨#[0]⟩:ByteArray))), .k 28 (.pointer (some ⟨B1_1,5,none⟩)), .c 29 (.slice A l.length c), .k 30 (vi ((l.length:Int))), .c 31 (.string (putS (l.length:Int) 1)), .a 32, .c 33 (.string ((catS [(putS k 1),(putS x 1),(putS t 2),(textO (⟨#[0]⟩:ByteArray)),(textO (⟨#[0]⟩:ByteArray)),(putS (l.length:Int) 1)]))), .k 3 (.string ((catS [(putS k 1),(putS x 1),(putS t 2),(textO (⟨#[0]⟩:ByteArray)),(textO (⟨#[0]⟩:ByteArray)),(putS (l.length:Int) 1)])))] (fun ix σ β X=>match ix with | 0=>True | 1=>True | 2=>True | 3=>True | 4=>True | 5=>True | 6=>True | 7=>True | 8=>True | 9=>True | 10=>True | 11=>True | 12=>True | 13=>True | 14=>True | 15=>True | 16=>True | 17=>True | 18=>True | 19=>True | 20=>True | 21=>σ 32= .slice (sA (β 32)) 6 6∧X 1=eO 9 1 (.slice (sA (β 32)) 6 6) 6 ([.string (putS k 1), .string (putS x 1), .string (putS t 2), .string (textO (⟨#[0]⟩:ByteArray)), .string (textO (⟨#[0]⟩:ByteArray)), .string (putS (l.length:Int) 1)]) | _=>True) [0,1] [1,2,4,5,7,8,10,11,12,14,15,16,18,20,21,22] [(3,23,1,4),(7,0,23,30)] hst4 ?_ ?_ ?_
  ·exact fun ix _ _ _ _ _ _ hs hb hx h=>match ix,h with
   | 21,h=>by dsimp only; rw [← hs 32 rfl,← hb 32 rfl,← hx 1 rfl]; exact h
   | 0, _ | 1, _ | 2, _ | 3, _ | 4, _ | 5, _ | 6, _ | 7, _ | 8, _ | 9, _ | 10, _ | 11, _ | 12, _ | 13, _ | 14, _ | 15, _ | 16, _ | 17, _ | 18, _ | 19, _ | 20, _ | _+22, _=>trivial
  ·refine ⟨?_,?_,?_,?_,?_,?_,?_,?_,?_,?_,?_,?_,?_,?_,?_,?_,trivial⟩
   ·exact xs4 rfl id fun cx=>run_load1 rfl (by kernel_rfl) (cx.an 0) ((cx.bi 0 rfl).cell 0)
   ·exact xsc rfl id rfl rfl fun cx=>⟨_,jput1_any k _,(map1 (cx.an 1))⟩
   ·exact xs4 rfl id fun cx=>run_load1 rfl (by kernel_rfl) (cx.an 3) ((cx.bi 0 rfl).cell 1)
   ·exact xsc rfl id rfl rfl fun cx=>⟨_,jput1_any x _,(map1 (cx.an 4))⟩
   ·exact xs4 rfl id fun cx=>run_load1 rfl (by kernel_rfl) (cx.an 6) ((cx.bi 0 rfl).cell 2)
   ·exact xsc rfl id rfl rfl fun cx=>⟨_,jput2_any t _,(map1 (cx.an 7))⟩
   ·exact xs4 rfl id fun cx=>run_load1 rfl (by kernel_rfl) (cx.an 9) ((cx.bi 0 rfl).cell 3)
   ·exact xsc rfl id rfl rfl fun cx=>⟨_,jvbytes_0 _,(map1 (cx.an 10))⟩
   ·exact xsc rfl id rfl rfl fun cx=>⟨_,otext_any (⟨#[0]⟩:ByteArray) _ (by decide),(map1 (cx.an 11))⟩
   ·exact xs4 rfl id fun cx=>run_load1 rfl (by kernel_rfl) (cx.an 13) ((cx.bi 0 rfl).cell 4)
   ·exact xsc rfl id rfl rfl fun cx=>⟨_,jvbytes_0 _,(map1 (cx.an 14))⟩
   ·exact xsc rfl id rfl rfl fun cx=>⟨_,otext_any (⟨#[0]⟩:ByteArray) _ (by decide),(map1 (cx.an 15))⟩
   ·exact xs4 rfl id fun cx=>run_load1 rfl (by kernel_rfl) (cx.an 17) ((cx.bi 0 rfl).cell 5)
   ·exact xsc rfl id rfl rfl fun cx=>⟨_,jput1_any (l.length:Int) _,(map1 (cx.an 19))⟩
   ·refine svA fun ρ β W X cx=>?_
    have fF13:ρ (.tmp 13)= .string (putS k 1):=(cx.an 2)
    have fF16:ρ (.tmp 16)= .string (putS x 1):=(cx.an 5)
    have fF19:ρ (.tmp 19)= .string (putS t 2):=(cx.an 8)
    have fF23:ρ (.tmp 23)= .string (textO (⟨#[0]⟩:ByteArray)):=(cx.an 12)
    have fF27:ρ (.tmp 27)= .string (textO (⟨#[0]⟩:ByteArray)):=(cx.an 16)
    have fF31:ρ (.tmp 31)= .string (putS (l.length:Int) 1):=(cx.an 20)
    exact dv_lit (e:=9) (xs:=[.string (putS k 1), .string (putS x 1), .string (putS t 2), .string (textO (⟨#[0]⟩:ByteArray)), .string (textO (⟨#[0]⟩:ByteArray)), .string (putS (l.length:Int) 1)]) rfl (by simp [go_sem,fF13,fF16,fF19,fF23,fF27,fF31]) rfl (by decide) rfl rfl (fun σ β' X' hs hb hv hx=>⟨hv,hx⟩)
   ·exact xsc rfl id rfl rfl fun cx=>⟨_,jall_own _ [(putS k 1),(putS x 1),(putS t 2),(textO (⟨#[0]⟩:ByteArray)),(textO (⟨#[0]⟩:ByteArray)),(putS (l.length:Int) 1)] _ (cx.row (dTn (cx.an 21)).2 rfl) (by simp) (Nat.le_trans (Nat.le_of_eq (hdB_size ⟨k,x,t,l,note⟩)) (by decide)) (by simp),(map1 (dTn (cx.an 21)).1)⟩
  intro σ β X W7 hD hst7 fr hfr
  obtain ⟨A32_7,hu_A32_7⟩:∃ z,sA (β 32)=z:=⟨_,rfl⟩
  simp only [exq 1 ((dTn (hD 21 lq)).2),hu_A32_7] at hst7
  simp only [ed 32 ((dTn (hD 21 lq)).1),hu_A32_7] at hfr
  clear hD hu_A32_7; subst hfr; clear σ β X
  refine then_normal (wp_seq (wp_seq (sqr (sqp [.k 34 (.pointer (some ⟨B1_1,5,none⟩))] ?_))))
  refine sqld 0 hst7 ?_
  refine sqp [.k 36 (vi ((l.length:Int))), .k 37 (vi 0)] ?_
  refine then_normal (wp_block ?_)
  refine wp_loopT (fun t_ mz az W=>∃ j:Nat,∃ sj:ByteArray,j≤l.length∧sj=edsF (hdB ⟨k,x,t,l,note⟩) (l.take j)∧mz=l.length - j∧az=⟨(ovr (jv az) [(3,3,0,[.string sj]),(1,5,1,[]),(31,37,0,[vi ((j:Int))]),(0,38,17,[])] t_).toArray,[]⟩∧St w [] [eB B1_1 27 #[vi k,vi x,vi t, .slice none 0 0, .slice none 0 0, .slice A l.length c, .slice none 0 0, .string note],eO 9 1 (.slice A32_7 6 6) 6 ([.string (putS k 1), .string (putS x 1), .string (putS t 2), .string (textO (⟨#[0]⟩:ByteArray)), .string (textO (⟨#[0]⟩:ByteArray)), .string (putS (l.length:Int) 1)])] W) (l.length - 0) ?_ ?_
  · -- the loop begins
    exact ⟨0,(catS [(putS k 1),(putS x 1),(putS t 2),(textO (⟨#[0]⟩:ByteArray)),(textO (⟨#[0]⟩:ByteArray)),(putS (l.length:Int) 1)]),Nat.zero_le _,rfl,rfl,(by kernel_rfl),hst7.pk [0,1]⟩
  rintro n12 a12 W12 ⟨j,sj,hj,hsj,rfl,hj_,hst12⟩
  refine ovz hj_ fun u12_=>?_
  refine wp_seq (sqr (sqp [.k 38 (.bool (decide ((j:Int) < (l.length:Int))))] ?_))
  refine then_normal (wp_seq (wds (fun hs14 hs14p=>?_) fun hs14 hs14p=>?_))
  ·refine wp_skip (then_normal (wp_seq (wp_block (wp_seq ?_))))
   obtain ⟨ep,es,eb,hek⟩:=getEdT (l:=l) (k:=j) (by omega)
   have her:edR (ep,es,eb)=true:=hro.eds _ (List.mem_of_getElem? hek)
   have hez:eb.size≤400:=edR_item her
   obtain ⟨hep_,hes_⟩:=edR_bd her
   have hes_: -1≤es∧es≤23:=hes_
   have hsz:=edsF_size (l:=l.take j) (fun e he=>edR_item (hro.eds e (List.mem_of_mem_take he))) (hdB ⟨k,x,t,l,note⟩)
   rw [← hsj,hdB_size,List.length_take] at hsz
   have hszb:(edB sj (ep,es,eb)).size≤2000000:=by rw [edB_size]; show sj.size+5+eb.size≤ _; omega
   refine sqr ?_
   refine sql (.pointer (some ((ad A).add (j*3)))) hst12 (fun cx=>run_indexSlM (e:=84) (m:=j) (sz:=3) rfl (by kernel_rfl) (by kernel_rfl) (cx.ou 35) (cx.ou 37) (by omega) (by omega) (hA.ext cx.upd.to_ext) (flatPos (sz:=3) edC_len (by decide) (by omega))) ?_
   refine sql (.agg #[vi ep,vi es, .string eb]) hst12 (fun cx=>run_loadElt (f:=edC) (m:=j) (sz:=3) (off:=0) (n:=3) rfl (by kernel_rfl) (by kernel_rfl) (cx.ou 39) rfl edC_len (hA.ext cx.upd.to_ext) hek (fun k hk=>match k,hk with | 0, _=>rfl | 1, _=>rfl | 2, _=>rfl | k+3,hk=>absurd hk (by omega))) ?_
   refine sqal #[vi 0,vi 0, .string ByteArray.empty] hst12 fun B5_17 W17 hst17=>?_
   refine sqst (n:=3) 2 #[vi ep,vi es, .string eb] hst17 fun W18 hst18=>?_
   refine then_normal (wp_region_Y [0,0,2,6,0,16,48,126,0,256,1022,2047,4095,8191] [[],[],[2],[],[],[2],[],[],[],[2],[],[],[3]] [[],[],[],[],[],[],[],[],[],[],[],[3]] [] [.k 41 (.string sj), .k 42 (vp B5_17), .c 43 (vi ep), .c 44 (.string (putS ep 2)), .k 45 (.pointer (some ⟨B5_17,1,none⟩)), .c 46 (vi es),tI 47 (es+1) (by omega), .c 48 (.string (putS (es+1) 1)), .k 49 (.pointer (some ⟨B5_17,2,none⟩)), .c 50 (.string eb), .c 51 (.string (textO eb)), .a 52, .c 53 (.string ((catS [sj,(putS ep 2),(putS (es+1) 1),(textO eb)]))), .k 3 (.string ((catS [sj,(putS ep 2),(putS (es+1) 1),(textO eb)])))] (fun ix σ β X=>match ix with | 0=>True | 1=>True | 2=>True | 3=>True | 4=>True | 5=>True | 6=>True | 7=>True | 8=>True | 9=>True | 10=>True | 11=>σ 52= .slice (sA (β 52)) 4 4∧X 3=eO 9 1 (.slice (sA (β 52)) 4 4) 4 ([.string sj, .string (putS ep 2), .string (putS (es+1) 1), .string (textO eb)]) | _=>True) [0,1,2,3] [2,3,5,7,9,10,11,12] [(3,13,1,4),(37,0,13,50)] hst18 ?_ ?_ ?_)
   ·exact fun ix _ _ _ _ _ _ hs hb hx h=>match ix,h with
    | 11,h=>by dsimp only; rw [← hs 52 rfl,← hb 52 rfl,← hx 3 rfl]; exact h
    | 0, _ | 1, _ | 2, _ | 3, _ | 4, _ | 5, _ | 6, _ | 7, _ | 8, _ | 9, _ | 10, _ | _+12, _=>trivial
   ·refine ⟨?_,?_,?_,?_,?_,?_,?_,?_,trivial⟩
    ·exact xs4 rfl id fun cx=>run_load1 rfl (by kernel_rfl) (cx.an 1) ((cx.bi 2 rfl).cell 0)
    ·exact xsc rfl id rfl rfl fun cx=>⟨_,jput2_any ep _,(map1 (cx.an 2))⟩
    ·exact xs4 rfl id fun cx=>run_load1 rfl (by kernel_rfl) (cx.an 4) ((cx.bi 2 rfl).cell 1)
    ·exact xsc rfl id rfl rfl fun cx=>⟨_,jput1_any (es+1) _,(map1 (cx.an 6))⟩
    ·exact xs4 rfl id fun cx=>run_load1 rfl (by kernel_rfl) (cx.an 8) ((cx.bi 2 rfl).cell 2)
    ·exact xsc rfl id rfl rfl fun cx=>⟨_,otext_any eb _ (by omega),(map1 (cx.an 9))⟩
    ·refine svA fun ρ β W X cx=>?_
     have fF41:ρ (.tmp 41)= .string sj:=(cx.an 0)
     have fF44:ρ (.tmp 44)= .string (putS ep 2):=(cx.an 3)
     have fF48:ρ (.tmp 48)= .string (putS (es+1) 1):=(cx.an 7)
     have fF51:ρ (.tmp 51)= .string (textO eb):=(cx.an 10)
     exact dv_lit (e:=9) (xs:=[.string sj, .string (putS ep 2), .string (putS (es+1) 1), .string (textO eb)]) rfl (by simp [go_sem,fF41,fF44,fF48,fF51]) rfl (by decide) rfl rfl (fun σ β' X' hs hb hv hx=>⟨hv,hx⟩)
    ·exact xsc rfl id rfl rfl fun cx=>⟨_,jall_own _ [sj,(putS ep 2),(putS (es+1) 1),(textO eb)] _ (cx.row (dTn (cx.an 11)).2 rfl) (by simp) hszb (by simp),(map1 (dTn (cx.an 11)).1)⟩
   intro σ β X W19 hD hst19 fr hfr
   obtain ⟨A52_19,hu_A52_19⟩:∃ z,sA (β 52)=z:=⟨_,rfl⟩
   simp only [exq 3 ((dTn (hD 11 lq)).2),hu_A52_19] at hst19
   simp only [ed 52 ((dTn (hD 11 lq)).1),hu_A52_19] at hfr
   clear hD hu_A52_19; subst hfr; clear σ β X
   refine blk_normal (then_normal (sqr (sqp [sI 54 ((j:Int)+1) (by omega), .m 37 54] ?_)))
   refine then_normal ?_
   refine ⟨l.length - ((j+1)),by omega,?_⟩
   exact ⟨(j+1),(catS [sj,(putS ep 2),(putS (es+1) 1),(textO eb)]),by omega,by rw [edsF_take hek,← hsj]; rfl,rfl,(by kernel_rfl),hst19.pk [0,1]⟩
  refine wp_exit (then_exit (then_exit (blk_eq (then_normal (wp_seq ?_)))))
  obtain rfl:j=l.length:=by omega
  rw [List.take_length] at hsj
  have hsz:=edsF_size (l:=l) (fun e he=>edR_item (hro.eds e he)) (hdB ⟨k,x,t,l,note⟩)
  rw [← hsj,hdB_size] at hsz
  have hz9:(catS [sj,putS 0 1]).size≤2000000:=by rw [cat2_size,putS_size _ _ (by decide)]; omega
  have hz15:(catS [catS [sj,putS 0 1],textO note]).size≤2000000:=by rw [cat2_size,cat2_size,textO_sz,putS_size _ _ (by decide)]; omega
  refine sqr (sqp [.m 55 3, .k 56 (.pointer (some ⟨B1_1,6,none⟩))] ?_)
  refine sqld 0 hst12 ?_
  refine sqp [.k 58 (vi 0)] ?_
  refine sqk (.string (putS 0 1)) hst12 (fun cx=>⟨_,jput1_any 0 _,(map1 (cx.ou 58))⟩) fun W26 hst26=>?_
  refine sqn1 (fun x_=>sA x_) (fun A60_27=> .slice A60_27 2 2) (fun A60_27=>eO 9 1 (.slice A60_27 2 2) 2 ([.string sj, .string (putS 0 1)])) hst26 (by
    refine svA fun ρ β W X cx=>?_
    have fF55:ρ (.tmp 55)= .string sj:=(cx.ou 55)
    have fF59:ρ (.tmp 59)= .string (putS 0 1):=(cx.ou 59)
    exact dv_lit (e:=9) (xs:=[.string sj, .string (putS 0 1)]) rfl (by simp [go_sem,fF55,fF59]) rfl (by decide) rfl rfl (fun σ β' X' hs hb hv hx=>⟨hv,hx⟩)) fun A60_27 W27 hst27=>?_
  refine sqk (.string ((catS [sj,(putS 0 1)]))) hst27 (fun cx=>⟨_,jall_own _ [sj,(putS 0 1)] _ (cx.ri 2 rfl) (by simp) hz9 (by simp),(map1 (cx.ou 60))⟩) fun W28 hst28=>?_
  refine sqp [.m 3 61] ?_
  refine then_normal (wp_seq (wp_seq (sqr (sqp [.k 62 (.pointer (some ⟨B1_1,6,none⟩))] ?_))))
  refine sqld 0 hst28 ?_
  refine sqp [.k 64 (vi 0), .k 65 (vi 0)] ?_
  refine then_normal (wp_block ?_)
  refine wp_loopT (fun t_ mz az W=>∃ j:Nat,j≤0∧mz=0 - j∧az=⟨(ovr (jv az) [(7,7,1,[]),(57,65,0,[vi ((j:Int))]),(0,66,9,[])] t_).toArray,[]⟩∧St w [] [eB B1_1 27 #[vi k,vi x,vi t, .slice none 0 0, .slice none 0 0, .slice A l.length c, .slice none 0 0, .string note],eO 9 1 (.slice A32_7 6 6) 6 ([.string (putS k 1), .string (putS x 1), .string (putS t 2), .string (textO (⟨#[0]⟩:ByteArray)), .string (textO (⟨#[0]⟩:ByteArray)), .string (putS (l.length:Int) 1)]),eO 9 1 (.slice A60_27 2 2) 2 ([.string sj, .string (putS 0 1)])] W) (0 - 0) ?_ ?_
  · -- the loop begins
    exact ⟨0,Nat.zero_le _,rfl,(by kernel_rfl),hst28.pk [0,1,2]⟩
  rintro n34 a34 W34 ⟨j,hj,rfl,hj_,hst34⟩
  refine ovz hj_ fun u34_=>?_
  refine wp_seq (sqr ?_)
  have hd36:(decide ((j:Int) < 0))=false:=(decide_eq_false (by omega))
  refine sqp [.e 66 (.bool (decide ((j:Int) < 0))) (.bool false) (congrArg Value.bool hd36)] ?_
  refine then_normal (wp_seq (wcf rfl (wp_exit (then_exit (then_exit (blk_eq (then_normal (wp_seq (sqr (sqp [.m 75 3, .k 76 (.pointer (some ⟨B1_1,7,none⟩))] ?_))))))))))
  refine sqld 0 hst34 ?_
  refine sqk (.string (textO note)) hst34 (fun cx=>⟨_,otext_any note _ (by omega),(map1 (cx.ou 77))⟩) fun W40 hst40=>?_
  refine sqn1 (fun x_=>sA x_) (fun A79_41=> .slice A79_41 2 2) (fun A79_41=>eO 9 1 (.slice A79_41 2 2) 2 ([.string ((catS [sj,(putS 0 1)])), .string (textO note)])) hst40 (by
    refine svA fun ρ β W X cx=>?_
    have fF75:ρ (.tmp 75)= .string ((catS [sj,(putS 0 1)])):=(cx.ou 75)
    have fF78:ρ (.tmp 78)= .string (textO note):=(cx.ou 78)
    exact dv_lit (e:=9) (xs:=[.string ((catS [sj,(putS 0 1)])), .string (textO note)]) rfl (by simp [go_sem,fF75,fF78]) rfl (by decide) rfl rfl (fun σ β' X' hs hb hv hx=>⟨hv,hx⟩)) fun A79_41 W41 hst41=>?_
  refine sqk (.string ((catS [((catS [sj,(putS 0 1)])),(textO note)]))) hst41 (fun cx=>⟨_,jall_own _ [((catS [sj,(putS 0 1)])),(textO note)] _ (cx.ri 3 rfl) (by simp) hz15 (by simp),(map1 (cx.ou 79))⟩) fun W42 hst42=>?_
  refine sqp [.m 2 80] ?_
  refine then_normal (wp_ret ?_)
  refine bpr (.string ((catS [((catS [sj,(putS 0 1)])),(textO note)]))) (results_1 Tryz.results118 rpt) ?_
  exact Ret.of (by rw [bytesR,if_pos hrr,← hsj]) hst42.ext
 refine wp_cond_true (show Act.eval _ _= .bool true from (congrArg Value.bool (by rw [hs6]; rfl))) (wp_seq (sqr (sqp [.k 2 (.string ⟨#[]⟩)] ?_)))
 refine then_normal (wp_ret (then_ret ?_))
 refine bpr (.string ⟨#[]⟩) (results_1 Tryz.results118 rpt) ?_
 exact Ret.of (by rw [bytesR,hs6]; rfl) hst4.ext
theorem jframe_any (k x t:Int) (A:Option Addr) (c:Nat) (l:List EdT) (note:ByteArray) (w:World) (hA:At w A (l.flatMap edC)) (hl:l.length≤1000000) (hz:∀ e∈l,e.2.2.size≤9223372036854775807) (hns:note.size≤9223372036854775807):
  Calls Tryz.prog 55 #[.agg #[.int .i64 k, .int .i64 x, .int .i64 t, .slice none 0 0, .slice none 0 0, .slice A l.length c, .slice none 0 0, .string note]] w (Ret (.string (frameR ⟨k,x,t,l,note⟩)) w):=by
 go_enter Tryz.func55,Tryz.ntmps55
 have hst0:=St.start w
 refine wp_seq (sqr ?_)
 refine sqbx #[vi k,vi x,vi t, .slice none 0 0, .slice none 0 0, .slice A l.length c, .slice none 0 0, .string note] hst0 fun B1_1 W1 hst1=>?_
 refine sqp [.k 2 (.string ⟨#[]⟩)] ?_
 refine then_normal (wp_seq (wp_seq (sqr ?_)))
 refine sqlb 0 8 hst1 ?_
 refine sqk (.bool (recR ⟨k,x,t,l,note⟩)) hst1 (fun cx=>⟨_,jright_any k x t _ _ l note _ (hA.ext cx.upd.to_ext) hl hz hns,(map1 (cx.ou 4))⟩) fun W4 hst4=>?_
 refine sqp [.k 6 (.bool (!(recR ⟨k,x,t,l,note⟩)))] ?_
 refine then_normal ?_
 rcases Bool.eq_false_or_eq_true (recR ⟨k,x,t,l,note⟩) with hs6 | hs6
 ·refine wp_cond_false (show Act.eval _ _= .bool false from (congrArg Value.bool (by rw [hs6]; rfl))) (wp_skip (then_normal (wp_seq (sqr ?_))))
  refine sqlb 0 8 hst4 ?_
  refine sqk (.string ((bytesR ⟨k,x,t,l,note⟩))) hst4 (fun cx=>⟨_,jbytes_any k x t _ _ l note _ (hA.ext cx.upd.to_ext) hl hz hns,(map1 (cx.ou 7))⟩) fun W8 hst8=>?_
  refine sqp [.m 3 8] ?_
  refine then_normal (wp_seq ?_)
  have hbz:=bytesR_size ⟨k,x,t,l,note⟩
  have hsl:=sumF_lt (bytesR ⟨k,x,t,l,note⟩)
  have hz4:(catS [putS ((bytesR ⟨k,x,t,l,note⟩).size:Int) 4,putS (sumF (bytesR ⟨k,x,t,l,note⟩):Int) 4,bytesR ⟨k,x,t,l,note⟩]).size≤2000000:=by rw [cat3_size,putS_size _ _ (by decide),putS_size _ _ (by decide)]; omega
  refine sqr (sqp [.m 9 3, .k 10 (vi ((((bytesR ⟨k,x,t,l,note⟩)).size:Int)))] ?_)
  refine sqk (.string (putS (((bytesR ⟨k,x,t,l,note⟩)).size:Int) 4)) hst8 (fun cx=>⟨_,oput4_any (((bytesR ⟨k,x,t,l,note⟩)).size:Int) _,(map2 (cx.ou 10) (cx.co _))⟩) fun W12 hst12=>?_
  refine sqp [.m 12 3] ?_
  refine sqk (.int .u32 ((sumF (bytesR ⟨k,x,t,l,note⟩):Int))) hst12 (fun cx=>⟨_,osum_any (bytesR ⟨k,x,t,l,note⟩) _ (by omega),(map1 (cx.ou 12))⟩) fun W14 hst14=>?_
  refine sqp [sW 14 .i64 (sumF (bytesR ⟨k,x,t,l,note⟩):Int) (sumF (bytesR ⟨k,x,t,l,note⟩):Int) (IntWalk.i64_in _ (by omega))] ?_
  refine sqk (.string (putS (sumF (bytesR ⟨k,x,t,l,note⟩):Int) 4)) hst14 (fun cx=>⟨_,oput4_any (sumF (bytesR ⟨k,x,t,l,note⟩):Int) _,(map2 (cx.ou 14) (cx.co _))⟩) fun W16 hst16=>?_
  refine sqp [.m 16 3] ?_
  refine sqn1 (fun x_=>sA x_) (fun A17_18=> .slice A17_18 3 3) (fun A17_18=>eO 9 1 (.slice A17_18 3 3) 3 ([.string (putS (((bytesR ⟨k,x,t,l,note⟩)).size:Int) 4), .string (putS (sumF (bytesR ⟨k,x,t,l,note⟩):Int) 4), .string ((bytesR ⟨k,x,t,l,note⟩))])) hst16 (by
    refine svA fun ρ β W X cx=>?_
    have fF11:ρ (.tmp 11)= .string (putS (((bytesR ⟨k,x,t,l,note⟩)).size:Int) 4):=(cx.ou 11)
    have fF15:ρ (.tmp 15)= .string (putS (sumF (bytesR ⟨k,x,t,l,note⟩):Int) 4):=(cx.ou 15)
    have fF16:ρ (.tmp 16)= .string ((bytesR ⟨k,x,t,l,note⟩)):=(cx.ou 16)
    exact dv_lit (e:=9) (xs:=[.string (putS (((bytesR ⟨k,x,t,l,note⟩)).size:Int) 4), .string (putS (sumF (bytesR ⟨k,x,t,l,note⟩):Int) 4), .string ((bytesR ⟨k,x,t,l,note⟩))]) rfl (by simp [go_sem,fF11,fF15,fF16]) rfl (by decide) rfl rfl (fun σ β' X' hs hb hv hx=>⟨hv,hx⟩)) fun A17_18 W18 hst18=>?_
  refine sqk (.string ((catS [(putS (((bytesR ⟨k,x,t,l,note⟩)).size:Int) 4),(putS (sumF (bytesR ⟨k,x,t,l,note⟩):Int) 4),((bytesR ⟨k,x,t,l,note⟩))]))) hst18 (fun cx=>⟨_,jall_own _ [(putS (((bytesR ⟨k,x,t,l,note⟩)).size:Int) 4),(putS (sumF (bytesR ⟨k,x,t,l,note⟩):Int) 4),((bytesR ⟨k,x,t,l,note⟩))] _ (cx.ri 1 rfl) (by simp) hz4 (by simp),(map1 (cx.ou 17))⟩) fun W19 hst19=>?_
  refine sqp [.m 2 18] ?_
  refine then_normal (wp_ret ?_)
  refine bpr (.string ((catS [(putS (((bytesR ⟨k,x,t,l,note⟩)).size:Int) 4),(putS (sumF (bytesR ⟨k,x,t,l,note⟩):Int) 4),((bytesR ⟨k,x,t,l,note⟩))]))) (results_1 Tryz.results55 rpt) ?_
  exact Ret.of (by rw [frameR,if_pos hs6]) hst19.ext
 refine wp_cond_true (show Act.eval _ _= .bool true from (congrArg Value.bool (by rw [hs6]; rfl))) (wp_seq (sqr (sqp [.k 2 (.string ⟨#[]⟩)] ?_)))
 refine then_normal (wp_ret (then_ret ?_))
 refine bpr (.string ⟨#[]⟩) (results_1 Tryz.results55 rpt) ?_
 exact Ret.of (by rw [frameR,hs6]; rfl) hst4.ext
end
section
open Go.RowKit
theorem strL_size (l:List UInt8):(strL l).size=l.length:=by show l.toArray.size= _; simp
theorem strL_ext (l:List UInt8) (a b:Nat):(strL l).extract a b=strL ((l.drop a).take (b - a)):=by
 apply ByteArray.ext
 rw [ByteArray.data_extract]
 apply Array.ext'
 simp [strL,List.extract_eq_take_drop]
theorem strL_take (l:List UInt8) (n:Nat):(strL l).extract 0 n=strL (l.take n):=by rw [strL_ext]; simp
theorem strL_drop (l:List UInt8) (n:Nat):(strL l).extract n (strL l).size=strL (l.drop n):=by
 rw [strL_ext,strL_size,List.take_of_length_le (by simp)]
theorem Upd.less {b c:Nat} {w W:World} (h:Upd [b,c] w W) (hc:W.heap[c]? =w.heap[c]?):Upd [b] w W:=⟨h.os,h.tape,h.output,h.size,fun k hk hn=>by
 by_cases e:k=c
 ·rw [e]; exact hc
 ·exact h.block k hk (by simp at hn ⊢; exact ⟨hn,e⟩)⟩
theorem St.lent1 {w:World} {b t:Nat} {cs:Array Value} (hb:Blk w b t cs):St w [b] [eB b t cs] w:=by
 refine ⟨Upd.refl _ _,fun x hx=>?_,List.pairwise_singleton _ _⟩
 simp only [List.mem_cons,List.not_mem_nil,or_false] at hx
 subst hx
 exact ⟨hb,eB_loc _ _ _,fun k hk=>⟨.inl (by simp [eB] at hk; simp [hk]),by simp [eB] at hk; subst hk; exact hb.lt⟩⟩
theorem St.lentB2 {w:World} {b t c u:Nat} {cs ds:Array Value} (hb:Blk w b t cs) (hc:Blk w c u ds) (hne:b≠c):St w [b,c] [eB b t cs,eB c u ds] w:=by
 refine ⟨Upd.refl _ _,fun x hx=>?_,List.pairwise_pair.2 fun k hk hk'=>by simp [eB] at hk hk'; omega⟩
 simp only [List.mem_cons,List.not_mem_nil,or_false] at hx
 rcases hx with rfl | rfl
 ·exact ⟨hb,eB_loc _ _ _,fun k hk=>⟨.inl (by simp [eB] at hk; simp [hk]),by simp [eB] at hk; subst hk; exact hb.lt⟩⟩
 ·exact ⟨hc,eB_loc _ _ _,fun k hk=>⟨.inl (by simp [eB] at hk; simp [hk]),by simp [eB] at hk; subst hk; exact hc.lt⟩⟩
section
variable {P:Program} {o:Oper} {ρ:Operand→Value} {W:World}
theorem run_indexStr {t:TypeId} {x y:Operand} {l:List UInt8} {k:IntKind} {j:Int} {m:Nat} (h:o.op= .index t x y) (ht:P.underlying t=some .string) (hx:ρ x= .string (strL l)) (hy:ρ y= .int k j) (hj:j=(m:Int)) (hm:m < l.length):
  (execOp ρ o).run P W= .ok (.value (.int .u8 (byteI l m))) W:=by
 subst hj
 unfold execOp; rw [h]
 have h1:(0:Int)≤(m:Int):=by omega
 have h2:(strL l)[m]? =some (l.getD m 0):=by
  rw [getElem?_pos (strL l) m (by rw [strL_size]; exact hm)]
  simp [strL,ByteArray.getElem_eq_getElem_data,hm]
 simp only [hx,hy,Instr.index,asIntOf,Sem.run_bind,Sem.run_pure,Result.andThen_ok,run_underlying ht,h1,if_true,Int.toNat_natCast,h2]
 rfl
end
theorem must_true (e:Int) (w:World):
  Calls Tryz.prog 176 #[.bool true, .int .i64 e] w (Ret (.tuple #[]) w):=by
 go_enter Tryz.func176,Tryz.ntmps176
 have hst0:=St.start w
 refine wp_seq (sqr (sqp [.k 4 (.bool true), .k 5 (.bool false)] ?_))
 refine then_normal (wcf rfl (wp_skip ?_))
 refine bpe (.tuple #[]) (by simp [results,Tryz.results176,go_sem]) ?_
 exact Ret.of rfl hst0.ext
def TakePost (b:Nat) (v:Value) (l:List UInt8) (w:World) (e:Ending) (w':World):Prop:=e= .returned v∧Blk w' b 9 #[.string (strL l)]∧Upd [b] w w'
theorem take_any (n:Nat) (b:Nat) (l:List UInt8) (w:World) (hb:Blk w b 9 #[.string (strL l)]) (hn:n≤l.length):
  Calls Tryz.prog 175 #[.int .i64 ((n:Int)), .pointer (some ⟨b,0,none⟩)] w (TakePost b (.string (strL (l.take n))) (l.drop n) w):=by
 have st0:=St.lent1 hb
 have hsl:=strL_size l
 go_enter Tryz.func175,Tryz.ntmps175
 have hst0:=st0
 refine wp_seq (sqr (sqp [.k 3 (.string ⟨#[]⟩)] ?_))
 refine then_normal (wp_seq (sqr (sqld 0 hst0 ?_)))
 have hd6:(decide ((n:Int)≤((strL l).size:Int)))=true:=by rw [decide_eq_true_eq]; omega
 refine sqp [.k 6 (vi (((strL l).size:Int))), .m 7 0, .e 8 (.bool (decide ((n:Int)≤((strL l).size:Int)))) (.bool true) (congrArg Value.bool hd6)] ?_
 refine sqk (.tuple #[]) hst0 (fun cx=>⟨_,must_true _ _,(map2 (cx.ou 8) (cx.co _))⟩) fun W7 hst7=>?_
 refine then_normal (wp_seq (sqr (sqld 0 hst7 ?_)))
 refine sqp [.m 11 0] ?_
 refine sql (.string (strL (l.take n))) hst7 (fun cx=>(by rw [← strL_take]; exact run_slice_hi (l:=n) rfl (by kernel_rfl) (cx.ou 10) (cx.ou 11) (by omega) (by rw [strL_size]; omega))) ?_
 refine sqp [.m 4 12] ?_
 refine then_normal (wp_seq (sqr (sqld 0 hst7 ?_)))
 refine sqp [.m 14 0] ?_
 refine sql (.string (strL (l.drop n))) hst7 (fun cx=>(by rw [← strL_drop]; exact run_slice_lo (l:=n) rfl (by kernel_rfl) (cx.ou 13) (cx.ou 14) (by omega) (by rw [strL_size]; omega))) ?_
 refine sqst (n:=1) 0 #[.string (strL (l.drop n))] hst7 fun W15 hst15=>?_
 refine then_normal (wp_seq (sqr (sqp [.m 16 4, .m 3 16] ?_)))
 refine then_normal (wp_ret ?_)
 refine bpr (.string (strL (l.take n))) (results_1 Tryz.results175 rpt) ?_
 exact ⟨rfl,hst15.blk 0 rfl,hst15.upd⟩
theorem byte_lt (l:List UInt8) (m:Nat):0≤byteI l m∧byteI l m < 256:=by
 have:=(l.getD m 0).toNat_lt
 unfold byteI; omega
theorem byte_take (l:List UInt8) (h:1≤l.length):byteI (l.take 1) 0=byteI l 0:=by
 cases l with
 | nil=>simp at h
 | cons a l=>rfl
theorem one1_any (b c:Nat) (l:List UInt8) (w:World) (hb:Blk w b 9 #[.string (strL l)]) (hc:Blk w c 155 #[.func (.func 175) #[] #[.pointer (some ⟨b,0,none⟩)]]) (hne:b≠c) (hn:1≤l.length):
  Calls Tryz.prog 177 #[.pointer (some ⟨c,0,none⟩)] w (TakePost b (.int .i64 (byteI l 0)) (l.drop 1) w):=by
 have st0:=St.lentB2 hb hc hne
 have hb256:=byte_lt (l.take 1) 0
 go_enter Tryz.func177,Tryz.ntmps177
 have hst0:=st0
 refine wp_seq (sqr (sqp [.k 1 (vi 0)] ?_))
 refine then_normal (wp_seq (sqr (sqld 1 hst0 ?_)))
 refine sqc0 (.string (strL (l.take 1))) (eB b 9 #[.string (strL (l.drop 1))]) 0 hst0 (by
   refine svA fun ρ β W X cx=>?_
   refine DoesU.call (run_callV (f:=175) (args:=#[vi 1]) (args':=#[vi 1,vp b]) rfl rfl (cx.ou 2) (by kernel_rfl) (map1 (cx.co _)) rfl) ?_
   refine (take_any 1 b l _ (cx.bi 0 rfl) (by omega)).mono ?_
   rintro e W1 ⟨rfl,hb1,hu⟩
   refine ⟨_,rfl,post_mut (cx.init 0 _ rfl) rfl rfl hu hb1 (fun σ β' X' hs hb hv hx=>?_)⟩
   exact ⟨(hv 3 rfl).1.trans rfl,hx⟩) fun W3 hst3=>?_
 refine sql (.int .u8 (byteI (l.take 1) 0)) hst3 (fun cx=>run_indexStr (m:=0) rfl (by kernel_rfl) (cx.ou 3) (cx.co _) (by omega) (by rw [List.length_take]; omega)) ?_
 refine sqp [sW 5 .i64 (byteI (l.take 1) 0) (byteI (l.take 1) 0) (IntWalk.i64_in _ (by omega)), .m 1 5] ?_
 refine then_normal (wp_ret ?_)
 refine bpr (vi (byteI (l.take 1) 0)) (results_1 Tryz.results177 rpt) ?_
 exact ⟨by rw [byte_take l hn],hst3.blk 0 rfl,hst3.upd.less ((hst3.blk 1 rfl).trans hc.symm)⟩
end
section
open Go.RowKit
theorem wp_mkdefer {P:Program} {id:Nat} {o1 o2:Oper} {a:Act} {w:World} {Q:Exit→Act→World→Prop} {v:Value} {d:Deferred} (h1:o1.guard=none) (h2:o2.guard=none) (r1:(execOp a.eval o1).run P w= .ok (.value v) w)
  (r2:(execOp (a.put o1.dst v).eval o2).run P w= .ok (.defer d) w) (hd2:o2.dst=none) (h:Q .normal {a.put o1.dst v with defers:=d::(a.put o1.dst v).defers} w):(Code.region id #[o1,o2] false).wp P Q a w:=by
 refine wp_region ?_
 show wpOps P #[o1,o2] Q [0,1] a w
 have w1:∀ y,Region.wanted o1 y=true:=fun y=>by simp [Region.wanted,h1]
 have w2:∀ y,Region.wanted o2 y=true:=fun y=>by simp [Region.wanted,h2]
 simp only [wpOps]
 show (if Region.wanted o1 _=true then _ else _)
 rw [if_pos (w1 _)]
 left
 unfold Oper.wp Oper.upon
 rw [show (#[o1,o2]:Array Oper)[0]=o1 from rfl,r1]
 show (if Region.wanted o2 _=true then _ else _)
 rw [if_pos (w2 _)]
 left
 rw [show (#[o1,o2]:Array Oper)[1]=o2 from rfl,r2]
 rw [hd2]
 exact h
theorem catch_idle (p q:Addr) (w:World):
  CallsD Tryz.prog 174 #[.pointer (some p), .pointer (some q)] .returning w fun e u' w'=>e= .returned (.tuple #[])∧u'= .returning∧w'=w:=by
 refine callsD_of_wpS Tryz.func174 rfl fun c₀ cs hu=>?_
 apply wpS_seq
 apply wpS_region
 simp [wpOpsS,go_sem,recoverD,hu,Tryz.ntmps174,Exit.thenS]
 refine wpS_of_wp ?_
 go_wp2
 cases c₀
 simp_all [bodyPostS,results,Tryz.results174]
theorem vread_nil (w:World):
  Calls Tryz.prog 152 #[.string (strL [0])] w (Ret (.tuple #[.slice none 0 0, .int .i64 0]) w):=by
 go_enter_defers Tryz.func152,Tryz.ntmps152
 have hst0:=St.start w
 refine wp_seq (sqr ?_)
 refine sqbx #[.string (strL [0])] hst0 fun B1_1 W1 hst1=>?_
 refine sqal #[.slice none 0 0] hst1 fun B2_2 W2 hst2=>?_
 refine sqal #[vi 0] hst2 fun B3_3 W3 hst3=>?_
 refine then_normal (wp_seq ?_)
 refine wp_mkdefer (v:= .func (.func 174) #[] #[vp B2_2,vp B3_3]) (d:={target:= .fn (.func 174) #[vp B2_2,vp B3_3],args:=#[]}) rfl rfl (by simp [go_sem,Instr.makeFunc,Act.eval]) (by simp [go_sem,Act.eval,Act.put]) rfl ?_
 simp only [Act.put,List.setIfInBounds_toArray,List.set_cons_succ,List.set_cons_zero]
 refine then_normal (wp_seq (sqr ?_))
 refine sqv (.func (.func 175) #[] #[vp B1_1]) hst3 (by
   exact sv0 rfl rfl rfl rfl rfl (fun _ _ _ h=>h) fun ρ β W X cx=>by
    have fF1:ρ (.tmp 1)=vp B1_1:=(cx.ou 1)
    simp [go_sem,Instr.makeFunc,fF1]) fun W4 hst4=>?_
 refine sqal #[.nilFunc] hst4 fun B4_5 W5 hst5=>?_
 refine sqst (n:=1) 3 #[.func (.func 175) #[] #[vp B1_1]] hst5 fun W6 hst6=>?_
 refine then_normal (wp_seq (sqr ?_))
 refine sqv (.func (.func 177) #[] #[vp B4_5]) hst6 (by
   exact sv0 rfl rfl rfl rfl rfl (fun _ _ _ h=>h) fun ρ β W X cx=>by
    have fF4:ρ (.tmp 4)=vp B4_5:=(cx.ou 4)
    simp [go_sem,Instr.makeFunc,fF4]) fun W7 hst7=>?_
 refine sqp [.m 5 13] ?_
 refine then_normal (wp_seq (sqr (sqp [.m 14 5] ?_)))
 refine sqc0 (vi 0) (eB B1_1 9 #[.string (strL [])]) 0 hst7 (by
   refine svA fun ρ β W X cx=>?_
   refine DoesU.call (run_callV (f:=177) (args:=#[]) (args':=#[vp B4_5]) rfl rfl (cx.ou 14) (by kernel_rfl) map0 rfl) ?_
   refine (one1_any _ _ [0] _ (cx.bi 0 rfl) (cx.bi 3 rfl) (by have h_:=cx.ap 0 3 rfl rfl (by decide); rw [(cx.init 0 _ rfl),(cx.init 3 _ rfl)] at h_; intro e_; exact h_ _ (List.mem_singleton.2 rfl) (List.mem_singleton.2 e_)) (by simp)).mono ?_
   rintro e W1 ⟨rfl,hb1,hu⟩
   refine ⟨_,rfl,post_mut (cx.init 0 _ rfl) rfl rfl hu hb1 (fun σ β' X' hs hb hv hx=>?_)⟩
   exact ⟨(hv 15 rfl).1.trans rfl,hx⟩) fun W10 hst10=>?_
 refine sqp [.m 6 15] ?_
 refine then_normal (wp_seq (sqr (sqp [.m 16 6, .k 17 (.bool true)] ?_)))
 refine sqk (.tuple #[]) hst10 (fun cx=>⟨_,must_true _ _,(map2 (cx.ou 17) (cx.co _))⟩) fun W14 hst14=>?_
 refine then_normal (wp_seq (wp_seq (sqr (sqp [.m 19 6, .k 20 (vi 0)] ?_))))
 refine then_normal (wp_block ?_)
 refine wp_loopT (fun t_ mz az W=>True∧mz=0∧az=⟨(ovr (jv az) [(7,7,1,[]),(1,9,2,[]),(10,21,44,[])] t_).toArray,[{target:= .fn (.func 174) #[vp B2_2,vp B3_3],args:=#[]}]⟩∧St w [] [eB B1_1 9 #[.string (strL [])],eB B2_2 23 #[.slice none 0 0],eB B3_3 38 #[vi 0],eB B4_5 155 #[.func (.func 175) #[] #[vp B1_1]]] W) (0) ?_ ?_
 · -- the loop begins
   exact ⟨trivial,rfl,(by kernel_rfl),hst14.pk [0,1,2,3]⟩
 rintro n17 a17 W17 ⟨-,rfl,hj_,hst17⟩
 refine ovz hj_ fun u17_=>?_
 refine wp_seq (sqr (sqp [.k 21 (.bool false)] ?_))
 refine then_normal (wp_seq (wcf rfl (wp_exit (then_exit (then_exit (blk_eq (then_normal (wp_seq (sqr (sqld 0 hst17 ?_))))))))))
 have hd21:((strL []).toList==((⟨#[]⟩:ByteArray)).toList)=true:=beq_self_eq_true (strL []).toList
 refine sqp [.e 66 (.bool ((strL []).toList==((⟨#[]⟩:ByteArray)).toList)) (.bool true) (congrArg Value.bool hd21)] ?_
 refine sqk (.tuple #[]) hst17 (fun cx=>⟨_,must_true _ _,(map2 (cx.ou 66) (cx.co _))⟩) fun W22 hst22=>?_
 refine then_normal (wp_seq (sqr (sqld 1 hst22 ?_)))
 refine sqst (n:=1) 1 #[.slice none 0 0] hst22 fun W24 hst24=>?_
 refine sqst (n:=1) 2 #[vi 0] hst24 fun W25 hst25=>?_
 refine then_normal (wp_ret ?_)
 have c2:=(hst25.blk 1 rfl).cell 0
 have c3:=(hst25.blk 2 rfl).cell 0
 refine leaves_cons (f:=174) (args:=#[vp B2_2,vp B3_3]) (by simp) (by simp [go_sem]) ?_
 refine (catch_idle _ _ _).mono ?_
 rintro e u' w'' ⟨rfl,rfl,rfl⟩
 refine ⟨.tuple #[.slice none 0 0,vi 0],?_,rfl,hst25.ext⟩
 simp at c2 c3
 simp [results,Tryz.results152,go_sem,c2,c3]
end
section
open Go.RowKit
theorem ap_nil (s:ByteArray):s++(⟨#[]⟩:ByteArray)=s:=by apply bl_inj; rw [bl_append]; exact List.append_nil _
theorem nil_ap (s:ByteArray):(⟨#[]⟩:ByteArray)++s=s:=by apply bl_inj; rw [bl_append]; rfl
theorem num_mid {s a x c:ByteArray} (h:s=a++(x++c)) {p k:Nat} (hp:a.size=p) (hk:x.size=k):numS s p k=numL (bl x):=
 numS_at (a:=bl a) (b:=bl x) (c:=bl c) (by rw [h,bl_append,bl_append]) (by rw [bl_len]; exact hp) (by rw [bl_len]; exact hk)
theorem text_mid {s a t c:ByteArray} (h:s=a++(textO t++c)) {p:Nat} (hp:a.size=p) (ht:t.size≤65535):numS s p 2=t.size∧textS s p=t∧p+2+t.size≤s.size:=by
 have h1:s=a++(putS (t.size:Int) 2++(t++c)):=by rw [h,textO]; simp [ByteArray.append_assoc]
 have h2:numS s p 2=t.size:=by
  have h3:=num_mid h1 hp (putS_size _ _ (by decide))
  have h4:=putS_num2 (t.size:Int) (by omega) (by omega)
  omega
 have hz:s.size=a.size+(2+t.size+c.size):=by rw [h,ByteArray.size_append,ByteArray.size_append,textO_sz]
 refine ⟨h2,?_,by omega⟩
 rw [textS,h2]
 have h5:bl s=(bl a++bl (putS (t.size:Int) 2))++(bl t++bl c):=by rw [h1]; simp [bl_append,List.append_assoc]
 rw [extr_at h5 (p:=p+2) (q:=p+2+t.size) (by rw [List.length_append,bl_len,bl_len,putS_size _ _ (by decide),hp]) (by rw [bl_len]),baOf_bl]
def offE (l:List EdT):Nat:=(l.map fun e=>5+e.2.2.size).sum
theorem offE_take {l:List EdT} {j:Nat} {e:EdT} (he:l[j]? =some e):offE (l.take (j+1))=offE (l.take j)+(5+e.2.2.size):=by
 obtain ⟨hj,rfl⟩:=List.getElem?_eq_some_iff.1 he
 rw [offE,List.take_succ_eq_append_getElem hj,List.map_append,List.sum_append]; simp [offE]
theorem edB_app (s:ByteArray) (e:EdT):edB s e=s++edB ⟨#[]⟩ e:=by
 rw [edB,edB,catS_cons,catS_cons]
 congr 1
theorem edsF_app (s:ByteArray) (l:List EdT):edsF s l=s++edsF ⟨#[]⟩ l:=by
 induction l generalizing s with
 | nil=>show s=s++(⟨#[]⟩:ByteArray); exact (ap_nil s).symm
 | cons e l ih=>
   show edsF (edB s e) l=s++edsF (edB ⟨#[]⟩ e) l
   rw [ih,ih (edB ⟨#[]⟩ e),edB_app s e,ByteArray.append_assoc]
theorem edsF_sz (s:ByteArray) (l:List EdT):(edsF s l).size=s.size+offE l:=by
 induction l generalizing s with
 | nil=>rfl
 | cons e l ih=>
   show (edsF (edB s e) l).size= _
   rw [ih,edB_size,offE,offE,List.map_cons,List.sum_cons]; omega
theorem cat1 (a:ByteArray):catS [a]=a:=by rw [catS_cons,catS_nil,ap_nil]
structure RecSays (s:ByteArray) (r:RecM):Prop where
 size:s.size=14+offE r.eds+r.note.size
 kind:(numS s 0 1:Int)=r.kind
 xid:(numS s 1 1:Int)=r.xid
 tbl:(numS s 2 2:Int)=r.tbl
 row1:numS s 4 2=1∧textS s 4=⟨#[0]⟩
 row2:numS s 7 2=1∧textS s 7=⟨#[0]⟩
 many:numS s 10 1=r.eds.length
 ed:∀ j e,r.eds[j]? =some e→(numS s (11+offE (r.eds.take j)) 2:Int)=e.1∧(numS s (11+offE (r.eds.take j)+2) 1:Int)=e.2.1+1∧numS s (11+offE (r.eds.take j)+3) 2=e.2.2.size∧textS s (11+offE (r.eds.take j)+3)=e.2.2∧11+offE (r.eds.take j)+5+e.2.2.size≤s.size
 xids:numS s (11+offE r.eds) 1=0
 note:numS s (12+offE r.eds) 2=r.note.size∧textS s (12+offE r.eds)=r.note
theorem rec_says {r:RecM} (h:recR r=true):RecSays (bytesR r) r:=by
 have hk:=recR_ok h
 have hb:bytesR r=edsF (hdB r) r.eds++(putS 0 1++textO r.note):=by
  rw [bytesR,if_pos h,catS_cons,catS_cons,cat1,cat1,ByteArray.append_assoc]
 have hd:∀ t:ByteArray,hdB r++t=putS r.kind 1++(putS r.xid 1++(putS r.tbl 2++(rowB++(rowB++(putS (r.eds.length:Int) 1++t))))):=fun t=>by
  rw [hdB]
  simp only [catS_cons,catS_nil,ByteArray.append_assoc,nil_ap]
 have hE:edsF (hdB r) r.eds=hdB r++edsF ⟨#[]⟩ r.eds:=edsF_app _ _
 have h0:bytesR r=putS r.kind 1++(putS r.xid 1++(putS r.tbl 2++(rowB++(rowB++(putS (r.eds.length:Int) 1++(edsF ⟨#[]⟩ r.eds++(putS 0 1++textO r.note))))))):=by
  rw [hb,hE,ByteArray.append_assoc,hd]
 have p1:=fun n=>putS_size n 1 (by decide)
 have p2:=fun n=>putS_size n 2 (by decide)
 have hsz:(edsF (hdB r) r.eds).size=11+offE r.eds:=by rw [edsF_sz,hdB_size]
 have hz:(bytesR r).size=14+offE r.eds+r.note.size:=by
  rw [hb,ByteArray.size_append,ByteArray.size_append,hsz,p1,textO_sz]; omega
 generalize hs:bytesR r=s at*
 have e0:s=(⟨#[]⟩:ByteArray)++(putS r.kind 1++(putS r.xid 1++(putS r.tbl 2++(rowB++(rowB++(putS (r.eds.length:Int) 1++(edsF ⟨#[]⟩ r.eds++(putS 0 1++textO r.note)))))))):=by rw [h0,nil_ap]
 have e1:s=putS r.kind 1++(putS r.xid 1++(putS r.tbl 2++(rowB++(rowB++(putS (r.eds.length:Int) 1++(edsF ⟨#[]⟩ r.eds++(putS 0 1++textO r.note))))))):=h0
 have e2:s=(putS r.kind 1++putS r.xid 1)++(putS r.tbl 2++(rowB++(rowB++(putS (r.eds.length:Int) 1++(edsF ⟨#[]⟩ r.eds++(putS 0 1++textO r.note)))))):=by rw [h0,ByteArray.append_assoc]
 have e4:s=(putS r.kind 1++(putS r.xid 1++putS r.tbl 2))++(textO ⟨#[0]⟩++(rowB++(putS (r.eds.length:Int) 1++(edsF ⟨#[]⟩ r.eds++(putS 0 1++textO r.note))))):=by rw [h0]; simp only [ByteArray.append_assoc]; rfl
 have e7:s=(putS r.kind 1++(putS r.xid 1++(putS r.tbl 2++rowB)))++(textO ⟨#[0]⟩++(putS (r.eds.length:Int) 1++(edsF ⟨#[]⟩ r.eds++(putS 0 1++textO r.note)))):=by rw [h0]; simp only [ByteArray.append_assoc]; rfl
 have e10:s=(putS r.kind 1++(putS r.xid 1++(putS r.tbl 2++(rowB++rowB))))++(putS (r.eds.length:Int) 1++(edsF ⟨#[]⟩ r.eds++(putS 0 1++textO r.note))):=by rw [h0]; simp only [ByteArray.append_assoc]
 have en:s=(edsF (hdB r) r.eds++putS 0 1)++(textO r.note++⟨#[]⟩):=by rw [hb,ByteArray.append_assoc,ap_nil]
 have r3:=rowB_size
 have t4:=text_mid e4 (p:=4) (by rw [ByteArray.size_append,ByteArray.size_append,p1,p1,p2]) (by decide)
 have t7:=text_mid e7 (p:=7) (by rw [ByteArray.size_append,ByteArray.size_append,ByteArray.size_append,p1,p1,p2,r3]) (by decide)
 have tn:=text_mid en (p:=12+offE r.eds) (by rw [ByteArray.size_append,hsz,p1]; omega) (by have:=hk.note; omega)
 refine ⟨hz,?_,?_,?_,⟨t4.1,t4.2.1⟩,⟨t7.1,t7.2.1⟩,?_,fun j e he=>?_,?_,⟨tn.1,tn.2.1⟩⟩
 ·rw [num_mid e0 (p:=0) rfl (p1 _)]; exact putS_num1 _ (by have:=hk.kind; omega) (by have:=hk.kind; omega)
 ·rw [num_mid e1 (p:=1) (p1 _) (p1 _)]; exact putS_num1 _ (by have:=hk.xid; omega) (by have:=hk.xid; omega)
 ·rw [num_mid e2 (p:=2) (by rw [ByteArray.size_append,p1,p1]) (p2 _)]; exact putS_num2 _ (by have:=hk.tbl; omega) (by have:=hk.tbl; omega)
 ·have:=hk.many
  have h1:=num_mid e10 (p:=10) (by rw [ByteArray.size_append,ByteArray.size_append,ByteArray.size_append,ByteArray.size_append,p1,p1,p2,r3]) (p1 _)
  have h2:=putS_num1 (r.eds.length:Int) (by omega) (by omega)
  omega
 ·obtain ⟨hj,rfl⟩:=List.getElem?_eq_some_iff.1 he
  have hl:r.eds=r.eds.take j++r.eds[j]::r.eds.drop (j+1):=by rw [List.getElem_cons_drop,List.take_append_drop]
  have hed:=edR_bd (hk.eds _ (List.getElem_mem hj))
  have hit:=edR_item (hk.eds _ (List.getElem_mem hj))
  generalize r.eds[j]=e at*
  generalize r.eds.take j=l1 at*
  generalize r.eds.drop (j+1)=l2 at*
  have hF:edsF (hdB r) r.eds=edsF (hdB r) l1++(putS e.1 2++(putS (e.2.1+1) 1++(textO e.2.2++edsF ⟨#[]⟩ l2))):=by
   have h1:edsF (hdB r) r.eds=edsF (edB (edsF (hdB r) l1) e) l2:=by
    conv=>lhs; rw [hl]
    rw [edsF,List.foldl_append]; rfl
   rw [h1,edsF_app,edB]
   simp only [catS_cons,catS_nil,ByteArray.append_assoc,nil_ap]
  have hsl:(edsF (hdB r) l1).size=11+offE l1:=by rw [edsF_sz,hdB_size]
  have f0:s=edsF (hdB r) l1++(putS e.1 2++(putS (e.2.1+1) 1++(textO e.2.2++(edsF ⟨#[]⟩ l2++(putS 0 1++textO r.note))))):=by rw [hb,hF]; simp only [ByteArray.append_assoc]
  have f2:s=(edsF (hdB r) l1++putS e.1 2)++(putS (e.2.1+1) 1++(textO e.2.2++(edsF ⟨#[]⟩ l2++(putS 0 1++textO r.note)))):=by rw [f0]; simp only [ByteArray.append_assoc]
  have f3:s=(edsF (hdB r) l1++(putS e.1 2++putS (e.2.1+1) 1))++(textO e.2.2++(edsF ⟨#[]⟩ l2++(putS 0 1++textO r.note))):=by rw [f0]; simp only [ByteArray.append_assoc]
  have t3:=text_mid f3 (p:=11+offE l1+3) (by rw [ByteArray.size_append,ByteArray.size_append,hsl,p2,p1]) (by omega)
  refine ⟨?_,?_,t3.1,t3.2.1,by have:=t3.2.2; omega⟩
  ·rw [num_mid f0 hsl (p2 _)]; exact putS_num2 _ (by omega) (by omega)
  ·rw [num_mid f2 (p:=11+offE l1+2) (by rw [ByteArray.size_append,hsl,p2]) (p1 _)]; exact putS_num1 _ (by omega) (by omega)
 ·have h1:=num_mid hb hsz (p1 0)
  have h2:=putS_num1 0 (by decide) (by decide)
  omega
end
section
open Go.RowKit
theorem St.lentB3 {w:World} {a ta b tb c tc:Nat} {ca cb cc:Array Value} (ha:Blk w a ta ca) (hb:Blk w b tb cb) (hc:Blk w c tc cc) (n1:a≠b) (n2:a≠c) (n3:b≠c):St w [a,b,c] [eB a ta ca,eB b tb cb,eB c tc cc] w:=by
 refine ⟨Upd.refl _ _,fun x hx=>?_,?_⟩
 ·simp only [List.mem_cons,List.not_mem_nil,or_false] at hx
  rcases hx with rfl | rfl | rfl
  ·exact ⟨ha,eB_loc _ _ _,fun k hk=>⟨.inl (by simp [eB] at hk; simp [hk]),by simp [eB] at hk; subst hk; exact ha.lt⟩⟩
  ·exact ⟨hb,eB_loc _ _ _,fun k hk=>⟨.inl (by simp [eB] at hk; simp [hk]),by simp [eB] at hk; subst hk; exact hb.lt⟩⟩
  ·exact ⟨hc,eB_loc _ _ _,fun k hk=>⟨.inl (by simp [eB] at hk; simp [hk]),by simp [eB] at hk; subst hk; exact hc.lt⟩⟩
 ·refine List.Pairwise.cons (fun x hx=>?_) (List.pairwise_pair.2 fun k hk hk'=>by simp [eB] at hk hk'; omega)
  simp only [List.mem_cons,List.not_mem_nil,or_false] at hx
  rcases hx with rfl | rfl
  ·exact fun k hk hk'=>by simp [eB] at hk hk'; omega
  ·exact fun k hk hk'=>by simp [eB] at hk hk'; omega
theorem Upd.less3 {a b c:Nat} {w W:World} (h:Upd [a,b,c] w W) (ha:W.heap[a]? =w.heap[a]?) (hc:W.heap[c]? =w.heap[c]?):Upd [b] w W:=⟨h.os,h.tape,h.output,h.size,fun k hk hn=>by
 by_cases e:k=a
 ·rw [e]; exact ha
 ·by_cases e2:k=c
  ·rw [e2]; exact hc
  ·exact h.block k hk (by simp at hn ⊢; exact ⟨e,hn,e2⟩)⟩
def RowsPost (b:Nat) (s:ByteArray) (p:Nat) (w:World) (e:Ending) (w':World):Prop:=e= .returned (.slice none 0 0)∧Blk w' b 193 #[.string s, .int .i64 (p:Int), .bool false]∧Upd [b] w w'
def RrPost (r:RecM) (w:World) (e:Ending) (w':World):Prop:=∃ A c,e= .returned (.tuple #[recV r A c, .int .i64 0])∧w'.ownsRow w.heap.size 84 3 (.slice A r.eds.length c) r.eds.length (r.eds.flatMap edC)∧Ext w w'
theorem ed_snoc {l:List EdT} {j:Nat} {e:EdT} (h:l[j]? =some e):(l.take j).flatMap edC++edC e=(l.take (j+1)).flatMap edC:=by
 obtain ⟨hj,rfl⟩:=List.getElem?_eq_some_iff.1 h
 rw [List.take_succ_eq_append_getElem hj,List.flatMap_append]; simp
theorem jrows_any (b4 rb b5:Nat) (s:ByteArray) (p:Nat) (w:World) (h4:Blk w b4 153 #[.pointer (some ⟨rb,0,none⟩)]) (hr:Blk w rb 193 #[.string s, .int .i64 (p:Int), .bool false]) (h5:Blk w b5 4 #[.bool true]) (n1:b4≠rb) (n2:b4≠b5) (n3:rb≠b5) (hs:s.size≤1000000) (hp:p+3≤s.size) (hn:numS s p 2=1) (ht:textS s p=strL [0]):
  Calls Tryz.prog 151 #[.pointer (some ⟨b4,0,none⟩), .pointer (some ⟨b5,0,none⟩)] w (RowsPost rb s (p+3) w):=by
 have st0:=St.lentB3 h4 hr h5 n1 n2 n3
 go_enter Tryz.func151,Tryz.ntmps151
 have hst0:=st0
 refine wp_seq (sqr (sqp [.k 2 (.slice none 0 0)] ?_))
 refine then_normal (wp_seq (sqr (sqld 0 hst0 ?_)))
 refine sqc0 (.string ((strL [0]))) (eB rb 193 #[.string s,vi (((p+2+numS s p 2:Nat):Int)), .bool false]) 1 hst0 (by
   refine svA fun ρ β W X cx=>?_
   refine DoesU.call (run_callF (args:=#[vp rb]) rfl cx.sees rfl (by kernel_rfl) (map1 (cx.ou 6))) ?_
   refine (text_ok _ s p _ ⟨(cx.bi 1 rfl),by omega,by omega⟩ (by omega) (by omega)).mono ?_
   rintro e W1 ⟨rfl,hrd,hu⟩
   refine ⟨_,rfl,post_mut (cx.init 1 _ rfl) rfl rfl hu hrd.1 (fun σ β' X' hs hb hv hx=>?_)⟩
   exact ⟨(hv 7 rfl).1.trans (congrArg Value.string ht),hx⟩) fun W3 hst3=>?_
 refine sqp [.m 3 7] ?_
 refine then_normal (wp_seq (wp_seq (sqr (sqld 0 hst3 ?_))))
 refine sqv (.bool false) hst3 (by
   refine svA fun ρ β W X cx=>?_
   refine DoesU.call (run_callF (args:=#[vp rb]) rfl cx.sees rfl (by kernel_rfl) (map1 (cx.ou 8))) ?_
   refine (failed_any _ s ((p+2+numS s p 2:Nat)) false _ ⟨(cx.bi 1 rfl),by omega,by omega⟩).mono ?_
   rintro e W1 ⟨rfl,rfl⟩
   refine ⟨_,rfl,post_call [] rfl rfl (Ext.refl _) (by simp) List.Pairwise.nil (fun σ β' X' hs hb hv hN=>?_)⟩
   have hv1:=(hv 9 rfl).1; have hv2:=(hv 9 rfl).2
   exact hv1.trans rfl) fun W6 hst6=>?_
 refine then_normal (wcf rfl (wp_skip (then_normal (wp_seq (sqr (sqp [.m 11 3] ?_))))))
 refine sqk (.tuple #[.slice none 0 0,vi 0]) hst6 (fun cx=>⟨_,vread_nil _,(map1 (cx.ou 11))⟩) fun W8 hst8=>?_
 refine sqp [.m 10 12, .k 13 (.slice none 0 0), .k 14 (vi 0), .m 4 13, .m 5 14] ?_
 refine then_normal (wp_seq (sqr (sqld 2 hst8 ?_)))
 refine sqp [.k 16 (.bool true)] ?_
 refine sqgy 16 [17,18] rfl rfl ?_
 refine sqp [.m 17 5, .k 18 (.bool true)] ?_
 refine sqp [.k 19 (.bool true)] ?_
 refine sqst (n:=1) 2 #[.bool true] hst8 fun W19 hst19=>?_
 refine then_normal (wp_seq (wp_seq (sqr (sqp [.m 20 4, .k 21 (vi 0), .k 22 (.bool true)] ?_))))
 refine then_normal (wct rfl (wp_seq (sqr (sqp [.k 2 (.slice none 0 0)] ?_))))
 refine then_normal (wp_ret (then_ret ?_))
 refine bpr (.slice none 0 0) (results_1 Tryz.results151 rpt) ?_
 exact ⟨rfl,by rw [show p+3=p+2+numS s p 2 by omega]; exact hst19.blk 1 rfl,hst19.upd.less3 ((hst19.blk 0 rfl).trans h4.symm) ((hst19.blk 2 rfl).trans h5.symm)⟩
end
section
open Go.RowKit
theorem nilrowN {w0 W:World} {bor:List Nat} {L:List Ent} (h:St w0 bor L W) (e sz:Nat):St w0 bor (L++[eO e sz (.slice none 0 0) 0 []]) W:=by
 refine ⟨h.upd,fun x hx=>?_,?_⟩
 ·rcases List.mem_append.1 hx with hx | hx
  ·exact h.ok x hx
  ·rw [List.mem_singleton] at hx
   subst hx
   exact ⟨World.ownsRow_nil _ _ _ _,eO_loc _ _ _ _ _,fun k hk=>by cases hk⟩
 ·rw [List.pairwise_append]
  refine ⟨h.apart,List.pairwise_singleton _ _,fun a _ b hb=>?_⟩
  rw [List.mem_singleton] at hb
  subst hb
  exact fun k _ hk=>by cases hk
theorem left_of {B:Nat} {s:ByteArray} {p:Nat} {w:World} {v:Int} (hv:v=((s.size - p:Nat):Int)) (h:Rd 193 w B s p false):Calls Tryz.prog 149 #[.pointer (some ⟨B,0,none⟩)] w (Ret (.int .i64 v) w):=by
 subst hv; exact left_any B s p false w h
theorem Tryz.infoEditJ:(Tryz.prog.info? 84).map (fun i=>(i.zero,i.size,i.bytes))=some (some (.agg #[.int .i64 0, .int .i64 0, .string ⟨#[]⟩]),3,32):=by kernel_rfl
theorem jread_s (s:ByteArray) (r:RecM) (w:World) (hh:RecSays s r) (hrr:recR r=true) (hs:s.size≤1000000):
  Calls Tryz.prog 99 #[.string s] w (RrPost r w):=by
 have hro:=recR_ok hrr
 have hrm:=hro.many
 have hsz:=hh.size
 have hez:∀ e∈r.eds,e.2.2.size≤9223372036854775807:=fun e he=>by have h_:=edR_item (hro.eds e he); omega
 have hkb:=hro.kind
 have hxb:=hro.xid
 have htb:=hro.tbl
 go_enter Tryz.func99,Tryz.ntmps99
 have hst0:=St.start w
 refine wp_seq (sqr (sqal #[vi 0,vi 0,vi 0, .slice none 0 0, .slice none 0 0, .slice none 0 0, .slice none 0 0, .string ByteArray.empty] hst0 fun B2_1 W1 hst1=>?_))
 refine sqp [.k 3 (vi 0)] ?_
 refine then_normal (wp_seq (sqr (sqp [.m 10 0] ?_)))
 refine sqk1 (fun B11_4=>vp B11_4) (fun B11_4=>eB B11_4 193 #[.string s,vi 0, .bool false]) hst1 (fun cx=>⟨_,(oread_b s _).mono (by rintro e W1 ⟨B4,rfl,⟨hb4,hw4⟩,hx⟩; exact ⟨_,rfl,St.one hx ⟨hb4,eB_loc _ _ _,fun k hk=>by simp [eB] at hk; subst hk; exact ⟨hw4,hb4.lt⟩⟩⟩),(map1 (cx.ou 10))⟩) fun B11_4 W4 hst4=>?_
 refine sqal #[.pointer none] hst4 fun B4_5 W5 hst5=>?_
 refine sqst (n:=1) 2 #[vp B11_4] hst5 fun W6 hst6=>?_
 refine then_normal (wp_seq (sqr (sqal #[.bool false] hst6 fun B5_7 W7 hst7=>?_)))
 refine sqst (n:=1) 3 #[.bool true] hst7 fun W8 hst8=>?_
 refine then_normal (wp_seq (sqr ?_))
 refine sqv (.func (.func 151) #[] #[vp B4_5,vp B5_7]) hst8 (by
   exact sv0 rfl rfl rfl rfl rfl (fun _ _ _ h=>h) fun ρ β W X cx=>by
    have fF4:ρ (.tmp 4)=vp B4_5:=(cx.ou 4)
    have fF5:ρ (.tmp 5)=vp B5_7:=(cx.ou 5)
    simp [go_sem,Instr.makeFunc,fF4,fF5]) fun W9 hst9=>?_
 refine sqp [.m 6 12] ?_
 refine then_normal (wp_seq (wp_region_Y [0,1,0,7,0,31,63,0,255] [[2],[1],[2],[4],[2],[5],[],[],[7]] [[],[4],[],[5],[],[6],[],[7],[8]] [[],[1],[],[4],[],[5],[],[],[7]] [.c 13 (vp B11_4), .a 14, .c 15 (vp B11_4), .a 16, .c 17 (vp B11_4), .a 18, .c 19 (.agg #[vi r.kind,vi r.xid,vi r.tbl, .slice none 0 0, .slice none 0 0, .slice none 0 0, .slice none 0 0, .string ByteArray.empty]), .a 7, .n] (fun ix σ β X=>match ix with | 0=>True | 1=>σ 14=vi r.kind∧X 4=eB B11_4 193 #[.string s,vi 1, .bool false] | 2=>True | 3=>σ 16=vi r.xid∧X 5=eB B11_4 193 #[.string s,vi 2, .bool false] | 4=>True | 5=>σ 18=vi r.tbl∧X 6=eB B11_4 193 #[.string s,vi 4, .bool false] | 6=>True | 7=>σ 7=vp (pb (β 7))∧X 7=eB (pb (β 7)) 27 #[vi 0,vi 0,vi 0, .slice none 0 0, .slice none 0 0, .slice none 0 0, .slice none 0 0, .string ByteArray.empty] | 8=>X 8=eB (pb (β 7)) 27 #[vi r.kind,vi r.xid,vi r.tbl, .slice none 0 0, .slice none 0 0, .slice none 0 0, .slice none 0 0, .string ByteArray.empty] | _=>True) [0,2,3,6,8] [0,1,2,3,4,5,6,7,8] [(7,7,1,8),(5,0,7,12)] hst9 ?_ ?_ ?_))
 ·exact fun ix _ _ _ _ _ _ hs hb hx h=>match ix,h with
  | 1,h=>by dsimp only; rw [← hs 14 rfl,← hx 4 rfl]; exact h
  | 3,h=>by dsimp only; rw [← hs 16 rfl,← hx 5 rfl]; exact h
  | 5,h=>by dsimp only; rw [← hs 18 rfl,← hx 6 rfl]; exact h
  | 7,h=>by dsimp only; rw [← hs 7 rfl,← hb 7 rfl,← hx 7 rfl]; exact h
  | 8,h=>by dsimp only; rw [← hb 7 rfl,← hx 8 rfl]; exact h
  | 0, _ | 2, _ | 4, _ | 6, _ | _+9, _=>trivial
 ·refine ⟨?_,?_,?_,?_,?_,?_,?_,?_,?_,trivial⟩
  ·exact xs4 rfl id fun cx=>run_load1 rfl (by kernel_rfl) (cx.ou 4) ((cx.bi 2 rfl).cell 0)
  ·refine svA fun ρ β W X cx=>?_
   refine DoesU.call (run_callF (args:=#[vp B11_4,vi 1]) rfl cx.sees rfl (by kernel_rfl) (map2 (cx.an 0) (cx.co _))) ?_
   refine (num_ok _ s 0 1 _ ⟨(cx.bi 1 rfl),by omega,by omega⟩ (by omega) (by omega)).mono ?_
   rintro e W1 ⟨rfl,hrd,hu⟩
   refine ⟨_,rfl,post_mut (cx.init 1 _ rfl) rfl rfl hu hrd.1 (fun σ β' X' hs hb hv hx=>?_)⟩
   exact ⟨(hv 14 rfl).1.trans (congrArg (Value.int .i64) hh.kind),hx⟩
  ·exact xs4 rfl id fun cx=>run_load1 rfl (by kernel_rfl) (cx.ou 4) ((cx.bi 2 rfl).cell 0)
  ·refine svA fun ρ β W X cx=>?_
   refine DoesU.call (run_callF (args:=#[vp B11_4,vi 1]) rfl cx.sees rfl (by kernel_rfl) (map2 (cx.an 2) (cx.co _))) ?_
   refine (num_ok _ s 1 1 _ ⟨(cx.blk (dTn (cx.an 1)).2 rfl),by omega,by omega⟩ (by omega) (by omega)).mono ?_
   rintro e W1 ⟨rfl,hrd,hu⟩
   refine ⟨_,rfl,post_mut (dTn (cx.an 1)).2 rfl rfl hu hrd.1 (fun σ β' X' hs hb hv hx=>?_)⟩
   exact ⟨(hv 16 rfl).1.trans (congrArg (Value.int .i64) hh.xid),hx⟩
  ·exact xs4 rfl id fun cx=>run_load1 rfl (by kernel_rfl) (cx.ou 4) ((cx.bi 2 rfl).cell 0)
  ·refine svA fun ρ β W X cx=>?_
   refine DoesU.call (run_callF (args:=#[vp B11_4,vi 2]) rfl cx.sees rfl (by kernel_rfl) (map2 (cx.an 4) (cx.co _))) ?_
   refine (num_ok _ s 2 2 _ ⟨(cx.blk (dTn (cx.an 3)).2 rfl),by omega,by omega⟩ (by omega) (by omega)).mono ?_
   rintro e W1 ⟨rfl,hrd,hu⟩
   refine ⟨_,rfl,post_mut (dTn (cx.an 3)).2 rfl rfl hu hrd.1 (fun σ β' X' hs hb hv hx=>?_)⟩
   exact ⟨(hv 18 rfl).1.trans (congrArg (Value.int .i64) hh.tbl),hx⟩
  ·exact xs4 rfl id fun cx=>run_buildL rfl (pmc (dTn (cx.an 1)).1 (pmc (dTn (cx.an 3)).1 (pmc (dTn (cx.an 5)).1 pmn))) (by kernel_rfl)
  ·refine svA fun ρ β W X cx=>?_
   exact dv_alloc (cs:=#[vi 0,vi 0,vi 0, .slice none 0 0, .slice none 0 0, .slice none 0 0, .slice none 0 0, .string ByteArray.empty]) rfl (by kernel_rfl) rfl rfl (fun σ β' X' hs hb hv hx=>⟨hv,hx⟩)
  ·refine svA fun ρ β W X cx=>?_
   exact dv_store (n:=8) rfl (dTn (cx.an 7)).1 (cx.an 6) (by kernel_rfl) (by kernel_rfl) (by kernel_rfl) cx (dTn (cx.an 7)).2 rfl (nle rfl) (by kernel_rfl) rfl rfl rfl (fun σ β' X' hs hb hx=>by rw [hb 7]; exact hx)
 intro σ β X W11 hD hst11 fr hfr
 obtain ⟨B7_11,hu_B7_11⟩:∃ z,pb (β 7)=z:=⟨_,rfl⟩
 simp only [exq 6 ((dTn (hD 5 lq)).2),exq 8 ((dTn (hD 8 lq))),hu_B7_11] at hst11
 simp only [ed 14 ((dTn (hD 1 lq)).1),ed 16 ((dTn (hD 3 lq)).1),ed 18 ((dTn (hD 5 lq)).1),ed 7 ((dTn (hD 7 lq)).1),hu_B7_11] at hfr
 clear hD hu_B7_11; subst hfr; clear σ β X
 refine then_normal (wp_seq (sqr (sqp [.m 20 6] ?_)))
 refine sqc0 (.slice none 0 0) (eB B11_4 193 #[.string s,vi 7, .bool false]) 3 hst11 (by
   refine svA fun ρ β W X cx=>?_
   refine DoesU.call (run_callV (f:=151) (args:=#[]) (args':=#[vp B4_5,vp B5_7]) rfl rfl (cx.ou 20) (by kernel_rfl) map0 rfl) ?_
   refine (jrows_any _ _ _ s 4 _ (cx.bi 1 rfl) (cx.bi 3 rfl) (cx.bi 2 rfl) (by have h_:=cx.ap 1 3 rfl rfl (by decide); rw [(cx.init 1 _ rfl),(cx.init 3 _ rfl)] at h_; intro e_; exact h_ _ (List.mem_singleton.2 rfl) (List.mem_singleton.2 e_)) (by have h_:=cx.ap 1 2 rfl rfl (by decide); rw [(cx.init 1 _ rfl),(cx.init 2 _ rfl)] at h_; intro e_; exact h_ _ (List.mem_singleton.2 rfl) (List.mem_singleton.2 e_)) (by have h_:=cx.ap 3 2 rfl rfl (by decide); rw [(cx.init 3 _ rfl),(cx.init 2 _ rfl)] at h_; intro e_; exact h_ _ (List.mem_singleton.2 rfl) (List.mem_singleton.2 e_)) hs (by omega) hh.row1.1 hh.row1.2).mono ?_
   rintro e W1 ⟨rfl,hrd,hu⟩
   refine ⟨_,rfl,post_mut (cx.init 3 _ rfl) rfl rfl hu hrd (fun σ β' X' hs hb hv hx=>?_)⟩
   exact ⟨(hv 21 rfl).1.trans rfl,hx⟩) fun W13 hst13=>?_
 refine sqp [.k 22 (.pointer (some ⟨B7_11,3,none⟩))] ?_
 refine sqst (n:=1) 4 #[vi r.kind,vi r.xid,vi r.tbl, .slice none 0 0, .slice none 0 0, .slice none 0 0, .slice none 0 0, .string ByteArray.empty] hst13 fun W15 hst15=>?_
 refine then_normal (wp_seq (sqr (sqp [.m 23 6] ?_)))
 refine sqc0 (.slice none 0 0) (eB B11_4 193 #[.string s,vi 10, .bool false]) 3 hst15 (by
   refine svA fun ρ β W X cx=>?_
   refine DoesU.call (run_callV (f:=151) (args:=#[]) (args':=#[vp B4_5,vp B5_7]) rfl rfl (cx.ou 23) (by kernel_rfl) map0 rfl) ?_
   refine (jrows_any _ _ _ s 7 _ (cx.bi 1 rfl) (cx.bi 3 rfl) (cx.bi 2 rfl) (by have h_:=cx.ap 1 3 rfl rfl (by decide); rw [(cx.init 1 _ rfl),(cx.init 3 _ rfl)] at h_; intro e_; exact h_ _ (List.mem_singleton.2 rfl) (List.mem_singleton.2 e_)) (by have h_:=cx.ap 1 2 rfl rfl (by decide); rw [(cx.init 1 _ rfl),(cx.init 2 _ rfl)] at h_; intro e_; exact h_ _ (List.mem_singleton.2 rfl) (List.mem_singleton.2 e_)) (by have h_:=cx.ap 3 2 rfl rfl (by decide); rw [(cx.init 3 _ rfl),(cx.init 2 _ rfl)] at h_; intro e_; exact h_ _ (List.mem_singleton.2 rfl) (List.mem_singleton.2 e_)) hs (by omega) hh.row2.1 hh.row2.2).mono ?_
   rintro e W1 ⟨rfl,hrd,hu⟩
   refine ⟨_,rfl,post_mut (cx.init 3 _ rfl) rfl rfl hu hrd (fun σ β' X' hs hb hv hx=>?_)⟩
   exact ⟨(hv 24 rfl).1.trans rfl,hx⟩) fun W17 hst17=>?_
 refine sqp [.k 25 (.pointer (some ⟨B7_11,4,none⟩))] ?_
 refine sqst (n:=1) 4 #[vi r.kind,vi r.xid,vi r.tbl, .slice none 0 0, .slice none 0 0, .slice none 0 0, .slice none 0 0, .string ByteArray.empty] hst17 fun W19 hst19=>?_
 refine then_normal (wp_seq (wp_seq (sqr (sqld 1 hst19 ?_))))
 refine sqc0 (vi ((r.eds.length:Int))) (eB B11_4 193 #[.string s,vi 11, .bool false]) 3 hst19 (by
   refine svA fun ρ β W X cx=>?_
   refine DoesU.call (run_callF (args:=#[vp B11_4,vi 1]) rfl cx.sees rfl (by kernel_rfl) (map2 (cx.ou 26) (cx.co _))) ?_
   refine (num_ok _ s 10 1 _ ⟨(cx.bi 3 rfl),by omega,by omega⟩ (by omega) (by omega)).mono ?_
   rintro e W1 ⟨rfl,hrd,hu⟩
   refine ⟨_,rfl,post_mut (cx.init 3 _ rfl) rfl rfl hu hrd.1 (fun σ β' X' hs hb hv hx=>?_)⟩
   exact ⟨(hv 27 rfl).1.trans (congrArg (fun n:Nat=>Value.int .i64 (n:Int)) hh.many),hx⟩) fun W21 hst21=>?_
 refine sqp [.k 28 (vi 0)] ?_
 refine then_normal (wp_block ?_)
 have hn23:=nilrowN hst21 84 3
 simp only [List.cons_append,List.nil_append] at hn23
 refine wp_loopT (fun t_ mz az W=>∃ j:Nat,∃ q:Nat,∃ EA:Option Addr,∃ Ec:Nat,j≤r.eds.length∧q=11+offE (r.eds.take j)∧mz=r.eds.length - j∧az=⟨(ovr (jv az) [(8,8,1,[]),(19,28,0,[vi ((j:Int))]),(0,29,16,[])] t_).toArray,[]⟩∧St w [] [eB B2_1 27 #[vi 0,vi 0,vi 0, .slice none 0 0, .slice none 0 0, .slice none 0 0, .slice none 0 0, .string ByteArray.empty],eB B4_5 153 #[vp B11_4],eB B5_7 4 #[.bool true],eB B11_4 193 #[.string s,vi ((q:Int)), .bool false],eB B7_11 27 #[vi r.kind,vi r.xid,vi r.tbl, .slice none 0 0, .slice none 0 0, .slice EA j Ec, .slice none 0 0, .string ByteArray.empty],eO 84 3 (.slice EA j Ec) j ((r.eds.take j).flatMap edC)] W) (r.eds.length - 0) ?_ ?_
 · -- the loop begins
   exact ⟨0,11,none,0,Nat.zero_le _,rfl,rfl,(by kernel_rfl),hn23.pk [0,1,2,3,4,5]⟩
 rintro n24 a24 W24 ⟨j,q,EA,Ec,hj,hq,rfl,hj_,hst24⟩
 refine ovz hj_ fun u24_=>?_
 refine wp_seq (sqr (sqp [.k 29 (.bool (decide ((j:Int) < (r.eds.length:Int))))] ?_))
 refine then_normal (wp_seq (wds (fun hs26 hs26p=>?_) fun hs26 hs26p=>?_))
 ·refine wp_skip (then_normal (wp_seq (wp_block (wp_seq ?_))))
  obtain ⟨ep,es,eb,hek⟩:=getEdT (l:=r.eds) (k:=j) (by omega)
  obtain ⟨g1,g2,g3,g4,g5⟩:=hh.ed j _ hek
  rw [← hq] at g1 g2 g3 g4 g5
  have g3:numS s (q+2+1) 2=eb.size:=g3
  have g4:textS s (q+2+1)=eb:=g4
  have g5:q+5+eb.size≤s.size:=g5
  have g1:(numS s q 2:Int)=ep:=g1
  have g2:(numS s (q+2) 1:Int)=es+1:=g2
  obtain ⟨he1_,he2_⟩:=edR_bd (hro.eds _ (List.mem_of_getElem? hek))
  have he2_: -1≤es∧es≤23:=he2_
  obtain ⟨es1,hes1⟩:∃ z,es+1=z:=⟨_,rfl⟩
  rw [hes1] at g2
  refine wp_region_Y [0,1,0,4,0,28,60,0,188,508,1020,2047,4095] [[],[4],[1],[3],[1],[6],[],[1],[7],[],[],[9,5]] [[],[],[],[6],[],[7],[],[],[8],[],[9],[10]] [[],[],[],[3],[],[6],[],[],[7],[],[],[5]] [.k 30 (.pointer (some ⟨B7_11,5,none⟩)), .c 31 (.slice EA j Ec), .c 32 (vp B11_4), .a 33, .c 34 (vp B11_4), .a 35, .c 36 (vi (es1 - 1)), .c 37 (vp B11_4), .a 38, .c 39 (.agg #[vi ep,vi (es1 - 1), .string eb]), .a 40, .a 41, .a 8] (fun ix σ β X=>match ix with | 0=>True | 1=>True | 2=>True | 3=>σ 33=vi ep∧X 6=eB B11_4 193 #[.string s,vi (((q+2:Nat):Int)), .bool false] | 4=>True | 5=>σ 35=vi es1∧X 7=eB B11_4 193 #[.string s,vi (((q+2+1:Nat):Int)), .bool false] | 6=>True | 7=>True | 8=>σ 38= .string eb∧X 8=eB B11_4 193 #[.string s,vi (((q+2+1+2+numS s (q+2+1) 2:Nat):Int)), .bool false] | 9=>True | 10=>σ 40= .slice ((some ⟨(pb' (β 40)),0,none⟩)) 1 1∧X 9=eO 84 3 (.slice ((some ⟨(pb' (β 40)),0,none⟩)) 1 1) 1 ([vi ep,vi (es1 - 1), .string eb]) | 11=>σ 41= .slice (sA (β 41)) (j+1) (sC (β 41))∧X 10=eO 84 3 (.slice (sA (β 41)) (j+1) (sC (β 41))) (j+1) ((r.eds.take (j+1)).flatMap edC) | 12=>σ 8= .slice (sA (β 41)) (j+1) (sC (β 41)) | _=>True) [0,1,2,4,8,9,10] [1,2,3,4,5,6,7,8,9,10,11,12] [(8,12,1,9),(21,0,12,33)] hst24 ?_ ?_ ?_
  ·exact fun ix _ _ _ _ _ _ hs hb hx h=>match ix,h with
   | 3,h=>by dsimp only; rw [← hs 33 rfl,← hx 6 rfl]; exact h
   | 5,h=>by dsimp only; rw [← hs 35 rfl,← hx 7 rfl]; exact h
   | 8,h=>by dsimp only; rw [← hs 38 rfl,← hx 8 rfl]; exact h
   | 10,h=>by dsimp only; rw [← hs 40 rfl,← hb 40 rfl,← hx 9 rfl]; exact h
   | 11,h=>by dsimp only; rw [← hs 41 rfl,← hb 41 rfl,← hx 10 rfl]; exact h
   | 12,h=>by dsimp only; rw [← hs 8 rfl,← hb 41 rfl]; exact h
   | 0, _ | 1, _ | 2, _ | 4, _ | 6, _ | 7, _ | 9, _ | _+13, _=>trivial
  ·refine ⟨?_,?_,?_,?_,?_,?_,?_,?_,?_,?_,?_,?_,trivial⟩
   ·exact xs4 rfl id fun cx=>run_load1 rfl (by kernel_rfl) (cx.an 0) ((cx.bi 4 rfl).cell 5)
   ·exact xs4 rfl id fun cx=>run_load1 rfl (by kernel_rfl) (cx.ou 4) ((cx.bi 1 rfl).cell 0)
   ·refine svA fun ρ β W X cx=>?_
    refine DoesU.call (run_callF (args:=#[vp B11_4,vi 2]) rfl cx.sees rfl (by kernel_rfl) (map2 (cx.an 2) (cx.co _))) ?_
    refine (num_ok _ s q 2 _ ⟨(cx.bi 3 rfl),by omega,by omega⟩ (by omega) (by omega)).mono ?_
    rintro e W1 ⟨rfl,hrd,hu⟩
    refine ⟨_,rfl,post_mut (cx.init 3 _ rfl) rfl rfl hu hrd.1 (fun σ β' X' hs hb hv hx=>?_)⟩
    exact ⟨(hv 33 rfl).1.trans (congrArg (Value.int .i64) g1),hx⟩
   ·exact xs4 rfl id fun cx=>run_load1 rfl (by kernel_rfl) (cx.ou 4) ((cx.bi 1 rfl).cell 0)
   ·refine svA fun ρ β W X cx=>?_
    refine DoesU.call (run_callF (args:=#[vp B11_4,vi 1]) rfl cx.sees rfl (by kernel_rfl) (map2 (cx.an 4) (cx.co _))) ?_
    refine (num_ok _ s (q+2) 1 _ ⟨(cx.blk (dTn (cx.an 3)).2 rfl),by omega,by omega⟩ (by omega) (by omega)).mono ?_
    rintro e W1 ⟨rfl,hrd,hu⟩
    refine ⟨_,rfl,post_mut (dTn (cx.an 3)).2 rfl rfl hu hrd.1 (fun σ β' X' hs hb hv hx=>?_)⟩
    exact ⟨(hv 35 rfl).1.trans (congrArg (Value.int .i64) g2),hx⟩
   ·exact xs4 rfl id fun cx=>run_bin rfl (dTn (cx.an 5)).1 (cx.co _) (congrArg (fun z=>some (Value.int .i64 z)) ((IntWalk.i64_in _ (by omega)).trans (by omega)))
   ·exact xs4 rfl id fun cx=>run_load1 rfl (by kernel_rfl) (cx.ou 4) ((cx.bi 1 rfl).cell 0)
   ·refine svA fun ρ β W X cx=>?_
    refine DoesU.call (run_callF (args:=#[vp B11_4]) rfl cx.sees rfl (by kernel_rfl) (map1 (cx.an 7))) ?_
    refine (text_ok _ s (q+2+1) _ ⟨(cx.blk (dTn (cx.an 5)).2 rfl),by omega,by omega⟩ (by omega) (by omega)).mono ?_
    rintro e W1 ⟨rfl,hrd,hu⟩
    refine ⟨_,rfl,post_mut (dTn (cx.an 5)).2 rfl rfl hu hrd.1 (fun σ β' X' hs hb hv hx=>?_)⟩
    exact ⟨(hv 38 rfl).1.trans (congrArg Value.string g4),hx⟩
   ·exact xs4 rfl id fun cx=>run_buildL rfl (pmc (dTn (cx.an 3)).1 (pmc (cx.an 6) (pmc (dTn (cx.an 8)).1 pmn))) (by kernel_rfl)
   ·refine svA fun ρ β W X cx=>?_
    have fF39:ρ (.tmp 39)= .agg #[vi ep,vi (es1 - 1), .string eb]:=(cx.an 9)
    exact dv_litN (e:=84) (sz:=3) (xs:=[vi ep,vi (es1 - 1), .string eb]) rfl (by simp [go_sem,fF39]) rfl (by decide) rfl rfl (fun σ β' X' hs hb hv hx=>⟨hv,hx⟩)
   ·refine svA fun ρ β W X cx=>?_
    obtain ⟨i0,hi0,hz0,hz1,hz2⟩:=info_parts Tryz.infoEditJ
    refine dv_appendN (n:=j) (m:=1) (nm:=j+1) (sz:=3) (xs:=(r.eds.take j).flatMap edC) (news:=[vi ep,vi (es1 - 1), .string eb]) (xs':=(r.eds.take (j+1)).flatMap edC) rfl (ty:=24) rfl (by kernel_rfl) hi0 hz0 hz1 hz2 rfl (by decide) (cx.an 1) cx (cx.init 5 _ rfl) rfl (dTn (cx.an 10)).1 (by rfl) (At.of_ownN (cx.row (dTn (cx.an 10)).2 rfl)) (by simp [edC,Value.oneCell']) (by simp only [maxLen]; omega) (by omega) rfl rfl rfl (by omega) ((by rw [← ed_snoc hek,show es=es1 - 1 by omega]; rfl)) (fun σ β' X' hs hb hv hx=>?_)
    exact ⟨hv,hx⟩
   ·exact sv rfl rfl rfl rfl rfl _ (fun _ _ _ h=>h) (fun β β' h=>by rw [h 41 (by decide)]) fun ρ β W X cx=>run_assign' rfl (dTn (cx.an 11)).1
  intro σ β X W27 hD hst27 fr hfr
  obtain ⟨B40_27,hu_B40_27⟩:∃ z,pb' (β 40)=z:=⟨_,rfl⟩
  obtain ⟨A41_27,hu_A41_27⟩:∃ z,sA (β 41)=z:=⟨_,rfl⟩
  obtain ⟨c41_27,hu_c41_27⟩:∃ z,sC (β 41)=z:=⟨_,rfl⟩
  simp only [exq 8 ((dTn (hD 8 lq)).2),exq 9 ((dTn (hD 10 lq)).2),exq 10 ((dTn (hD 11 lq)).2),hu_B40_27,hu_A41_27,hu_c41_27] at hst27
  simp only [ed 33 ((dTn (hD 3 lq)).1),ed 35 ((dTn (hD 5 lq)).1),ed 38 ((dTn (hD 8 lq)).1),ed 40 ((dTn (hD 10 lq)).1),ed 41 ((dTn (hD 11 lq)).1),ed 8 ((dTn (hD 12 lq))),hu_B40_27,hu_A41_27,hu_c41_27] at hfr
  clear hD hu_B40_27 hu_A41_27 hu_c41_27; subst hfr; clear σ β X
  refine then_normal (sqr (sqp [.m 42 8, .k 43 (.pointer (some ⟨B7_11,5,none⟩))] ?_))
  refine sqst (n:=1) 3 #[vi r.kind,vi r.xid,vi r.tbl, .slice none 0 0, .slice none 0 0, .slice A41_27 (j+1) c41_27, .slice none 0 0, .string ByteArray.empty] hst27 fun W30 hst30=>?_
  refine blk_normal (then_normal (sqr (sqp [sI 44 ((j:Int)+1) (by omega), .m 28 44] ?_)))
  refine then_normal ?_
  refine ⟨r.eds.length - ((j+1)),by omega,?_⟩
  exact ⟨(j+1),q+2+1+2+numS s (q+2+1) 2,A41_27,c41_27,by omega,by rw [offE_take hek]; show _=11+(offE (r.eds.take j)+(5+eb.size)); omega,rfl,(by kernel_rfl),hst30.pk [0,1,2,4,3,6]⟩
 refine wp_exit (then_exit (then_exit (blk_eq (then_normal (wp_seq (wp_seq ?_))))))
 obtain rfl:j=r.eds.length:=by omega
 rw [List.take_length] at hq hst24
 have g6:(numS s q 1:Int)=0:=by rw [hq,hh.xids]; rfl
 have g7:numS s (q+1) 2=r.note.size:=by rw [hq,show 11+offE r.eds+1=12+offE r.eds by omega]; exact hh.note.1
 have g8:textS s (q+1)=r.note:=by rw [hq,show 11+offE r.eds+1=12+offE r.eds by omega]; exact hh.note.2
 have hsz:=hh.size
 have hrn:=hro.note
 refine sqr (sqld 1 hst24 ?_)
 refine sqc0 (vi 0) (eB B11_4 193 #[.string s,vi (((q+1:Nat):Int)), .bool false]) 3 hst24 (by
   refine svA fun ρ β W X cx=>?_
   refine DoesU.call (run_callF (args:=#[vp B11_4,vi 1]) rfl cx.sees rfl (by kernel_rfl) (map2 (cx.ou 45) (cx.co _))) ?_
   refine (num_ok _ s q 1 _ ⟨(cx.bi 3 rfl),by omega,by omega⟩ (by omega) (by omega)).mono ?_
   rintro e W1 ⟨rfl,hrd,hu⟩
   refine ⟨_,rfl,post_mut (cx.init 3 _ rfl) rfl rfl hu hrd.1 (fun σ β' X' hs hb hv hx=>?_)⟩
   exact ⟨(hv 46 rfl).1.trans (congrArg (Value.int .i64) g6),hx⟩) fun W34 hst34=>?_
 refine sqp [.k 47 (vi 0)] ?_
 refine then_normal (wp_block ?_)
 refine wp_loopT (fun t_ mz az W=>∃ k:Nat,k≤0∧mz=0 - k∧az=⟨(ovr (jv az) [(9,9,1,[]),(37,47,0,[vi ((k:Int))]),(0,48,10,[])] t_).toArray,[]⟩∧St w [] [eB B2_1 27 #[vi 0,vi 0,vi 0, .slice none 0 0, .slice none 0 0, .slice none 0 0, .slice none 0 0, .string ByteArray.empty],eB B4_5 153 #[vp B11_4],eB B5_7 4 #[.bool true],eB B11_4 193 #[.string s,vi (((q+1:Nat):Int)), .bool false],eB B7_11 27 #[vi r.kind,vi r.xid,vi r.tbl, .slice none 0 0, .slice none 0 0, .slice EA r.eds.length Ec, .slice none 0 0, .string ByteArray.empty],eO 84 3 (.slice EA r.eds.length Ec) r.eds.length (r.eds.flatMap edC)] W) (0 - 0) ?_ ?_
 · -- the loop begins
   exact ⟨0,Nat.zero_le _,rfl,(by kernel_rfl),hst34.pk [0,1,2,3,4,5]⟩
 rintro n36 a36 W36 ⟨k,hk,rfl,hj_,hst36⟩
 refine ovz hj_ fun u36_=>?_
 refine wp_seq (sqr ?_)
 have hd38:(decide ((k:Int) < 0))=false:=(decide_eq_false (by omega))
 refine sqp [.e 48 (.bool (decide ((k:Int) < 0))) (.bool false) (congrArg Value.bool hd38)] ?_
 refine then_normal (wp_seq (wcf rfl (wp_exit (then_exit (then_exit (blk_eq (then_normal (wp_seq (sqr (sqld 1 hst36 ?_))))))))))
 refine sqc0 (.string r.note) (eB B11_4 193 #[.string s,vi (((q+1+2+numS s (q+1) 2:Nat):Int)), .bool false]) 3 hst36 (by
   refine svA fun ρ β W X cx=>?_
   refine DoesU.call (run_callF (args:=#[vp B11_4]) rfl cx.sees rfl (by kernel_rfl) (map1 (cx.ou 58))) ?_
   refine (text_ok _ s (q+1) _ ⟨(cx.bi 3 rfl),by omega,by omega⟩ (by omega) (by omega)).mono ?_
   rintro e W1 ⟨rfl,hrd,hu⟩
   refine ⟨_,rfl,post_mut (cx.init 3 _ rfl) rfl rfl hu hrd.1 (fun σ β' X' hs hb hv hx=>?_)⟩
   exact ⟨(hv 59 rfl).1.trans (congrArg Value.string g8),hx⟩) fun W40 hst40=>?_
 refine sqp [.k 60 (.pointer (some ⟨B7_11,7,none⟩))] ?_
 refine sqst (n:=1) 4 #[vi r.kind,vi r.xid,vi r.tbl, .slice none 0 0, .slice none 0 0, .slice EA r.eds.length Ec, .slice none 0 0, .string r.note] hst40 fun W42 hst42=>?_
 refine then_normal (wp_seq (wp_block (wp_seq (sqr (sqld 1 hst42 ?_)))))
 refine sqv (.bool false) hst42 (by
   refine svA fun ρ β W X cx=>?_
   refine DoesU.call (run_callF (args:=#[vp B11_4]) rfl cx.sees rfl (by kernel_rfl) (map1 (cx.ou 62))) ?_
   refine (failed_any _ s (q+1+2+numS s (q+1) 2) false _ ⟨(cx.bi 3 rfl),by omega,by omega⟩).mono ?_
   rintro e W1 ⟨rfl,rfl⟩
   refine ⟨_,rfl,post_call [] rfl rfl (Ext.refl _) (by simp) List.Pairwise.nil (fun σ β' X' hs hb hv hN=>?_)⟩
   have hv1:=(hv 63 rfl).1; have hv2:=(hv 63 rfl).2
   exact hv1.trans rfl) fun W44 hst44=>?_
 refine sqp [.k 61 (.bool false)] ?_
 refine then_normal (wcf rfl (wp_seq (sqr (sqld 2 hst44 ?_))))
 refine sqp [.k 67 (.bool false), .k 68 (.bool false)] ?_
 refine sqgy 68 [69,70,71] rfl rfl ?_
 refine sqld 1 hst44 ?_
 refine sqk (vi 0) hst44 (fun cx=>⟨_,left_of (p:=(q+1+2+numS s (q+1) 2)) (by omega:(0:Int)= _) ⟨(cx.bi 3 rfl),by omega,by omega⟩,(map1 (cx.ou 69))⟩) fun W50 hst50=>?_
 refine sqp [.k 71 (.bool false)] ?_
 refine sqp [.k 72 (.bool false), .k 73 (.bool false)] ?_
 refine sqgy 73 [74,75,76] rfl rfl ?_
 refine sqlb 4 8 hst50 ?_
 have hd56:((recR r))=true:=hrr
 refine sqv (.bool true) hst50 (sv_call rfl rfl rfl rfl rfl (fun _ _ _ h=>h.trans (congrArg Value.bool hd56)) fun ρ β W X cx=>⟨_, _,run_callF (args:=#[.agg #[vi r.kind,vi r.xid,vi r.tbl, .slice none 0 0, .slice none 0 0, .slice EA r.eds.length Ec, .slice none 0 0, .string r.note]]) rfl cx.sees rfl (by kernel_rfl) (map1 (cx.ou 74)),jright_any r.kind r.xid r.tbl _ _ r.eds r.note _ (At.of_ownN (cx.ri 5 rfl)) (by omega) hez (by omega)⟩) fun W55 hst55=>?_
 refine sqp [.k 76 (.bool false)] ?_
 refine sqp [.k 77 (.bool false), .k 65 (.bool false)] ?_
 refine then_normal (wcf rfl (wp_skip (blk_normal (then_normal (wp_seq (sqr ?_))))))
 refine sqlb 4 8 hst55 ?_
 refine sqst (n:=8) 0 #[vi r.kind,vi r.xid,vi r.tbl, .slice none 0 0, .slice none 0 0, .slice EA r.eds.length Ec, .slice none 0 0, .string r.note] hst55 fun W61 hst61=>?_
 refine sqp [.k 3 (vi 0)] ?_
 refine then_normal (wp_ret ?_)
 refine bpr (.tuple #[.agg #[vi r.kind,vi r.xid,vi r.tbl, .slice none 0 0, .slice none 0 0, .slice EA r.eds.length Ec, .slice none 0 0, .string r.note],vi 0]) (results_2 Tryz.results99 (rpa (hst61.blk 0 rfl) 0 8) rpt) ?_
 exact ⟨_, _,rfl,hst61.own' 5 rfl,hst61.ext⟩
end
section
open Go.RowKit
/-- all of R as one entry -/
def eM (R:List Ent):Ent:=⟨R.flatMap (·.fp),fun W=>∀ e∈R,e.holds W∧e.loc⟩
theorem eM_loc (R:List Ent):(eM R).loc:=fun W W' hk h e he=>
 ⟨(h e he).2 W W' (fun k hk'=>hk k (List.mem_flatMap.2 ⟨e,he,hk'⟩)) (h e he).1,(h e he).2⟩
theorem St.emNil {w0 W:World} {bor:List Nat} {L:List Ent} (h:St w0 bor L W):St w0 bor (L++[eM []]) W:=by
 refine ⟨h.upd,fun x hx=>?_,?_⟩
 ·rcases List.mem_append.1 hx with hx | hx
  ·exact h.ok x hx
  ·rw [List.mem_singleton] at hx
   subst hx
   exact ⟨fun e he=>(by cases he),eM_loc _,fun k hk=>(by cases hk)⟩
 ·rw [List.pairwise_append]
  refine ⟨h.apart,List.pairwise_singleton _ _,fun a _ b hb=>?_⟩
  rw [List.mem_singleton] at hb
  subst hb
  exact fun k _ hk=>by cases hk
/-- the last entry joins the many -/
theorem St.merge {w0 W:World} {bor:List Nat} {L R:List Ent} {e:Ent} (h:St w0 bor (L++[eM R,e]) W):St w0 bor (L++[eM (R++[e])]) W:=by
 have hM:=h.ok (eM R) (by simp)
 have hE:=h.ok e (by simp)
 have hfp:∀ k,k∈(eM (R++[e])).fp↔k∈(eM R).fp∨k∈e.fp:=fun k=>by simp [eM]
 refine ⟨h.upd,fun x hx=>?_,?_⟩
 ·rcases List.mem_append.1 hx with hx | hx
  ·exact h.ok x (by simp [hx])
  ·rw [List.mem_singleton] at hx
   subst hx
   refine ⟨fun x hx=>?_,eM_loc _,fun k hk=>?_⟩
   ·rcases List.mem_append.1 hx with hx | hx
    ·exact hM.holds x hx
    ·rw [List.mem_singleton] at hx
     subst hx
     exact ⟨hE.holds,hE.loc⟩
   ·rcases (hfp k).1 hk with hk | hk
    ·exact hM.own k hk
    ·exact hE.own k hk
 ·have ha:=h.apart
  rw [List.pairwise_append] at ha ⊢
  refine ⟨ha.1,List.pairwise_singleton _ _,fun a ha' b hb=>?_⟩
  rw [List.mem_singleton] at hb
  subst hb
  intro k hk hkb
  rcases (hfp k).1 hkb with hkb | hkb
  ·exact ha.2.2 a ha' (eM R) (by simp) k hk hkb
  ·exact ha.2.2 a ha' e (by simp) k hk hkb
theorem St.repl {w0 W:World} {bor:List Nat} {L1 L2:List Ent} {E E':Ent} (h:St w0 bor (L1++E::L2) W) (hfp:E'.fp=E.fp) (hh:E.holds W→E'.holds W) (hl:E'.loc):St w0 bor (L1++E'::L2) W:=by
 refine ⟨h.upd,fun x hx=>?_,?_⟩
 ·rcases List.mem_append.1 hx with hx | hx
  ·exact h.ok x (List.mem_append_left _ hx)
  ·rcases List.mem_cons.1 hx with e | hx
   ·rw [e]
    have h1:=h.ok E (by simp)
    exact ⟨hh h1.holds,hl,fun k hk=>h1.own k (hfp ▸ hk)⟩
   ·exact h.ok x (by simp [hx])
 ·have ha:=h.apart
  rw [List.pairwise_append,List.pairwise_cons] at ha ⊢
  refine ⟨ha.1,⟨fun b hb k hk hk'=>ha.2.1.1 b hb k (hfp ▸ hk) hk',ha.2.1.2⟩,fun a ha' b hb=>?_⟩
  rcases List.mem_cons.1 hb with e | hb
  ·rw [e]
   exact fun k hk hk'=>ha.2.2 a ha' E (by simp) k hk (hfp ▸ hk')
  ·exact ha.2.2 a ha' b (by simp [hb])
section
variable {P:Program} {ops:Array Oper} {L:List Nat} {a0:Act} {w0:World} {bor:List Nat} {X0:List Ent} {us cr kl:List (List Nat)}
 {D:Nat→(Tmp→Value)→(Tmp→Value)→(Nat→Ent)→Prop} {i:Nat} {o:Oper} {ρ:Operand→Value} {β:Tmp→Value} {W:World} {X:Nat→Ent}
/-- a callee that changes the entry E and leaves the entries N on its blocks and on new ones -/
theorem post_obj {v:Value} {W':World} {q:Nat} {E:Ent} (N:List Ent) (hX:X q=E) (hk:atV kl i=[q]) (hl:N.length=(atV cr i).length) (hs:St W E.fp N W')
  (hD:∀ (σ β':Tmp→Value) (X':Nat→Ent),(∀ t,o.dst≠some t→σ t=ρ (.tmp t))→(∀ t,o.dst≠some t→β' t=β t)→(∀ d,o.dst=some d→σ d=v∧β' d=v)→(atV cr i).map X'=N→D i σ β' X'):PostV cr kl D i o.dst ρ β W X v W':=by
 subst hX
 have e1:(atV kl i).flatMap (fun q=>(X q).fp)=(X q).fp:=by rw [hk]; simp
 exact ⟨N,hl,⟨by rw [e1]; exact hs.upd,fun e he=>⟨(hs.ok e he).holds,(hs.ok e he).loc,fun k hk'=>by rw [e1]; exact (hs.ok e he).own k hk'⟩,hs.apart⟩,
  fun σ β' X' hs' hv hb' hbv hx' hN=>hD σ β' X' hs' hb' (fun d hd=>⟨hv d hd,hbv d hd⟩) hN⟩
end
/-- an entry's own blocks lent to a callee -/
theorem St.lend {w:World} {E:Ent} (h:E.holds w) (hl:E.loc) (hb:∀ k∈E.fp,k < w.heap.size):St w E.fp [E] w:=
 ⟨Upd.refl _ _,fun x hx=>by rw [List.mem_singleton] at hx; subst hx; exact ⟨h,hl,fun k hk=>⟨.inl hk,hb k hk⟩⟩,List.pairwise_singleton _ _⟩
end
section
open Go.RowKit
/-- a record in memory: its edits lie at A -/
structure RcT where
 r:RecM
 A:Option Addr
 c:Nat
def rcC (t:RcT):List Value:=[.int .i64 t.r.kind, .int .i64 t.r.xid, .int .i64 t.r.tbl, .slice none 0 0, .slice none 0 0, .slice t.A t.r.eds.length t.c, .slice none 0 0, .string t.r.note]
theorem rcC_len (t:RcT):(rcC t).length=8:=rfl
def entR (t:RcT):Ent:=eO 84 3 (.slice t.A t.r.eds.length t.c) t.r.eds.length (t.r.eds.flatMap edC)
def eRc (Qs:List RcT):Ent:=eM (Qs.map entR)
theorem eRc_at {Qs:List RcT} {W:World} (h:(eRc Qs).holds W) {t:RcT} (ht:t∈Qs):At W t.A (t.r.eds.flatMap edC):=At.of_ownN (h (entR t) (List.mem_map.2 ⟨_,ht,rfl⟩)).1
theorem St.mergeR {w0 W:World} {bor:List Nat} {L:List Ent} {Qs:List RcT} {t:RcT} (h:St w0 bor (L++[eRc Qs,entR t]) W):St w0 bor (L++[eRc (Qs++[t])]) W:=by
 have h1:=St.merge (L:=L) (R:=Qs.map entR) (e:=entR t) h
 rw [eRc,List.map_append]
 exact h1
def szF (L:List RecM):Nat:=(L.map fun r=>(frameR r).size).sum
def logF (L:List RecM):ByteArray:=catS (L.map frameR)
def endN (L:List RecM) (j:Nat):List Int:=(List.range j).map fun i=>(szF (L.take (i+1)):Int)
theorem endN_len (L:List RecM) (j:Nat):(endN L j).length=j:=by simp [endN]
theorem endN_succ (L:List RecM) (j:Nat):(endN L j).map (Value.int .i64)++[.int .i64 (szF (L.take (j+1)):Int)]=(endN L (j+1)).map (Value.int .i64):=by
 rw [endN,endN,List.range_succ,List.map_append,List.map_append]; rfl
theorem logF_size (L:List RecM):(logF L).size=szF L:=by rw [logF,catS_size,szF,List.map_map]; rfl
theorem szF_take {L:List RecM} {j:Nat} {r:RecM} (h:L[j]? =some r):szF (L.take (j+1))=szF (L.take j)+(frameR r).size:=by
 obtain ⟨hj,rfl⟩:=List.getElem?_eq_some_iff.1 h
 rw [szF,szF,List.take_succ_eq_append_getElem hj,List.map_append,List.sum_append]; simp
theorem catS_app (a b:List ByteArray):catS (a++b)=catS a++catS b:=by
 induction a with
 | nil=>rw [List.nil_append,catS_nil,nil_ap]
 | cons x a ih=>rw [List.cons_append,catS_cons,catS_cons,ih,ByteArray.append_assoc]
theorem frameR_size {r:RecM} (h:recR r=true):(frameR r).size=8+(bytesR r).size:=by
 rw [frameR,if_pos h,cat3_size,putS_size _ _ (by decide),putS_size _ _ (by decide)]
theorem szF_len {L:List RecM} (h:∀ r∈L,recR r=true):8*L.length≤szF L:=by
 induction L with
 | nil=>exact Nat.zero_le _
 | cons r L ih=>
   have h1:=ih fun x hx=>h x (by simp [hx])
   have h2:=frameR_size (h r (by simp))
   have h3:szF (r::L)=(frameR r).size+szF L:=by simp [szF]
   rw [List.length_cons,h3]; omega
theorem log_at {L:List RecM} {j:Nat} {r:RecM} (hj:L[j]? =some r) (hr:recR r=true) {s t:ByteArray} (hs:s=logF L++t):numS s (szF (L.take j)) 4=(bytesR r).size∧numS s (szF (L.take j)+4) 4=sumF (bytesR r)∧s.extract (szF (L.take j)+4+4) (szF (L.take j)+4+4+(bytesR r).size)=bytesR r∧szF (L.take j)+8+(bytesR r).size≤s.size:=by
 obtain ⟨hjl,rfl⟩:=List.getElem?_eq_some_iff.1 hj
 have hl:L=L.take j++L[j]::L.drop (j+1):=by rw [List.getElem_cons_drop,List.take_append_drop]
 have hz:=logF_size (L.take j)
 have hb:=bytesR_size L[j]
 have hsl:=sumF_lt (bytesR L[j])
 generalize L[j]=r at*
 generalize L.take j=l1 at*
 generalize L.drop (j+1)=l2 at*
 have e:s=logF l1++(putS ((bytesR r).size:Int) 4++(putS (sumF (bytesR r):Int) 4++(bytesR r++(logF l2++t)))):=by
  rw [hs,hl,logF,List.map_append,catS_app,List.map_cons,catS_cons,frameR,if_pos hr]
  simp only [catS_cons,catS_nil,ByteArray.append_assoc,nil_ap,ap_nil]
  rfl
 have p4:=fun n=>putS_size n 4 (by decide)
 have e2:s=(logF l1++putS ((bytesR r).size:Int) 4)++(putS (sumF (bytesR r):Int) 4++(bytesR r++(logF l2++t))):=by rw [e]; simp only [ByteArray.append_assoc]
 have e3:bl s=(bl (logF l1)++(bl (putS ((bytesR r).size:Int) 4)++bl (putS (sumF (bytesR r):Int) 4)))++(bl (bytesR r)++bl (logF l2++t)):=by rw [e]; simp only [bl_append,List.append_assoc]
 have h1:=num_mid e hz (p4 _)
 have h2:=num_mid e2 (p:=szF l1+4) (by rw [ByteArray.size_append,hz,p4]) (p4 _)
 have h3:=putS_num4 ((bytesR r).size:Int) (by omega) (by omega)
 have h4:=putS_num4 (sumF (bytesR r):Int) (by omega) (by omega)
 refine ⟨by omega,by omega,?_,?_⟩
 ·rw [extr_at e3 (p:=szF l1+4+4) (q:=szF l1+4+4+(bytesR r).size) (by simp only [List.length_append,bl_len,hz,p4]) (by rw [bl_len]),baOf_bl]
 ·rw [e]; simp only [ByteArray.size_append,hz,p4]; omega
/-- what stands at p is no whole frame -/
def TailP (s:ByteArray) (p:Nat):Prop:=s.size < p+8∨s.size < p+8+numS s p 4
theorem sc_cases {s:ByteArray} {L:List RecM} {j q:Nat} (hj:j≤L.length) (hq:q=szF (L.take j)) (ht:TailP s (szF L)):j < L.length∨(j=L.length∧s.size < q+4)∨(j=L.length∧q+4≤s.size∧s.size < q+4+4)∨(j=L.length∧q+4+4≤s.size∧s.size < q+4+4+numS s q 4):=by
 rcases Nat.lt_or_ge j L.length with h | h
 ·exact .inl h
 ·obtain rfl:j=L.length:=by omega
  rw [List.take_length] at hq
  subst hq
  unfold TailP at ht
  omega
def ScPost (L:List RecM) (w:World) (e:Ending) (w':World):Prop:=∃ LA lc EA ec Ps,Ps.map RcT.r=L∧e= .returned (.tuple #[.slice LA L.length lc, .slice EA L.length ec])∧St w [] [eO 27 8 (.slice LA L.length lc) L.length (Ps.flatMap rcC),eO 3 1 (.slice EA L.length ec) L.length ((endN L L.length).map (Value.int .i64)),eRc Ps] w'
theorem Tryz.infoRecJ:(Tryz.prog.info? 27).map (fun i=>(i.zero,i.size,i.bytes))=some (some (.agg #[.int .i64 0, .int .i64 0, .int .i64 0, .slice none 0 0, .slice none 0 0, .slice none 0 0, .slice none 0 0, .string ⟨#[]⟩]),8,136):=by kernel_rfl
theorem Tryz.infoIntJ:(Tryz.prog.info? 3).map (fun i=>(i.zero,i.size,i.bytes))=some (some (.int .i64 0),1,8):=by kernel_rfl
theorem rc_snoc (Ps:List RcT) (t:RcT):Ps.flatMap rcC++rcC t=(Ps++[t]).flatMap rcC:=by simp
theorem oat_any (B:Nat) (s:ByteArray) (p:Nat) (f:Bool) (w:World) (h:Rd 193 w B s p f):
  Calls Tryz.prog 100 #[.pointer (some ⟨B,0,none⟩)] w (Ret (.int .i64 (p:Int)) w):=by
 go_enter Tryz.func100,Tryz.ntmps100
 have hst0:=St.start w
 refine wp_seq (sqr (sqp [.k 2 (vi 0)] ?_))
 refine then_normal (wp_seq (wp_seq (sqr (sqp [.m 3 0] ?_))))
 refine sqv (.bool false) hst0 (by
   exact sv0 rfl rfl rfl rfl rfl (fun _ _ _ h=>h) fun ρ β W X cx=>by
    have fF3:ρ (.tmp 3)=vp B:=(cx.ou 3)
    simp [go_sem,cx.sees.const,fF3]) fun W3 hst3=>?_
 refine then_normal (wcf rfl (wp_skip (then_normal (wp_seq (sqr (sqp [.m 5 0, .k 6 (vp B), .k 7 (.pointer (some ⟨B,1,none⟩))] ?_))))))
 refine sql (vi ((p:Int))) hst3 (fun cx=>run_load1 rfl (by kernel_rfl) (cx.ou 7) ((Blk.ext h.1 cx.upd.to_ext).cell 1)) ?_
 refine sqp [.m 2 8] ?_
 refine then_normal (wp_ret ?_)
 refine bpr (vi ((p:Int))) (results_1 Tryz.results100 rpt) ?_
 exact Ret.of rfl hst3.ext
theorem jscan_any (s t:ByteArray) (L:List RecM) (w:World) (hsl:s=logF L++t) (hL:∀ r∈L,recR r=true) (ht:TailP s (szF L)) (hs:s.size≤1000000):
  Calls Tryz.prog 39 #[.string s] w (ScPost L w):=by
 have hsz:(logF L).size≤s.size:=by rw [hsl,ByteArray.size_append]; omega
 rw [logF_size] at hsz
 have hLl:=szF_len hL
 go_enter Tryz.func39,Tryz.ntmps39
 have hst0:=St.start w
 refine wp_seq (sqr (sqp [.k 2 (.slice none 0 0), .k 3 (.slice none 0 0)] ?_))
 refine then_normal (wp_seq (sqr (sqp [.k 4 (.slice none 0 0)] ?_)))
 refine then_normal (wp_seq (sqr (sqp [.k 5 (.slice none 0 0)] ?_)))
 refine then_normal (wp_seq (sqr (sqp [.m 12 0] ?_)))
 refine sqk1 (fun B13_6=>vp B13_6) (fun B13_6=>eB B13_6 193 #[.string s,vi 0, .bool false]) hst0 (fun cx=>⟨_,(oread_b s _).mono (by rintro e W1 ⟨B4,rfl,⟨hb4,hw4⟩,hx⟩; exact ⟨_,rfl,St.one hx ⟨hb4,eB_loc _ _ _,fun k hk=>by simp [eB] at hk; subst hk; exact ⟨hw4,hb4.lt⟩⟩⟩),(map1 (cx.ou 12))⟩) fun B13_6 W6 hst6=>?_
 refine sqp [.m 6 13] ?_
 refine then_normal (wp_block ?_)
 have hn8:=nilrowN hst6 27 8
 simp only [List.cons_append,List.nil_append] at hn8
 have hn9:=St.nilrow hn8 3
 simp only [List.cons_append,List.nil_append] at hn9
 have hn10:=St.emNil (hn9.pick [0,1,2] (by decide) rfl)
 have hn11:=hn10.pick [0,1,2,3] (by decide) rfl
 refine wp_loopT (fun t_ mz az W=>∃ j:Nat,∃ q:Nat,∃ Ps:List RcT,∃ LA:Option Addr,∃ lc:Nat,∃ EA:Option Addr,∃ ec:Nat,j≤L.length∧q=szF (L.take j)∧Ps.map RcT.r=L.take j∧mz=L.length - j∧az=⟨(ovr (jv az) [(2,2,2,[.slice LA j lc, .slice EA j ec]),(1,7,5,[]),(2,14,36,[])] t_).toArray,[]⟩∧St w [] [eB B13_6 193 #[.string s,vi ((q:Int)), .bool false],eO 27 8 (.slice LA j lc) j (Ps.flatMap rcC),eO 3 1 (.slice EA j ec) j ((endN L j).map (Value.int .i64)),eRc Ps] W) (L.length - 0) ?_ ?_
 · -- the loop begins
   exact ⟨0,0,[],none,0,none,0,Nat.zero_le _,rfl,rfl,rfl,(by kernel_rfl),hn11.pk [0,1,2,3]⟩
 rintro n12 a12 W12 ⟨j,q,Ps,LA,lc,EA,ec,hj,hq,hPs,rfl,hj_,hst12⟩
 refine ovz hj_ fun u12_=>?_
 refine wp_block (wp_seq ?_)
 have hsc:=sc_cases hj hq ht
 rcases hsc with hjl | ⟨hje,hs1⟩ | ⟨hje,hs1,hs2⟩ | ⟨hje,hs1,hs2⟩
 ·obtain ⟨rc,hrj⟩:∃ z,L[j]? =some z:=⟨_,List.getElem?_eq_getElem hjl⟩
  have hrc:recR rc=true:=hL rc (List.mem_of_getElem? hrj)
  obtain ⟨g1,g2,g3,g4⟩:=log_at hrj hrc hsl
  rw [← hq] at g1 g2 g3 g4
  have hbz:=bytesR_size rc
  have hsm:=sumF_lt (bytesR rc)
  refine sqr (sqp [.m 14 6] ?_)
  refine sqc0 (vi (((bytesR rc).size:Int))) (eB B13_6 193 #[.string s,vi (((q+4:Nat):Int)), .bool false]) 0 hst12 (by
    refine svA fun ρ β W X cx=>?_
    refine DoesU.call (run_callF (args:=#[vp B13_6,vi 4]) rfl cx.sees rfl (by kernel_rfl) (map2 (cx.ou 14) (cx.co _))) ?_
    refine (num_ok _ s q 4 _ ⟨(cx.bi 0 rfl),by omega,by omega⟩ (by omega) (by omega)).mono ?_
    rintro e W1 ⟨rfl,hrd,hu⟩
    refine ⟨_,rfl,post_mut (cx.init 0 _ rfl) rfl rfl hu hrd.1 (fun σ β' X' hs hb hv hx=>?_)⟩
    exact ⟨(hv 15 rfl).1.trans (congrArg (fun n:Nat=>Value.int .i64 (n:Int)) g1),hx⟩) fun W14 hst14=>?_
  refine sqp [.m 16 6] ?_
  refine sqc0 (vi ((sumF (bytesR rc):Int))) (eB B13_6 193 #[.string s,vi (((q+4+4:Nat):Int)), .bool false]) 0 hst14 (by
    refine svA fun ρ β W X cx=>?_
    refine DoesU.call (run_callF (args:=#[vp B13_6,vi 4]) rfl cx.sees rfl (by kernel_rfl) (map2 (cx.ou 16) (cx.co _))) ?_
    refine (num_ok _ s (q+4) 4 _ ⟨(cx.bi 0 rfl),by omega,by omega⟩ (by omega) (by omega)).mono ?_
    rintro e W1 ⟨rfl,hrd,hu⟩
    refine ⟨_,rfl,post_mut (cx.init 0 _ rfl) rfl rfl hu hrd.1 (fun σ β' X' hs hb hv hx=>?_)⟩
    exact ⟨(hv 17 rfl).1.trans (congrArg (fun n:Nat=>Value.int .i64 (n:Int)) g2),hx⟩) fun W16 hst16=>?_
  refine sqp [.m 7 15, .m 8 17] ?_
  refine then_normal (wp_seq (sqr (sqp [.m 18 6, .m 19 7] ?_)))
  refine sqc0 (.string ((bytesR rc))) (eB B13_6 193 #[.string s,vi (((q+4+4+(bytesR rc).size:Nat):Int)), .bool false]) 0 hst16 (by
    refine svA fun ρ β W X cx=>?_
    refine DoesU.call (run_callF (args:=#[vp B13_6,vi (((bytesR rc).size:Int))]) rfl cx.sees rfl (by kernel_rfl) (map2 (cx.ou 18) (cx.ou 19))) ?_
    refine (take_ok _ s (q+4+4) (bytesR rc).size _ ⟨(cx.bi 0 rfl),by omega,by omega⟩ (by omega)).mono ?_
    rintro e W1 ⟨rfl,hrd,hu⟩
    refine ⟨_,rfl,post_mut (cx.init 0 _ rfl) rfl rfl hu hrd.1 (fun σ β' X' hs hb hv hx=>?_)⟩
    exact ⟨(hv 20 rfl).1.trans (congrArg Value.string g3),hx⟩) fun W21 hst21=>?_
  refine sqp [.m 9 20] ?_
  refine then_normal (wp_seq (wp_seq (sqr (sqp [.m 21 6] ?_))))
  refine sqv (.bool false) hst21 (by
    refine svA fun ρ β W X cx=>?_
    refine DoesU.call (run_callF (args:=#[vp B13_6]) rfl cx.sees rfl (by kernel_rfl) (map1 (cx.ou 21))) ?_
    refine (failed_any _ s (q+4+4+(bytesR rc).size) false _ ⟨(cx.bi 0 rfl),by omega,by omega⟩).mono ?_
    rintro e W1 ⟨rfl,rfl⟩
    refine ⟨_,rfl,post_call [] rfl rfl (Ext.refl _) (by simp) List.Pairwise.nil (fun σ β' X' hs hb hv hN=>?_)⟩
    have hv1:=(hv 22 rfl).1; have hv2:=(hv 22 rfl).2
    exact hv1.trans rfl) fun W24 hst24=>?_
  refine sqp [.k 23 (.bool false)] ?_
  refine sqgy 23 [24,25,26,27,28] rfl rfl ?_
  refine sqp [.m 24 9] ?_
  refine sqk (.int .u32 ((sumF (bytesR rc):Int))) hst24 (fun cx=>⟨_,osum_any (bytesR rc) _ (by omega),(map1 (cx.ou 24))⟩) fun W27 hst27=>?_
  have hd31:((sumF (bytesR rc):Int) != (sumF (bytesR rc):Int))=false:=(by simp)
  refine sqp [sW 26 .i64 (sumF (bytesR rc):Int) (sumF (bytesR rc):Int) (IntWalk.i64_in _ (by omega)), .m 27 8, .e 28 (.bool ((sumF (bytesR rc):Int) != (sumF (bytesR rc):Int))) (.bool false) (congrArg Value.bool hd31)] ?_
  refine sqp [.k 29 (.bool false)] ?_
  refine then_normal (wcf rfl (wp_skip (then_normal (wp_seq (sqr (sqp [.m 33 9] ?_))))))
  refine sqk2 (fun A34_34 c34_34=> .tuple #[.agg #[vi rc.kind,vi rc.xid,vi rc.tbl, .slice none 0 0, .slice none 0 0, .slice A34_34 rc.eds.length c34_34, .slice none 0 0, .string rc.note],vi 0]) (fun A34_34 c34_34=>eO 84 3 (.slice A34_34 rc.eds.length c34_34) rc.eds.length (rc.eds.flatMap edC)) hst27 (fun cx=>⟨_,(jread_s (bytesR rc) rc _ (rec_says hrc) hrc (by omega)).mono (by rintro e W1 ⟨A4,c4,rfl,ho,hx⟩; exact ⟨_, _,rfl,St.one hx (eO_new ho)⟩),(map1 (cx.ou 33))⟩) fun A34_34 c34_34 W34 hst34=>?_
  refine sqp [.m 32 34, .k 35 (.agg #[vi rc.kind,vi rc.xid,vi rc.tbl, .slice none 0 0, .slice none 0 0, .slice A34_34 rc.eds.length c34_34, .slice none 0 0, .string rc.note]), .k 36 (vi 0)] ?_
  refine sqal #[vi 0,vi 0,vi 0, .slice none 0 0, .slice none 0 0, .slice none 0 0, .slice none 0 0, .string ByteArray.empty] hst34 fun B10_38 W38 hst38=>?_
  refine sqst (n:=8) 5 #[vi rc.kind,vi rc.xid,vi rc.tbl, .slice none 0 0, .slice none 0 0, .slice A34_34 rc.eds.length c34_34, .slice none 0 0, .string rc.note] hst38 fun W39 hst39=>?_
  refine sqp [.m 11 36] ?_
  refine then_normal (wp_seq (wp_seq (sqr (sqp [.m 37 11, .k 38 (.bool false)] ?_))))
  refine then_normal (wcf rfl (wp_skip (then_normal (wp_seq (sqr (sqp [.m 41 4] ?_))))))
  refine sqlb 5 8 hst39 ?_
  refine sqli 27 8 1 [vi rc.kind,vi rc.xid,vi rc.tbl, .slice none 0 0, .slice none 0 0, .slice A34_34 rc.eds.length c34_34, .slice none 0 0, .string rc.note] hst39 (@fun ρ β W X cx=>by have fF42:ρ (.tmp 42)= .agg #[vi rc.kind,vi rc.xid,vi rc.tbl, .slice none 0 0, .slice none 0 0, .slice A34_34 rc.eds.length c34_34, .slice none 0 0, .string rc.note]:=(cx.ou 42); simp [go_sem,fF42]) fun B43_45 W45 hst45=>?_
  refine sqap (j+1) ((Ps++[RcT.mk rc A34_34 c34_34]).flatMap rcC) 1 hst45 Tryz.infoRecJ (fun cx=>(At.of_ownN (cx.ri 6 rfl))) (h1:=by simp [rcC,Value.oneCell']) (hxs:=(rc_snoc Ps (RcT.mk rc A34_34 c34_34))) fun A44_46 c44_46 W46 hst46=>?_
  refine sqp [.m 4 44] ?_
  refine then_normal (sqr (sqp [.m 45 5, .m 46 6] ?_))
  refine sqk (vi (((q+4+4+(bytesR rc).size:Nat):Int))) hst46 (fun cx=>⟨_,oat_any _ s (q+4+4+(bytesR rc).size) false _ ⟨(cx.bi 0 rfl),by omega,by omega⟩,(map1 (cx.ou 46))⟩) fun W50 hst50=>?_
  refine sqn1 (fun x_=>sA x_) (fun A48_51=> .slice A48_51 1 1) (fun A48_51=>eO 3 1 (.slice A48_51 1 1) 1 ([vi (((q+4+4+(bytesR rc).size:Nat):Int))])) hst50 (by
    refine svA fun ρ β W X cx=>?_
    have fF47:ρ (.tmp 47)=vi (((q+4+4+(bytesR rc).size:Nat):Int)):=(cx.ou 47)
    exact dv_lit (e:=3) (xs:=[vi (((q+4+4+(bytesR rc).size:Nat):Int))]) rfl (by simp [go_sem,fF47]) rfl (by decide) rfl rfl (fun σ β' X' hs hb hv hx=>⟨hv,hx⟩)) fun A48_51 W51 hst51=>?_
  refine sqc2 (fun x_=>sA x_) (fun x_=>sC x_) (fun A49_52 c49_52=> .slice A49_52 (j+1) c49_52) (fun A49_52 c49_52=>eO 3 1 (.slice A49_52 (j+1) c49_52) (j+1) ((endN L (j+1)).map (Value.int .i64))) 2 hst51 (by
    refine svA fun ρ β W X cx=>?_
    obtain ⟨i0,hi0,hz0,hz1,hz2⟩:=info_parts Tryz.infoIntJ
    refine dv_append (n:=j) (m:=1) (nm:=j+1) (xs:=(endN L j).map (Value.int .i64)) (news:=[vi (((q+4+4+(bytesR rc).size:Nat):Int))]) (xs':=(endN L (j+1)).map (Value.int .i64)) rfl (ty:=25) rfl (by kernel_rfl) hi0 hz0 hz1 hz2 rfl (cx.ou 45) cx (cx.init 2 _ rfl) rfl (cx.ou 48) (by first | (simp; done) | (simp; omega)) (At.of_own (cx.ri 7 rfl)) (by simp [rcC,Value.oneCell']) (by simp only [maxLen]; omega) (by omega) rfl rfl rfl (by omega) ((by rw [← endN_succ,szF_take hrj,frameR_size hrc,← hq,show q+4+4+(bytesR rc).size=q+(8+(bytesR rc).size) by omega])) (fun σ β' X' hs hb hv hx=>?_)
    exact ⟨hv,hx⟩) fun A49_52 c49_52 W52 hst52=>?_
  refine sqp [.m 5 49] ?_
  refine blk_normal (then_normal ?_)
  have hm54:=St.mergeR (Qs:=Ps) (t:=(RcT.mk rc A34_34 c34_34)) (L:=[eB B13_6 193 #[.string s,vi (((q+4+4+(bytesR rc).size:Nat):Int)), .bool false],eO 27 8 (.slice A44_46 (j+1) c44_46) (j+1) ((Ps++[RcT.mk rc A34_34 c34_34]).flatMap rcC),eO 3 1 (.slice A49_52 (j+1) c49_52) (j+1) ((endN L (j+1)).map (Value.int .i64))]) (hst52.pick [0,1,2,3,4] (by decide) rfl)
  refine ⟨L.length - ((j+1)),by omega,?_⟩
  exact ⟨(j+1),q+4+4+(bytesR rc).size,(Ps++[(RcT.mk rc A34_34 c34_34)]),A44_46,c44_46,A49_52,c49_52,by omega,by rw [szF_take hrj,frameR_size hrc,← hq]; omega,by rw [List.map_append,hPs,List.take_succ_eq_append_getElem (List.getElem?_eq_some_iff.1 hrj).1,(List.getElem?_eq_some_iff.1 hrj).2]; rfl,rfl,(by kernel_rfl),hm54.pk [0,1,2,3]⟩
 ·have hqs:q≤s.size:=by rw [hq,hje,List.take_length]; exact hsz
  refine sqr (sqp [.m 14 6] ?_)
  refine sqkm (vi 0) 0 #[.string s,vi ((q:Int)), .bool true] hst12 (fun cx=>⟨_,(num_bad _ s q 4 false _ ⟨(cx.bi 0 rfl),by omega,by omega⟩ (by omega) (.inr (by omega))).mono (by rintro e W1 ⟨rfl,hrd,hu⟩; exact ⟨rfl,hu,hrd.1⟩),(map2 (cx.ou 14) (cx.co _))⟩) fun W56 hst56=>?_
  refine sqp [.m 16 6] ?_
  refine sqkm (vi 0) 0 #[.string s,vi ((q:Int)), .bool true] hst56 (fun cx=>⟨_,(num_bad _ s q 4 true _ ⟨(cx.bi 0 rfl),by omega,by omega⟩ (by omega) (.inl rfl)).mono (by rintro e W1 ⟨rfl,hrd,hu⟩; exact ⟨rfl,hu,hrd.1⟩),(map2 (cx.ou 16) (cx.co _))⟩) fun W58 hst58=>?_
  refine sqp [.m 7 15, .m 8 17] ?_
  refine then_normal (wp_seq (sqr (sqp [.m 18 6, .m 19 7] ?_)))
  refine sqkm (.string ByteArray.empty) 0 #[.string s,vi ((q:Int)), .bool true] hst58 (fun cx=>⟨_,(take_bad _ s q true 0 _ ⟨(cx.bi 0 rfl),by omega,by omega⟩ (.inl rfl)).mono (by rintro e W1 ⟨rfl,hrd,hu⟩; exact ⟨rfl,hu,hrd.1⟩),(map2 (cx.ou 18) (cx.ou 19))⟩) fun W63 hst63=>?_
  refine sqp [.m 9 20] ?_
  refine then_normal (wp_seq (wp_seq (sqr (sqp [.m 21 6] ?_))))
  refine sqv (.bool true) hst63 (by
    refine svA fun ρ β W X cx=>?_
    refine DoesU.call (run_callF (args:=#[vp B13_6]) rfl cx.sees rfl (by kernel_rfl) (map1 (cx.ou 21))) ?_
    refine (failed_any _ s q true _ ⟨(cx.bi 0 rfl),by omega,by omega⟩).mono ?_
    rintro e W1 ⟨rfl,rfl⟩
    refine ⟨_,rfl,post_call [] rfl rfl (Ext.refl _) (by simp) List.Pairwise.nil (fun σ β' X' hs hb hv hN=>?_)⟩
    have hv1:=(hv 22 rfl).1; have hv2:=(hv 22 rfl).2
    exact hv1.trans rfl) fun W66 hst66=>?_
  refine sqp [.k 23 (.bool true)] ?_
  refine sqgn 23 [24,25,26,27,28] rfl rfl ?_
  refine sqp [.k 29 (.bool true)] ?_
  refine then_normal (wct rfl (wp_seq (sqr (sqp [.m 30 4, .m 31 5, .m 2 30, .m 3 31] ?_))))
  refine then_normal (wp_ret (then_ret (blk_ret (then_ret (blk_ret ?_)))))
  refine bpr (.tuple #[.slice LA j lc, .slice EA j ec]) (results_2 Tryz.results39 rpt rpt) ?_
  subst hje; rw [List.take_length] at hPs; exact ⟨_, _, _, _,Ps,hPs,rfl,hst66.pick [1,2,3] (by decide) rfl⟩
 ·have hqs:q≤s.size:=by rw [hq,hje,List.take_length]; exact hsz
  have hn4:=numS_lt4 s q
  refine sqr (sqp [.m 14 6] ?_)
  refine sqkm (vi ((numS s q 4:Int))) 0 #[.string s,vi (((q+4:Nat):Int)), .bool false] hst12 (fun cx=>⟨_,(num_ok _ s q 4 _ ⟨(cx.bi 0 rfl),by omega,by omega⟩ (by omega) (by omega)).mono (by rintro e W1 ⟨rfl,hrd,hu⟩; exact ⟨rfl,hu,hrd.1⟩),(map2 (cx.ou 14) (cx.co _))⟩) fun W74 hst74=>?_
  refine sqp [.m 16 6] ?_
  refine sqkm (vi 0) 0 #[.string s,vi (((q+4:Nat):Int)), .bool true] hst74 (fun cx=>⟨_,(num_bad _ s (q+4) 4 false _ ⟨(cx.bi 0 rfl),by omega,by omega⟩ (by omega) (.inr (by omega))).mono (by rintro e W1 ⟨rfl,hrd,hu⟩; exact ⟨rfl,hu,hrd.1⟩),(map2 (cx.ou 16) (cx.co _))⟩) fun W76 hst76=>?_
  refine sqp [.m 7 15, .m 8 17] ?_
  refine then_normal (wp_seq (sqr (sqp [.m 18 6, .m 19 7] ?_)))
  refine sqkm (.string ByteArray.empty) 0 #[.string s,vi (((q+4:Nat):Int)), .bool true] hst76 (fun cx=>⟨_,(take_bad _ s (q+4) true (numS s q 4:Int) _ ⟨(cx.bi 0 rfl),by omega,by omega⟩ (.inl rfl)).mono (by rintro e W1 ⟨rfl,hrd,hu⟩; exact ⟨rfl,hu,hrd.1⟩),(map2 (cx.ou 18) (cx.ou 19))⟩) fun W81 hst81=>?_
  refine sqp [.m 9 20] ?_
  refine then_normal (wp_seq (wp_seq (sqr (sqp [.m 21 6] ?_))))
  refine sqv (.bool true) hst81 (by
    refine svA fun ρ β W X cx=>?_
    refine DoesU.call (run_callF (args:=#[vp B13_6]) rfl cx.sees rfl (by kernel_rfl) (map1 (cx.ou 21))) ?_
    refine (failed_any _ s (q+4) true _ ⟨(cx.bi 0 rfl),by omega,by omega⟩).mono ?_
    rintro e W1 ⟨rfl,rfl⟩
    refine ⟨_,rfl,post_call [] rfl rfl (Ext.refl _) (by simp) List.Pairwise.nil (fun σ β' X' hs hb hv hN=>?_)⟩
    have hv1:=(hv 22 rfl).1; have hv2:=(hv 22 rfl).2
    exact hv1.trans rfl) fun W84 hst84=>?_
  refine sqp [.k 23 (.bool true)] ?_
  refine sqgn 23 [24,25,26,27,28] rfl rfl ?_
  refine sqp [.k 29 (.bool true)] ?_
  refine then_normal (wct rfl (wp_seq (sqr (sqp [.m 30 4, .m 31 5, .m 2 30, .m 3 31] ?_))))
  refine then_normal (wp_ret (then_ret (blk_ret (then_ret (blk_ret ?_)))))
  refine bpr (.tuple #[.slice LA j lc, .slice EA j ec]) (results_2 Tryz.results39 rpt rpt) ?_
  subst hje; rw [List.take_length] at hPs; exact ⟨_, _, _, _,Ps,hPs,rfl,hst84.pick [1,2,3] (by decide) rfl⟩
 ·have hqs:q≤s.size:=by rw [hq,hje,List.take_length]; exact hsz
  have hn4:=numS_lt4 s q
  have hn5:=numS_lt4 s (q+4)
  refine sqr (sqp [.m 14 6] ?_)
  refine sqkm (vi ((numS s q 4:Int))) 0 #[.string s,vi (((q+4:Nat):Int)), .bool false] hst12 (fun cx=>⟨_,(num_ok _ s q 4 _ ⟨(cx.bi 0 rfl),by omega,by omega⟩ (by omega) (by omega)).mono (by rintro e W1 ⟨rfl,hrd,hu⟩; exact ⟨rfl,hu,hrd.1⟩),(map2 (cx.ou 14) (cx.co _))⟩) fun W92 hst92=>?_
  refine sqp [.m 16 6] ?_
  refine sqkm (vi ((numS s (q+4) 4:Int))) 0 #[.string s,vi (((q+4+4:Nat):Int)), .bool false] hst92 (fun cx=>⟨_,(num_ok _ s (q+4) 4 _ ⟨(cx.bi 0 rfl),by omega,by omega⟩ (by omega) (by omega)).mono (by rintro e W1 ⟨rfl,hrd,hu⟩; exact ⟨rfl,hu,hrd.1⟩),(map2 (cx.ou 16) (cx.co _))⟩) fun W94 hst94=>?_
  refine sqp [.m 7 15, .m 8 17] ?_
  refine then_normal (wp_seq (sqr (sqp [.m 18 6, .m 19 7] ?_)))
  refine sqkm (.string ByteArray.empty) 0 #[.string s,vi (((q+4+4:Nat):Int)), .bool true] hst94 (fun cx=>⟨_,(take_bad _ s (q+4+4) false (numS s q 4:Int) _ ⟨(cx.bi 0 rfl),by omega,by omega⟩ (.inr (.inr (by omega)))).mono (by rintro e W1 ⟨rfl,hrd,hu⟩; exact ⟨rfl,hu,hrd.1⟩),(map2 (cx.ou 18) (cx.ou 19))⟩) fun W99 hst99=>?_
  refine sqp [.m 9 20] ?_
  refine then_normal (wp_seq (wp_seq (sqr (sqp [.m 21 6] ?_))))
  refine sqv (.bool true) hst99 (by
    refine svA fun ρ β W X cx=>?_
    refine DoesU.call (run_callF (args:=#[vp B13_6]) rfl cx.sees rfl (by kernel_rfl) (map1 (cx.ou 21))) ?_
    refine (failed_any _ s (q+4+4) true _ ⟨(cx.bi 0 rfl),by omega,by omega⟩).mono ?_
    rintro e W1 ⟨rfl,rfl⟩
    refine ⟨_,rfl,post_call [] rfl rfl (Ext.refl _) (by simp) List.Pairwise.nil (fun σ β' X' hs hb hv hN=>?_)⟩
    have hv1:=(hv 22 rfl).1; have hv2:=(hv 22 rfl).2
    exact hv1.trans rfl) fun W102 hst102=>?_
  refine sqp [.k 23 (.bool true)] ?_
  refine sqgn 23 [24,25,26,27,28] rfl rfl ?_
  refine sqp [.k 29 (.bool true)] ?_
  refine then_normal (wct rfl (wp_seq (sqr (sqp [.m 30 4, .m 31 5, .m 2 30, .m 3 31] ?_))))
  refine then_normal (wp_ret (then_ret (blk_ret (then_ret (blk_ret ?_)))))
  refine bpr (.tuple #[.slice LA j lc, .slice EA j ec]) (results_2 Tryz.results39 rpt rpt) ?_
  subst hje; rw [List.take_length] at hPs; exact ⟨_, _, _, _,Ps,hPs,rfl,hst102.pick [1,2,3] (by decide) rfl⟩
end
section
open Go.RowKit
theorem madeCells_cons (z:Array Value) (hz:0 < z.size) (n:Nat):(madeCells z ((n+1)*z.size)).toList=z.toList++(madeCells z (n*z.size)).toList:=by
 apply List.ext_getElem?
 intro j
 have e:∀ m j,(madeCells z m).toList[j]? =if j < m then some (z[j % z.size]!) else none:=fun m j=>by
  by_cases h:j < m
  ·rw [if_pos h]; simp [madeCells,h]
  ·rw [if_neg h]; simp [madeCells,h]
 have hm:(n+1)*z.size=z.size+n*z.size:=by rw [Nat.add_mul]; omega
 rw [e,hm]
 by_cases h:j < z.size
 ·rw [if_pos (by omega),List.getElem?_append_left (by simpa using h),Nat.mod_eq_of_lt h]
  simp [h]
 ·rw [List.getElem?_append_right (by simpa using h),Array.length_toList,e]
  by_cases h2:j < z.size+n*z.size
  ·rw [if_pos h2,if_pos (by omega),Nat.mod_eq_sub_mod (by omega)]
  ·rw [if_neg h2,if_neg (by omega)]
theorem madeCells_flat {T:Type} (f:T→List Value) (t:T) (z:Array Value) (hz:z.toList=f t) (h0:0 < z.size) (n:Nat):(madeCells z (n*z.size)).toList=(List.replicate n t).flatMap f:=by
 induction n with
 | zero=>
   rw [Nat.zero_mul]
   have:(madeCells z 0).toList.length=0:=by rw [Array.length_toList,size_madeCells]
   rw [List.eq_nil_of_length_eq_zero this]; rfl
 | succ n ih=>rw [madeCells_cons z h0,ih,List.replicate_succ,List.flatMap_cons,hz]
section
variable {P:Program} {ops:Array Oper} {L:List Nat} {a0:Act} {w0:World} {bor:List Nat} {X0:List Ent} {us cr kl:List (List Nat)}
 {D:Nat→(Tmp→Value)→(Tmp→Value)→(Nat→Ent)→Prop} {i:Nat} {o:Oper} {ρ:Operand→Value} {β:Tmp→Value} {W:World} {X:Nat→Ent}
theorem dv_makeN {t e:TypeId} {x y:Operand} {k k':IntKind} {n sz:Nat} {j j':Int} {d:Tmp} {q:Nat} {inf:TypeInfo} {z:Value} {bytes:Nat} {xs:List Value} (h:o.op= .makeSlice t x y) (ht:P.underlying t=some (.slice e)) (hi:P.info? e=some inf) (hz:inf.zero=some z) (hsize:inf.size=sz) (hby:inf.bytes=bytes)
  (hx:ρ x= .int k j) (hy:ρ y= .int k' j') (hj:j=(n:Int)) (hj':j'=(n:Int)) (hn:n*sz≤16777216) (hb:bytes*n≤281474976710656) (hml:n≤maxLen) (hxs:(madeCells z.cells (n*sz)).toList=xs) (hd:o.dst=some d) (hc:atV cr i=[q])
  (hD:∀ (σ β':Tmp→Value) (X':Nat→Ent),(∀ t,t≠d→σ t=ρ (.tmp t))→(∀ t,t≠d→β' t=β t)→σ d= .slice (sA (β' d)) n n→X' q=eO e sz (.slice (sA (β' d)) n n) n xs→D i σ β' X'):
  DoesU P o ρ W (PostV cr kl D i o.dst ρ β W X):=by
 subst hj; subst hj'; subst hby; subst hsize; subst hxs
 obtain ⟨W',hrun,ho,hg⟩:=run_makeSlice_full (P:=P) W W.heap.size t e inf z inf.size ht hi hz rfl k k' n hn hb hml (Nat.le_refl _)
 have hr:(execOp ρ o).run P W= .ok (.value (.slice (some ⟨W.heap.size,0,none⟩) n n)) W':=by
  unfold execOp; rw [h]
  simp only [hx,hy,Sem.run_bind,hrun,Result.andThen_ok,Sem.run_pure]
 refine DoesU.value hr ⟨[eO e inf.size (.slice (some ⟨W.heap.size,0,none⟩) n n) n (madeCells z.cells (n*inf.size)).toList],by rw [hc]; rfl,⟨(Upd.refl _ W).grown hg (fun k hk=>by cases hk),fun e' he=>?_,List.pairwise_singleton _ _⟩,fun σ β' X' hs' hv hb hbv hx' hN=>hD σ β' X' (fun t ht=>hs' t (by rw [hd]; simpa using ht.symm)) (fun t ht=>hb t (by rw [hd]; simpa using ht.symm)) ?_ ?_⟩
 ·rw [List.mem_singleton] at he
  subst he
  obtain ⟨h1,h2,h3⟩:=eO_new ho
  exact ⟨h1,h2,fun k hk=>⟨.inr (h3 k hk).1,(h3 k hk).2⟩⟩
 ·rw [hv d hd,hbv d hd]; rfl
 ·rw [hbv d hd]
  rw [hc] at hN
  exact (List.cons.inj hN).1
end
theorem CtxV.holdF {ops:Array Oper} {L:List Nat} {a0:Act} {w0:World} {bor:List Nat} {X0:List Ent} {us:List (List Nat)} {D:Nat→(Tmp→Value)→(Tmp→Value)→(Nat→Ent)→Prop} {i:Nat} {ρ:Operand→Value} {β:Tmp→Value} {W:World} {X:Nat→Ent} {q:Nat} {E:Ent} (cx:CtxV ops L a0 w0 bor X0 us D i ρ β W X) (hX:X q=E) (hu:(atV us i).contains q=true):E.holds W:=by
 have h:=(cx.ok q hu).holds
 rw [hX] at h; exact h
theorem CtxV.ltF {ops:Array Oper} {L:List Nat} {a0:Act} {w0:World} {bor:List Nat} {X0:List Ent} {us:List (List Nat)} {D:Nat→(Tmp→Value)→(Tmp→Value)→(Nat→Ent)→Prop} {i:Nat} {ρ:Operand→Value} {β:Tmp→Value} {W:World} {X:Nat→Ent} {q:Nat} {E:Ent} (cx:CtxV ops L a0 w0 bor X0 us D i ρ β W X) (hX:X q=E) (hu:(atV us i).contains q=true):∀ k∈E.fp,k < W.heap.size:=fun k hk=>by
 subst hX; exact ((cx.ok q hu).own k hk).2
theorem CtxV.keepF {ops:Array Oper} {L:List Nat} {a0:Act} {w0:World} {bor:List Nat} {X0:List Ent} {us:List (List Nat)} {D:Nat→(Tmp→Value)→(Tmp→Value)→(Nat→Ent)→Prop} {i:Nat} {ρ:Operand→Value} {β:Tmp→Value} {W:World} {X:Nat→Ent} {q q':Nat} {E F:Ent} (cx:CtxV ops L a0 w0 bor X0 us D i ρ β W X) (hX:X q=E) (hX':X q'=F) (hu:(atV us i).contains q=true) (hu':(atV us i).contains q'=true) (hne:q≠q'):∀ W',Upd F.fp W W'→E.holds W':=fun W' hU=>by
 subst hX hX'
 have h1:=cx.ok q hu
 exact h1.loc W W' (fun k hk=>hU.block k (h1.own k hk).2 (cx.ap q q' hu hu' hne k hk)) h1.holds
theorem St.pack {w0 W:World} {bor:List Nat} {L S:List Ent} {E:Ent} (h:St w0 bor (L++S) W) (hfp:E.fp=S.flatMap (·.fp)) (hh:E.holds W) (hl:E.loc):St w0 bor (L++[E]) W:=by
 have hin:∀ k,k∈E.fp→∃ e∈S,k∈e.fp:=fun k hk=>by rw [hfp] at hk; exact List.mem_flatMap.1 hk
 refine ⟨h.upd,fun x hx=>?_,?_⟩
 ·rcases List.mem_append.1 hx with hx | hx
  ·exact h.ok x (List.mem_append_left _ hx)
  ·rw [List.mem_singleton] at hx
   subst hx
   exact ⟨hh,hl,fun k hk=>let ⟨e,he,hke⟩:=hin k hk; (h.ok e (List.mem_append_right _ he)).own k hke⟩
 ·have ha:=h.apart
  rw [List.pairwise_append] at ha ⊢
  refine ⟨ha.1,List.pairwise_singleton _ _,fun a ha' b hb k hk hkb=>?_⟩
  rw [List.mem_singleton] at hb
  subst hb
  obtain ⟨e,he,hke⟩:=hin k hkb
  exact ha.2.2 a ha' e he k hk hke
theorem St.unpack {w0 W:World} {bor:List Nat} {S:List Ent} {E:Ent} (h:St w0 bor [E] W) (hfp:E.fp=S.flatMap (·.fp)) (hS:∀ e∈S,e.holds W∧e.loc) (ha:S.Pairwise Ent.apart):St w0 bor S W:=
 ⟨h.upd,fun x hx=>⟨(hS x hx).1,(hS x hx).2,fun k hk=>(h.ok E (List.mem_singleton.2 rfl)).own k (by rw [hfp]; exact List.mem_flatMap.2 ⟨x,hx,hk⟩)⟩,ha⟩
theorem CtxV.keepAt {ops:Array Oper} {L:List Nat} {a0:Act} {w0:World} {bor:List Nat} {X0:List Ent} {us:List (List Nat)} {D:Nat→(Tmp→Value)→(Tmp→Value)→(Nat→Ent)→Prop} {i:Nat} {ρ:Operand→Value} {β:Tmp→Value} {W:World} {X:Nat→Ent} {q q' e sz n m c:Nat} {A:Option Addr} {xs:List Value} {F:Ent} (cx:CtxV ops L a0 w0 bor X0 us D i ρ β W X) (hX:X q=eO e sz (.slice A n c) m xs) (hX':X q'=F) (hu:(atV us i).contains q=true) (hu':(atV us i).contains q'=true) (hne:q≠q'):∀ W',Upd F.fp W W'→At W' A xs:=fun W' hU=>
 At.of_ownN (cx.keepF hX hX' hu hu' hne W' hU)
end
section
open Go.RowKit
/-- all of R, apart from each other -/
def eA (R:List Ent):Ent:=⟨R.flatMap (·.fp),fun W=>(∀ e∈R,e.holds W∧e.loc)∧R.Pairwise Ent.apart⟩
theorem eA_loc (R:List Ent):(eA R).loc:=fun W W' hk h=>
 ⟨fun e he=>⟨(h.1 e he).2 W W' (fun k hk'=>hk k (List.mem_flatMap.2 ⟨e,he,hk'⟩)) (h.1 e he).1,(h.1 e he).2⟩,h.2⟩
theorem St.unpackL {w0 W:World} {bor:List Nat} {L S:List Ent} {E:Ent} (h:St w0 bor (L++[E]) W) (hfp:E.fp=S.flatMap (·.fp)) (hS:∀ e∈S,e.holds W∧e.loc) (ha:S.Pairwise Ent.apart):St w0 bor (L++S) W:=by
 refine ⟨h.upd,fun x hx=>?_,?_⟩
 ·rcases List.mem_append.1 hx with hx | hx
  ·exact h.ok x (List.mem_append_left _ hx)
  ·exact ⟨(hS x hx).1,(hS x hx).2,fun k hk=>(h.ok E (by simp)).own k (by rw [hfp]; exact List.mem_flatMap.2 ⟨x,hx,hk⟩)⟩
 ·have h1:=List.pairwise_append.1 h.apart
  refine List.pairwise_append.2 ⟨h1.1,ha,fun a ha' b hb k hk hkb=>?_⟩
  exact h1.2.2 a ha' E (by simp) k hk (by rw [hfp]; exact List.mem_flatMap.2 ⟨b,hb,hkb⟩)
theorem St.packA {w0 W:World} {bor:List Nat} {L R:List Ent} (h:St w0 bor (L++R) W):St w0 bor (L++[eA R]) W:=
 St.pack h rfl ⟨fun e he=>have h1:=h.ok e (List.mem_append_right _ he); ⟨h1.holds,h1.loc⟩,(List.pairwise_append.1 h.apart).2.1⟩ (eA_loc R)
theorem St.unpackA {w0 W:World} {bor:List Nat} {L R:List Ent} (h:St w0 bor (L++[eA R]) W):St w0 bor (L++R) W:=by
 have h1:=(h.ok (eA R) (by simp)).holds
 exact h.unpackL rfl h1.1 h1.2
/-- one of the family taken out -/
theorem St.outA {w0 W:World} {bor:List Nat} {L A B:List Ent} {e:Ent} (h:St w0 bor (L++[eA (A++e::B)]) W):St w0 bor (L++[eA (A++B),e]) W:=by
 have h1:St w0 bor (L++[e]++(A++B)) W:=h.unpackA.perm (by
  rw [List.append_assoc]
  refine List.Perm.append_left L ?_
  exact List.perm_middle)
 have h2:=h1.packA
 exact h2.perm (by
  rw [List.append_assoc]
  exact List.Perm.append_left L (List.Perm.swap ..))
theorem St.inA {w0 W:World} {bor:List Nat} {L A B:List Ent} {e:Ent} (h:St w0 bor (L++[eA (A++B),e]) W):St w0 bor (L++[eA (A++e::B)]) W:=by
 have h1:St w0 bor (L++[e]++[eA (A++B)]) W:=h.perm (by
  rw [List.append_assoc]
  exact List.Perm.append_left L (List.Perm.swap ..))
 have h2:St w0 bor (L++(A++e::B)) W:=h1.unpackA.perm (by
  rw [List.append_assoc]
  exact List.Perm.append_left L (List.perm_middle (a:=e) (l₁:=A) (l₂:=B)).symm)
 exact h2.packA
/-- entries without blocks that hold anyhow -/
theorem St.addE {w0 W:World} {bor:List Nat} {L R:List Ent} (h:St w0 bor L W) (hR:∀ e∈R,e.fp=[]∧e.holds W∧e.loc):St w0 bor (L++R) W:=by
 refine ⟨h.upd,fun x hx=>?_,?_⟩
 ·rcases List.mem_append.1 hx with hx | hx
  ·exact h.ok x hx
  ·have h1:=hR x hx
   exact ⟨h1.2.1,h1.2.2,fun k hk=>by rw [h1.1] at hk; cases hk⟩
 ·refine List.pairwise_append.2 ⟨h.apart,?_,fun a _ b hb k _ hkb=>by rw [(hR b hb).1] at hkb; cases hkb⟩
  exact List.pairwise_of_forall_mem_list fun a ha b hb k hk=>by rw [(hR a ha).1] at hk; cases hk
end
section
open Go.RowKit
/-- a string of a page's length -/
abbrev H5:={s:ByteArray // s.size=512}
/-- a sheet: what is safe, what is written -/
structure ShD where
 safe:H5
 ws:List H5
structure DkM where
 pgs:List ShD
 log:ByteArray
 fl:Nat
 off:Bool
 armed:Bool
 left:Int
/-- a sheet in memory: its writes lie at A -/
structure ShT where
 s:H5
 A:Option Addr
 c:Nat
 ws:List H5
def shAb (t:ShT):ShD:=⟨t.s,t.ws⟩
def nums (s:ByteArray):List Int:=(bl s).map fun c=>(c.toNat:Int)
theorem nums_len (s:ByteArray):(nums s).length=s.size:=by rw [nums,List.length_map,bl_len]
theorem nums_app (a b:ByteArray):nums (a++b)=nums a++nums b:=by rw [nums,bl_append,List.map_append]; rfl
theorem nums_cells (s:ByteArray):Lib.strCells s=(nums s).map (Value.int .u8):=by rw [nums,List.map_map]; rfl
theorem nums_str (s:ByteArray):strOfNums (nums s)=s:=by
 apply bl_inj
 show (strOfNums (nums s)).data.toList=bl s
 rw [strOfNums_data,nums,List.map_map]
 have:(fun x:Int=>UInt8.ofNat x.toNat) ∘ (fun c:UInt8=>(c.toNat:Int))=id:=by funext c; simp
 first
  | rw [this,List.map_id]
  | (conv=>rhs; rw [← List.map_id (bl s)]
     apply List.map_congr_left
     intro c _
     simp)
def hvC (h:H5):List Value:=(nums h.1).map (Value.int .u8)
theorem hvC_len (h:H5):(hvC h).length=512:=by rw [hvC,List.length_map,nums_len,h.2]
def shC (t:ShT):List Value:=hvC t.s++[.slice t.A t.ws.length t.c]
theorem shC_len (t:ShT):(shC t).length=513:=by rw [shC,List.length_append,hvC_len]; rfl
def entW (t:ShT):Ent:=eO 142 512 (.slice t.A t.ws.length t.c) t.ws.length (t.ws.flatMap hvC)
def eWs (Qs:List ShT):Ent:=eA (Qs.map entW)
theorem eWs_at {Qs:List ShT} {W:World} (h:(eWs Qs).holds W) {t:ShT} (ht:t∈Qs):At W t.A (t.ws.flatMap hvC):=At.of_ownN (h.1 (entW t) (List.mem_map.2 ⟨_,ht,rfl⟩)).1
def dkC (D:DkM) (PA:Option Addr) (Pc:Nat) (GA:Option Addr) (gc:Nat):Array Value:=#[.slice PA D.pgs.length Pc, .slice GA D.log.size gc, .int .i64 (D.fl:Int), .bool D.off, .bool D.armed, .int .i64 D.left]
def dkL (b:Nat) (D:DkM) (PA:Option Addr) (Pc:Nat) (GA:Option Addr) (gc:Nat) (Ps Qs:List ShT):List Ent:=
 [eB b 100 (dkC D PA Pc GA gc),eO 144 513 (.slice PA D.pgs.length Pc) D.pgs.length (Ps.flatMap shC),eO 5 1 (.slice GA D.log.size gc) D.log.size ((nums D.log).map (Value.int .u8)),eWs Qs]
/-- a disk -/
def eDk (b:Nat) (D:DkM) (fp:List Nat):Ent:=⟨fp,fun W=>∃ PA Pc GA gc Ps Qs,Ps.map shAb=D.pgs∧Qs=Ps∧fp=(dkL b D PA Pc GA gc Ps Qs).flatMap (·.fp)∧(dkL b D PA Pc GA gc Ps Qs).Pairwise Ent.apart∧∀ e∈dkL b D PA Pc GA gc Ps Qs,e.holds W∧e.loc⟩
theorem eDk_loc (b:Nat) (D:DkM) (fp:List Nat):(eDk b D fp).loc:=fun W W' hk h=>by
 obtain ⟨PA,Pc,GA,gc,Ps,Qs,h1,h2,h3,h4,h5⟩:=h
 exact ⟨PA,Pc,GA,gc,Ps,Qs,h1,h2,h3,h4,fun e he=>⟨(h5 e he).2 W W' (fun k hk'=>hk k (by rw [eDk,h3]; exact List.mem_flatMap.2 ⟨e,he,hk'⟩)) (h5 e he).1,(h5 e he).2⟩⟩
theorem eDk_self {e:Ent} {b:Nat} {D:DkM} {fp:List Nat} (h:e=eDk b D fp):e=eDk b D e.fp:=by subst h; rfl
theorem St.dk {w0 W:World} {bor:List Nat} {L:List Ent} {b:Nat} {D:DkM} {PA:Option Addr} {Pc:Nat} {GA:Option Addr} {gc:Nat} {Ps Qs:List ShT} (h:St w0 bor (L++dkL b D PA Pc GA gc Ps Qs) W) (h1:Ps.map shAb=D.pgs) (h2:Qs=Ps):∃ fp,St w0 bor (L++[eDk b D fp]) W:=by
 refine ⟨_,St.pack (E:=eDk b D ((dkL b D PA Pc GA gc Ps Qs).flatMap (·.fp))) h rfl ⟨PA,Pc,GA,gc,Ps,Qs,h1,h2,rfl,(List.pairwise_append.1 h.apart).2.1,fun e he=>?_⟩ (eDk_loc _ _ _)⟩
 have h3:=h.ok e (List.mem_append_right _ he)
 exact ⟨h3.holds,h3.loc⟩
/-- the log's row: an address of a whole block, or none -/
def LogAt (W:World) (A:Option Addr) (s:ByteArray):Prop:=(A=none∧s=⟨#[]⟩)∨∃ g,A=some ⟨g,0,none⟩∧g < W.heap.size∧At W A ((nums s).map (Value.int .u8))
/-- a disk that is only read -/
structure DkO (W:World) (b:Nat) (D:DkM) (PA:Option Addr) (Pc:Nat) (GA:Option Addr) (gc:Nat) (Ps:List ShT):Prop where
 blk:Blk W b 100 (dkC D PA Pc GA gc)
 at_:At W PA (Ps.flatMap shC)
 ab:Ps.map shAb=D.pgs
 log:LogAt W GA D.log
 ws:∀ p∈Ps,At W p.A (p.ws.flatMap hvC)
def DkAt (W:World) (b:Nat) (D:DkM):Prop:=∃ PA Pc GA gc Ps,DkO W b D PA Pc GA gc Ps
theorem LogAt.ext {W W':World} {A:Option Addr} {s:ByteArray} (h:LogAt W A s) (hx:Ext W W'):LogAt W' A s:=h.imp id fun ⟨g,h1,h2,h3⟩=>⟨g,h1,Nat.lt_of_lt_of_le h2 hx.size,h3.ext hx⟩
theorem DkO.ext {W W':World} {b:Nat} {D:DkM} {PA:Option Addr} {Pc:Nat} {GA:Option Addr} {gc:Nat} {Ps:List ShT} (h:DkO W b D PA Pc GA gc Ps) (hx:Ext W W'):DkO W' b D PA Pc GA gc Ps:=⟨h.blk.ext hx,h.at_.ext hx,h.ab,h.log.ext hx,fun p hp=>(h.ws p hp).ext hx⟩
theorem LogAt.own {W:World} {A:Option Addr} {c:Nat} {s:ByteArray} {base:Nat} {e:TypeId} (h:W.ownsRow base e 1 (.slice A s.size c) s.size ((nums s).map (Value.int .u8))):LogAt W A s:=by
 have hlt:=h.lt
 rcases h.2 with ⟨hv,h0⟩ | ⟨g,cap,cur,hv, _⟩
 ·injection hv with h1 h2 h3
  refine .inl ⟨h1,bl_inj ?_⟩
  have:(bl s).length=0:=by rw [bl_len]; omega
  rw [List.eq_nil_of_length_eq_zero this]; rfl
 ·injection hv with h1 h2 h3
  exact .inr ⟨g,h1,(hlt g (by rw [h1]; rfl)).2,At.of_own h⟩
theorem eDk_at {b:Nat} {D:DkM} {fp:List Nat} {W:World} (h:(eDk b D fp).holds W):DkAt W b D:=by
 obtain ⟨PA,Pc,GA,gc,Ps,Qs,h1,h2,h3,h4,h5⟩:=h
 refine ⟨PA,Pc,GA,gc,Ps,(h5 (eB b 100 (dkC D PA Pc GA gc)) (List.mem_cons_self ..)).1,?_,h1,?_,fun p hp=>eWs_at (h5 (eWs Qs) (by simp [dkL])).1 (by rw [h2]; exact hp)⟩
 ·exact At.of_ownN (h5 (eO 144 513 (.slice PA D.pgs.length Pc) D.pgs.length (Ps.flatMap shC)) (by simp [dkL])).1
 ·exact LogAt.own (h5 (eO 5 1 (.slice GA D.log.size gc) D.log.size ((nums D.log).map (Value.int .u8))) (by simp [dkL])).1
section
variable {P:Program} {o:Oper} {ρ:Operand→Value} {W:World}
/-- string([]byte) of the log -/
theorem run_convLog {t t' e:TypeId} {x:Operand} {A:Option Addr} {c:Nat} {s:ByteArray} (h:o.op= .convert t t' x) (ht:P.underlying t=some (.slice e)) (he:P.underlying e=some (.int .u8)) (ht':P.underlying t'=some .string)
  (hx:ρ x= .slice A s.size c) (hA:LogAt W A s):(execOp ρ o).run P W= .ok (.value (.string s)) W:=by
 have hr:(convert t t' (.slice A s.size c)).run P W= .ok (.string s) W:=by
  rcases hA with ⟨rfl,rfl⟩ | ⟨g,rfl,hg,hA⟩
  ·exact run_convert_bytes_nil W t e ht he _ c t' ht'
  ·have h1:=run_convert_bytes_arg W t e ht he g 0 s.size c (nums s) (nums_len s) (fun i hi=>?_) t' ht'
   ·rw [nums_str] at h1; exact h1
   ·obtain ⟨ad,a1,a2,a3⟩:=hA i (.int .u8 ((nums s).getD i 0)) (by
     rw [List.getElem?_map,List.getD_eq_getElem?_getD,List.getElem?_eq_getElem (by rw [nums_len]; exact hi)]; rfl)
    injection a1 with a1
    subst a1
    have e2:(⟨g,0+i,none⟩:Addr)=(⟨g,0,none⟩:Addr).add i:=by simp [Addr.add]
    rw [e2]; exact a3
 unfold execOp; rw [h]
 simp only [hx,Sem.run_bind,hr,Result.andThen_ok,Sem.run_pure]
end
end
section
open Go.RowKit
theorem DkO.blkL {W:World} {b:Nat} {D:DkM} {PA:Option Addr} {Pc:Nat} {GA:Option Addr} {gc:Nat} {Ps:List ShT} (h:DkO W b D PA Pc GA gc Ps):Blk W b 100 #[.slice PA D.pgs.length Pc, .slice GA D.log.size gc, .int .i64 (D.fl:Int), .bool D.off, .bool D.armed, .int .i64 D.left]:=h.blk
theorem kon_o (b:Nat) (D:DkM) (PA:Option Addr) (Pc:Nat) (GA:Option Addr) (gc:Nat) (Ps:List ShT) (w:World) (hB:DkO w b D PA Pc GA gc Ps):
  Calls Tryz.prog 59 #[.pointer (some ⟨b,0,none⟩)] w (Ret (.bool (!D.off)) w):=by
 go_enter Tryz.func59,Tryz.ntmps59
 have hst0:=St.start w
 refine wp_seq (sqr (sqp [.k 2 (.bool false)] ?_))
 refine then_normal (wp_seq (sqr (sqp [.m 3 0] ?_)))
 refine sqv (.bool true) hst0 (by
   exact sv0 rfl rfl rfl rfl rfl (fun _ _ _ h=>h) fun ρ β W X cx=>by
    have fF3:ρ (.tmp 3)=vp b:=(cx.ou 3)
    simp [go_sem,cx.sees.const,fF3]) fun W3 hst3=>?_
 refine sqp [.k 5 (.bool true)] ?_
 refine sqgy 5 [6,7,8,9,10] rfl rfl ?_
 refine sqp [.m 6 0, .k 7 (vp b), .k 8 (.pointer (some ⟨b,3,none⟩))] ?_
 refine sql (.bool D.off) hst3 (fun cx=>run_load1 rfl (by kernel_rfl) (cx.ou 8) ((Blk.ext hB.blkL cx.upd.to_ext).cell 3)) ?_
 refine sqp [.k 10 (.bool (!(D.off)))] ?_
 refine sqp [.k 11 (.bool (!(D.off))), .m 2 11] ?_
 refine then_normal (wp_ret ?_)
 refine bpr (.bool (!(D.off))) (results_1 Tryz.results59 rpt) ?_
 exact Ret.bool (by simp) hst3.ext
theorem kis_o (b:Nat) (D:DkM) (PA:Option Addr) (Pc:Nat) (GA:Option Addr) (gc:Nat) (Ps:List ShT) (n:Int) (w:World) (hB:DkO w b D PA Pc GA gc Ps):
  Calls Tryz.prog 87 #[.pointer (some ⟨b,0,none⟩), .int .i64 n] w (Ret (.bool (decide (0≤n)&&decide (n < (D.pgs.length:Int)))) w):=by
 go_enter Tryz.func87,Tryz.ntmps87
 have hst0:=St.start w
 refine wp_seq (sqr (sqp [.k 4 (.bool false)] ?_))
 refine then_normal (wp_seq (sqr (sqp [.m 5 0] ?_)))
 refine sqv (.bool true) hst0 (by
   exact sv0 rfl rfl rfl rfl rfl (fun _ _ _ h=>h) fun ρ β W X cx=>by
    have fF5:ρ (.tmp 5)=vp b:=(cx.ou 5)
    simp [go_sem,cx.sees.const,fF5]) fun W3 hst3=>?_
 refine sqp [.k 7 (.bool true)] ?_
 refine sqgy 7 [8,9] rfl rfl ?_
 refine sqp [.m 8 1, .k 9 (.bool (decide (0≤n)))] ?_
 refine sqp [.k 10 (.bool (decide (0≤n))), .m 11 10] ?_
 refine sqw' 11 [12,13,14,15,16,17,18] ?_ rfl (fun hq=>?_) ?_
 rotate_left
 ·refine sqp [.m 12 1, .m 13 0, .k 14 (vp b), .k 15 (vp b)] ?_
  refine sql (.slice PA D.pgs.length Pc) hst3 (fun cx=>run_load1 rfl (by kernel_rfl) (cx.ou 15) ((Blk.ext hB.blkL cx.upd.to_ext).cell 0)) ?_
  refine sqp [.k 17 (vi ((D.pgs.length:Int))), .k 18 (.bool (decide (n < (D.pgs.length:Int))))] ?_
  exact sqe
 refine sqwx ?_
 refine sqp [sPa 19 (decide (0≤n)) (decide (n < (D.pgs.length:Int))), .m 4 19] ?_
 refine then_normal (wp_ret ?_)
 refine bpr (.bool ((decide (0≤n))&&(decide (n < (D.pgs.length:Int))))) (results_1 Tryz.results87 rpt) ?_
 exact Ret.bool (by simp) hst3.ext
theorem kpages_o (b:Nat) (D:DkM) (PA:Option Addr) (Pc:Nat) (GA:Option Addr) (gc:Nat) (Ps:List ShT) (w:World) (hB:DkO w b D PA Pc GA gc Ps):
  Calls Tryz.prog 66 #[.pointer (some ⟨b,0,none⟩)] w (Ret (.int .i64 (D.pgs.length:Int)) w):=by
 go_enter Tryz.func66,Tryz.ntmps66
 have hst0:=St.start w
 refine wp_seq (sqr (sqp [.k 2 (vi 0)] ?_))
 refine then_normal (wp_seq (wp_seq (sqr (sqp [.m 3 0] ?_))))
 refine sqv (.bool false) hst0 (by
   exact sv0 rfl rfl rfl rfl rfl (fun _ _ _ h=>h) fun ρ β W X cx=>by
    have fF3:ρ (.tmp 3)=vp b:=(cx.ou 3)
    simp [go_sem,cx.sees.const,fF3]) fun W3 hst3=>?_
 refine then_normal (wcf rfl (wp_skip (then_normal (wp_seq (sqr (sqp [.m 5 0, .k 6 (vp b), .k 7 (vp b)] ?_))))))
 refine sql (.slice PA D.pgs.length Pc) hst3 (fun cx=>run_load1 rfl (by kernel_rfl) (cx.ou 7) ((Blk.ext hB.blkL cx.upd.to_ext).cell 0)) ?_
 refine sqp [.k 9 (vi ((D.pgs.length:Int))), .m 2 9] ?_
 refine then_normal (wp_ret ?_)
 refine bpr (vi ((D.pgs.length:Int))) (results_1 Tryz.results66 rpt) ?_
 exact Ret.of rfl hst3.ext
theorem kflushed_o (b:Nat) (D:DkM) (PA:Option Addr) (Pc:Nat) (GA:Option Addr) (gc:Nat) (Ps:List ShT) (w:World) (hB:DkO w b D PA Pc GA gc Ps):
  Calls Tryz.prog 68 #[.pointer (some ⟨b,0,none⟩)] w (Ret (.int .i64 (D.fl:Int)) w):=by
 go_enter Tryz.func68,Tryz.ntmps68
 have hst0:=St.start w
 refine wp_seq (sqr (sqp [.k 2 (vi 0)] ?_))
 refine then_normal (wp_seq (wp_seq (sqr (sqp [.m 3 0] ?_))))
 refine sqv (.bool false) hst0 (by
   exact sv0 rfl rfl rfl rfl rfl (fun _ _ _ h=>h) fun ρ β W X cx=>by
    have fF3:ρ (.tmp 3)=vp b:=(cx.ou 3)
    simp [go_sem,cx.sees.const,fF3]) fun W3 hst3=>?_
 refine then_normal (wcf rfl (wp_skip (then_normal (wp_seq (sqr (sqp [.m 5 0, .k 6 (vp b), .k 7 (.pointer (some ⟨b,2,none⟩))] ?_))))))
 refine sql (vi ((D.fl:Int))) hst3 (fun cx=>run_load1 rfl (by kernel_rfl) (cx.ou 7) ((Blk.ext hB.blkL cx.upd.to_ext).cell 2)) ?_
 refine sqp [.m 2 8] ?_
 refine then_normal (wp_ret ?_)
 refine bpr (vi ((D.fl:Int))) (results_1 Tryz.results68 rpt) ?_
 exact Ret.of rfl hst3.ext
theorem klog_o (b:Nat) (D:DkM) (PA:Option Addr) (Pc:Nat) (GA:Option Addr) (gc:Nat) (Ps:List ShT) (w:World) (hB:DkO w b D PA Pc GA gc Ps):
  Calls Tryz.prog 15 #[.pointer (some ⟨b,0,none⟩)] w (Ret (.string D.log) w):=by
 go_enter Tryz.func15,Tryz.ntmps15
 have hst0:=St.start w
 refine wp_seq (sqr (sqp [.k 2 (.string ⟨#[]⟩)] ?_))
 refine then_normal (wp_seq (wp_seq (sqr (sqp [.m 3 0] ?_))))
 refine sqv (.bool false) hst0 (by
   exact sv0 rfl rfl rfl rfl rfl (fun _ _ _ h=>h) fun ρ β W X cx=>by
    have fF3:ρ (.tmp 3)=vp b:=(cx.ou 3)
    simp [go_sem,cx.sees.const,fF3]) fun W3 hst3=>?_
 refine then_normal (wcf rfl (wp_skip (then_normal (wp_seq (sqr (sqp [.m 5 0, .k 6 (vp b), .k 7 (.pointer (some ⟨b,1,none⟩))] ?_))))))
 refine sql (.slice GA D.log.size gc) hst3 (fun cx=>run_load1 rfl (by kernel_rfl) (cx.ou 7) ((Blk.ext hB.blkL cx.upd.to_ext).cell 1)) ?_
 refine sql (.string D.log) hst3 (fun cx=>run_convLog (e:=5) rfl (by kernel_rfl) (by kernel_rfl) (by kernel_rfl) (cx.ou 8) (hB.log.ext cx.upd.to_ext)) ?_
 refine sqp [.m 2 9] ?_
 refine then_normal (wp_ret ?_)
 refine bpr (.string D.log) (results_1 Tryz.results15 rpt) ?_
 exact Ret.of rfl hst3.ext
theorem kon_any (b:Nat) (D:DkM) (w:World) (h:DkAt w b D):Calls Tryz.prog 59 #[.pointer (some ⟨b,0,none⟩)] w (Ret (.bool (!D.off)) w):=by
 obtain ⟨PA,Pc,GA,gc,Ps,h1⟩:=h
 exact kon_o b D PA Pc GA gc Ps w h1
theorem kis_any (b:Nat) (D:DkM) (n:Int) (w:World) (h:DkAt w b D):Calls Tryz.prog 87 #[.pointer (some ⟨b,0,none⟩), .int .i64 n] w (Ret (.bool (decide (0≤n)&&decide (n < (D.pgs.length:Int)))) w):=by
 obtain ⟨PA,Pc,GA,gc,Ps,h1⟩:=h
 exact kis_o b D PA Pc GA gc Ps n w h1
theorem kpages_any (b:Nat) (D:DkM) (w:World) (h:DkAt w b D):Calls Tryz.prog 66 #[.pointer (some ⟨b,0,none⟩)] w (Ret (.int .i64 (D.pgs.length:Int)) w):=by
 obtain ⟨PA,Pc,GA,gc,Ps,h1⟩:=h
 exact kpages_o b D PA Pc GA gc Ps w h1
theorem kflushed_any (b:Nat) (D:DkM) (w:World) (h:DkAt w b D):Calls Tryz.prog 68 #[.pointer (some ⟨b,0,none⟩)] w (Ret (.int .i64 (D.fl:Int)) w):=by
 obtain ⟨PA,Pc,GA,gc,Ps,h1⟩:=h
 exact kflushed_o b D PA Pc GA gc Ps w h1
theorem klog_any (b:Nat) (D:DkM) (w:World) (h:DkAt w b D):Calls Tryz.prog 15 #[.pointer (some ⟨b,0,none⟩)] w (Ret (.string D.log) w):=by
 obtain ⟨PA,Pc,GA,gc,Ps,h1⟩:=h
 exact klog_o b D PA Pc GA gc Ps w h1
end
section
open Go.RowKit
def decL (n:Int):Int:=IntKind.i64.wrap (n - 1)
/-- an operation: er is what is wrong with it, D2 the disk behind it -/
def opD (D:DkM) (er:Int) (D2:DkM→DkM):DkM×Int:=if D.off=true then (D,24) else if er≠0 then (D,er) else if D.armed=true∧D.left≤0 then ({D with off:=true},24) else (D2 {D with left:=decL D.left},0)
def apE (D:DkM) (s:ByteArray):Int:=if 1048576 < (D.log.size:Int)+(s.size:Int) then 31 else 0
def apD (s:ByteArray) (D:DkM):DkM:={D with log:=D.log++s}
def flD (D:DkM):DkM:={D with fl:=D.log.size}
def OpPost (b:Nat) (R:DkM×Int) (fp:List Nat) (w:World) (e:Ending) (w':World):Prop:=e= .returned (.int .i64 R.2)∧∃ fp',St w fp [eDk b R.1 fp'] w'
def DoPost0 (b:Nat) (D:DkM) (fp:List Nat) (w:World) (e:Ending) (w':World):Prop:=e= .returned (.tuple #[])∧∃ fp',St w fp [eDk b D fp'] w'
theorem on_to {v v':Bool} {f:FuncId} {args:Array Value} {w:World} (h:v=v') (hc:Calls Tryz.prog f args w (Ret (.bool v) w)):Calls Tryz.prog f args w (Ret (.bool v') w):=h ▸ hc
theorem OpPost.of {b:Nat} {R R':DkM×Int} {fp fp':List Nat} {w w':World} (h:R=R') (hs:St w fp [eDk b R'.1 fp'] w'):OpPost b R fp w (.returned (.int .i64 R'.2)) w':=by
 subst h; exact ⟨rfl, _,hs⟩
section
variable {ops:Array Oper} {L:List Nat} {a0:Act} {w0:World} {bor:List Nat} {X0:List Ent} {us:List (List Nat)}
 {D:Nat→(Tmp→Value)→(Tmp→Value)→(Nat→Ent)→Prop} {i:Nat} {ρ:Operand→Value} {β:Tmp→Value} {W:World} {X:Nat→Ent}
theorem CtxV.notin {q k:Nat} {E:Ent} (cx:CtxV ops L a0 w0 bor X0 us D i ρ β W X) (hX:X q=E) (hu:(atV us i).contains q=true) (hn:k∉bor) (hlt:k < w0.heap.size):k∉E.fp:=fun hk=>by
 have h:=((cx.ok q hu).own k (by rw [hX]; exact hk)).1
 rcases h with h | h
 ·exact hn h
 ·omega
end
theorem Tryz.infoU8J:(Tryz.prog.info? 5).map (fun i=>(i.zero,i.size,i.bytes))=some (some (.int .u8 0),1,1):=by kernel_rfl
theorem log_app (a s:ByteArray):(nums a).map (Value.int .u8)++Lib.strCells s=(nums (a++s)).map (Value.int .u8):=by rw [nums_cells,nums_app,List.map_append]
theorem St.with2 {w:World} {bor:List Nat} {L:List Ent} {b2 t2 b3 t3:Nat} {c2 c3:Array Value} (h:St w bor L w) (h2:Blk w b2 t2 c2) (h3:Blk w b3 t3 c3) (n2:b2∉bor) (n3:b3∉bor) (n23:b2≠b3) (hL:∀ e∈L,∀ k∈e.fp,k∈bor):St w (b2::b3::bor) (L++[eB b2 t2 c2,eB b3 t3 c3]) w:=by
 refine ⟨Upd.refl _ _,fun x hx=>?_,?_⟩
 ·rcases List.mem_append.1 hx with hx | hx
  ·have h4:=h.ok x hx
   exact ⟨h4.holds,h4.loc,fun k hk=>⟨(h4.own k hk).1.imp (fun z=>by simp [z]) id,(h4.own k hk).2⟩⟩
  ·simp only [List.mem_cons,List.not_mem_nil,or_false] at hx
   rcases hx with rfl | rfl
   ·exact ⟨h2,eB_loc _ _ _,fun k hk=>⟨.inl (by simp [eB] at hk; simp [hk]),by simp [eB] at hk; subst hk; exact h2.lt⟩⟩
   ·exact ⟨h3,eB_loc _ _ _,fun k hk=>⟨.inl (by simp [eB] at hk; simp [hk]),by simp [eB] at hk; subst hk; exact h3.lt⟩⟩
 ·refine List.pairwise_append.2 ⟨h.apart,List.pairwise_pair.2 fun k hk hk2=>by simp [eB] at hk hk2; omega,fun x hx y hy k hk hk2=>?_⟩
  have h5:=hL x hx k hk
  simp only [List.mem_cons,List.not_mem_nil,or_false] at hy
  rcases hy with rfl | rfl
  ·simp [eB] at hk2; subst hk2; exact n2 h5
  ·simp [eB] at hk2; subst hk2; exact n3 h5
theorem St.less2 {w W:World} {bor:List Nat} {L:List Ent} {b2 t2 b3 t3:Nat} {c2 c3:Array Value} (h:St w (b2::b3::bor) (L++[eB b2 t2 c2,eB b3 t3 c3]) W) (h2:Blk w b2 t2 c2) (h3:Blk w b3 t3 c3):St w bor L W:=by
 have k2:Blk W b2 t2 c2:=(h.ok (eB b2 t2 c2) (by simp)).holds
 have k3:Blk W b3 t3 c3:=(h.ok (eB b3 t3 c3) (by simp)).holds
 have ha:=List.pairwise_append.1 h.apart
 refine ⟨⟨h.upd.os,h.upd.tape,h.upd.output,h.upd.size,fun k hk hn=>?_⟩,fun x hx=>?_,ha.1⟩
 ·by_cases e2:k=b2
  ·subst e2; exact k2.trans h2.symm
  ·by_cases e3:k=b3
   ·subst e3; exact k3.trans h3.symm
   ·exact h.upd.block k hk (by simp; exact ⟨e2,e3,hn⟩)
 ·have h4:=h.ok x (List.mem_append_left _ hx)
  refine ⟨h4.holds,h4.loc,fun k hk=>⟨?_,(h4.own k hk).2⟩⟩
  have n2:k≠b2:=fun e=>ha.2.2 x hx (eB b2 t2 c2) (by simp) k hk (by simp [eB,e])
  have n3:k≠b3:=fun e=>ha.2.2 x hx (eB b3 t3 c3) (by simp) k hk (by simp [eB,e])
  rcases (h4.own k hk).1 with h5 | h5
  ·simp only [List.mem_cons] at h5
   rcases h5 with h5 | h5 | h5
   ·exact absurd h5 n2
   ·exact absurd h5 n3
   ·exact .inl h5
  ·exact .inr h5
theorem kap1_o (b b2 b3:Nat) (D:DkM) (s:ByteArray) (PA:Option Addr) (Pc:Nat) (GA:Option Addr) (gc:Nat) (Ps:List ShT) (w:World) (hB:DkO w b D PA Pc GA gc Ps) (h2:Blk w b2 30 #[.pointer (some ⟨b,0,none⟩)]) (h3:Blk w b3 9 #[.string s]) (hz:D.log.size≤10000000) (hz2:s.size≤10000000):
  Calls Tryz.prog 129 #[.pointer (some ⟨b2,0,none⟩), .pointer (some ⟨b3,0,none⟩)] w (Ret (.int .i64 (apE D s)) w):=by
 go_enter Tryz.func129,Tryz.ntmps129
 have hst0:=St.start w
 refine wp_seq (sqr (sqp [.k 2 (vi 0)] ?_))
 refine then_normal (wp_seq (wp_seq (wp_region_Z [0,1,3,7,15,0,32,127,255] [] [.c 3 (vp b), .k 4 (vp b), .k 5 (.pointer (some ⟨b,1,none⟩)), .c 6 (.slice GA D.log.size gc), .k 7 (vi ((D.log.size:Int))), .c 8 (.string s), .k 9 (vi ((s.size:Int))),tI 10 ((D.log.size:Int)+(s.size:Int)) (by omega), .k 11 (.bool (decide (1048576 < (D.log.size:Int)+(s.size:Int))))] [] [0,3,5] [(3,0,9,12)] hst0 ?_ fun W2 hst2=>?_)))
 ·refine ⟨?_,?_,?_,trivial⟩
  ·exact xs4 rfl id fun cx=>run_load1 rfl (by kernel_rfl) (cx.ou 0) ((Blk.ext h2 cx.upd.to_ext).cell 0)
  ·exact xs4 rfl id fun cx=>run_load1 rfl (by kernel_rfl) (cx.an 2) ((Blk.ext hB.blkL cx.upd.to_ext).cell 1)
  ·exact xs4 rfl id fun cx=>run_load1 rfl (by kernel_rfl) (cx.ou 1) ((Blk.ext h3 cx.upd.to_ext).cell 0)
 refine then_normal (wds (fun hs3 hs3p=>?_) fun hs3 hs3p=>?_)
 ·refine wp_seq (sqr (sqp [.k 2 (vi 31)] ?_))
  refine then_normal (wp_ret (then_ret ?_))
  refine bpr (vi 31) (results_1 Tryz.results129 rpt) ?_
  exact Ret.int (by rw [apE,if_pos (of_decide_eq_true hs3)]) hst2.ext
 refine wp_skip (then_normal (wp_seq (sqr (sqp [.k 2 (vi 0)] ?_))))
 refine then_normal (wp_ret ?_)
 refine bpr (vi 0) (results_1 Tryz.results129 rpt) ?_
 exact Ret.int (by rw [apE,if_neg (of_decide_eq_false hs3)]) hst2.ext
theorem kap2_any (b b2 b3:Nat) (D:DkM) (s:ByteArray) (fp:List Nat) (w:World) (hB:(eDk b D fp).holds w) (hlt:∀ k∈fp,k < w.heap.size) (h2:Blk w b2 30 #[.pointer (some ⟨b,0,none⟩)]) (h3:Blk w b3 9 #[.string s]) (n2:b2∉fp) (n3:b3∉fp) (n23:b2≠b3) (hz:D.log.size≤10000000) (hz2:s.size≤10000000):
  Calls Tryz.prog 130 #[.pointer (some ⟨b2,0,none⟩), .pointer (some ⟨b3,0,none⟩)] w (DoPost0 b (apD s D) fp w):=by
 have st1:=St.lend hB (eDk_loc _ _ _) hlt
 obtain ⟨PA,Pc,GA,gc,Ps,Qs,hps,hsub,hfp,hap,hall⟩:=hB
 have st0:=St.unpack st1 hfp hall hap
 have st2:St w (b2::b3::fp) [eB b 100 #[.slice PA D.pgs.length Pc, .slice GA D.log.size gc, .int .i64 ((D.fl:Int)), .bool D.off, .bool D.armed, .int .i64 D.left],eO 144 513 (.slice PA D.pgs.length Pc) D.pgs.length (Ps.flatMap shC),eO 5 1 (.slice GA D.log.size gc) D.log.size ((nums D.log).map (Value.int .u8)),eWs Qs,eB b2 30 #[.pointer (some ⟨b,0,none⟩)],eB b3 9 #[.string s]] w:=St.with2 st0 h2 h3 n2 n3 n23 (fun e he k hk=>by rw [show fp=(eDk b D fp).fp from rfl,show (eDk b D fp).fp= _ from hfp]; exact List.mem_flatMap.2 ⟨e,he,hk⟩)
 go_enter Tryz.func130,Tryz.ntmps130
 have hst0:=st2
 refine wp_region_Y [0,0,2,6,14,0,62,127,255,511] [[4],[4],[],[],[0],[5],[2],[],[],[0]] [[],[],[],[],[],[],[6],[],[],[7]] [[],[],[],[],[],[],[2],[],[],[0]] [.c 2 (vp b), .c 3 (vp b), .k 4 (vp b), .k 5 (.pointer (some ⟨b,1,none⟩)), .c 6 (.slice GA D.log.size gc), .c 7 (.string s), .a 8, .k 9 (vp b), .k 10 (.pointer (some ⟨b,1,none⟩)), .n] (fun ix σ β X=>match ix with | 0=>True | 1=>True | 2=>True | 3=>True | 4=>True | 5=>True | 6=>σ 8= .slice (sA (β 8)) (D.log.size+s.size) (sC (β 8))∧X 6=eO 5 1 (.slice (sA (β 8)) (D.log.size+s.size) (sC (β 8))) (D.log.size+s.size) ((nums (D.log++s)).map (Value.int .u8)) | 7=>True | 8=>True | 9=>X 7=eB b 100 #[.slice PA D.pgs.length Pc, .slice (sA (β 8)) (D.log.size+s.size) (sC (β 8)),vi ((D.fl:Int)), .bool D.off, .bool D.armed,vi D.left] | _=>True) [1,3,4,5,6,7] [0,1,4,5,6,9] [(2,0,9,11)] hst0 ?_ ?_ ?_
 ·exact fun ix _ _ _ _ _ _ hs hb hx h=>match ix,h with
  | 6,h=>by dsimp only; rw [← hs 8 rfl,← hb 8 rfl,← hx 6 rfl]; exact h
  | 9,h=>by dsimp only; rw [← hb 8 rfl,← hx 7 rfl]; exact h
  | 0, _ | 1, _ | 2, _ | 3, _ | 4, _ | 5, _ | 7, _ | 8, _ | _+10, _=>trivial
 ·refine ⟨?_,?_,?_,?_,?_,?_,trivial⟩
  ·exact xs4 rfl id fun cx=>run_load1 rfl (by kernel_rfl) (cx.ou 0) ((cx.bi 4 rfl).cell 0)
  ·exact xs4 rfl id fun cx=>run_load1 rfl (by kernel_rfl) (cx.ou 0) ((cx.bi 4 rfl).cell 0)
  ·exact xs4 rfl id fun cx=>run_load1 rfl (by kernel_rfl) (cx.an 3) ((cx.bi 0 rfl).cell 1)
  ·exact xs4 rfl id fun cx=>run_load1 rfl (by kernel_rfl) (cx.ou 1) ((cx.bi 5 rfl).cell 0)
  ·refine svA fun ρ β W X cx=>?_
   obtain ⟨i0,hi0,hz0,hz1,hz2⟩:=info_parts Tryz.infoU8J
   refine dv_appendStr (n:=D.log.size) (nm:=D.log.size+s.size) (xs:=(nums D.log).map (Value.int .u8)) (xs':=(nums (D.log++s)).map (Value.int .u8)) rfl (by kernel_rfl) (by kernel_rfl) hi0 hz0 hz1 hz2 (cx.an 4) cx (cx.init 2 _ rfl) rfl (cx.an 5) (by simp only [maxLen]; omega) (by omega) rfl rfl rfl (by omega) ((log_app D.log s)) (fun σ β' X' hs hb hv hx=>?_)
   exact ⟨hv,hx⟩
  ·refine svA fun ρ β W X cx=>?_
   exact dv_store (n:=1) rfl (cx.an 8) (dTn (cx.an 6)).1 (by kernel_rfl) (by kernel_rfl) (by kernel_rfl) cx (cx.init 0 _ rfl) rfl (nle rfl) (by kernel_rfl) rfl rfl rfl (fun σ β' X' hs hb hx=>by rw [hb 8]; exact hx)
 intro σ β X W1 hD hst1 fr hfr
 obtain ⟨A8_1,hu_A8_1⟩:∃ z,sA (β 8)=z:=⟨_,rfl⟩
 obtain ⟨c8_1,hu_c8_1⟩:∃ z,sC (β 8)=z:=⟨_,rfl⟩
 simp only [exq 6 ((dTn (hD 6 lq)).2),exq 7 ((dTn (hD 9 lq))),hu_A8_1,hu_c8_1] at hst1
 simp only [ed 8 ((dTn (hD 6 lq)).1),hu_A8_1,hu_c8_1] at hfr
 clear hD hu_A8_1 hu_c8_1; subst hfr; clear σ β X
 refine bpe (.tuple #[]) (by simp [results,Tryz.results130,go_sem]) ?_
 have hl_:=St.less2 (L:=[eB b 100 #[.slice PA D.pgs.length Pc, .slice A8_1 (D.log.size+s.size) c8_1,vi ((D.fl:Int)), .bool D.off, .bool D.armed,vi D.left],eO 144 513 (.slice PA D.pgs.length Pc) D.pgs.length (Ps.flatMap shC),eO 5 1 (.slice A8_1 (D.log.size+s.size) c8_1) (D.log.size+s.size) ((nums (D.log++s)).map (Value.int .u8)),eWs Qs]) (hst1.pick [5,0,4,1,2,3] (by decide) rfl) h2 h3
 rw [show D.log.size+s.size=(D.log++s).size from ByteArray.size_append.symm] at hl_
 exact ⟨rfl,St.dk (L:=[]) (D:=apD s D) (PA:=PA) (Pc:=Pc) (GA:=A8_1) (gc:=c8_1) hl_ hps hsub⟩
theorem kap1_any (b b2 b3:Nat) (D:DkM) (s:ByteArray) (w:World) (hB:DkAt w b D) (h2:Blk w b2 30 #[.pointer (some ⟨b,0,none⟩)]) (h3:Blk w b3 9 #[.string s]) (hz:D.log.size≤10000000) (hz2:s.size≤10000000):Calls Tryz.prog 129 #[.pointer (some ⟨b2,0,none⟩), .pointer (some ⟨b3,0,none⟩)] w (Ret (.int .i64 (apE D s)) w):=by
 obtain ⟨PA,Pc,GA,gc,Ps,h1⟩:=hB
 exact kap1_o b b2 b3 D s PA Pc GA gc Ps w h1 h2 h3 hz hz2
theorem kopap_any (b b2 b3:Nat) (D:DkM) (s:ByteArray) (fp:List Nat) (w:World) (hB:(eDk b D fp).holds w) (hlt:∀ k∈fp,k < w.heap.size) (h2:Blk w b2 30 #[.pointer (some ⟨b,0,none⟩)]) (h3:Blk w b3 9 #[.string s]) (n2:b2∉fp) (n3:b3∉fp) (n23:b2≠b3) (hz:D.log.size≤10000000) (hz2:s.size≤10000000):
  Calls Tryz.prog 126 #[.pointer (some ⟨b,0,none⟩), .func (.func 129) #[] #[.pointer (some ⟨b2,0,none⟩), .pointer (some ⟨b3,0,none⟩)], .func (.func 130) #[] #[.pointer (some ⟨b2,0,none⟩), .pointer (some ⟨b3,0,none⟩)]] w (OpPost b (opD D (apE D s) (apD s)) fp w):=by
 have st1:St w fp [eDk b D fp] w:=St.lend hB (eDk_loc _ _ _) hlt
 go_enter Tryz.func126,Tryz.ntmps126
 have hst0:=st1
 refine wp_seq (sqr (sqp [.k 6 (vi 0)] ?_))
 refine then_normal (wp_seq (wp_seq ?_))
 obtain ⟨onv,hon⟩:∃ z,(!D.off)=z:=⟨_,rfl⟩
 refine sqr (sqp [.m 8 0] ?_)
 refine sqk (.bool onv) hst0 (fun cx=>⟨_,on_to hon (kon_any b D _ (eDk_at (CtxV.holdF cx (cx.init 0 _ rfl) rfl))),(map1 (cx.ou 8))⟩) fun W3 hst3=>?_
 refine sqp [.k 10 (.bool (!(onv)))] ?_
 refine then_normal ?_
 rcases Bool.eq_false_or_eq_true (onv) with hs5 | hs5
 ·refine wp_cond_false (show Act.eval _ _= .bool false from (congrArg Value.bool (by rw [hs5]; rfl))) (wp_skip (then_normal (wp_seq (wp_seq (sqr (sqp [.m 11 1] ?_))))))
  refine sqv (vi ((apE D s))) hst3 (sv_call rfl rfl rfl rfl rfl (fun _ _ _ h=>h) fun ρ β W X cx=>⟨_, _,run_callV (f:=129) (args:=#[]) (args':=#[vp b2,vp b3]) rfl rfl (cx.ou 11) (by kernel_rfl) map0 rfl,kap1_any b b2 b3 D s _ (eDk_at (CtxV.holdF cx (cx.init 0 _ rfl) rfl)) (h2.upd cx.upd n2) (h3.upd cx.upd n3) hz hz2⟩) fun W7 hst7=>?_
  refine sqp [.m 7 12] ?_
  refine then_normal (wp_seq (sqr (sqp [.m 13 7, .k 14 (.bool ((apE D s) != 0))] ?_)))
  refine then_normal (wbs (fun hs11=>?_) fun hs11=>?_)
  ·have hs11p:=bne_iff_ne.1 hs11
   refine wp_seq (sqr (sqp [.m 15 7, .m 6 15] ?_))
   refine then_normal (wp_ret (then_ret ?_))
   refine bpr (vi ((apE D s))) (results_1 Tryz.results126 rpt) ?_
   exact OpPost.of (R':=(D,apE D s)) (by rw [opD,if_neg (by have h_:=hon.trans hs5; simpa using h_),if_pos (by simpa using hs11)]) hst7
  have hs11p:=bne_eq_false_iff_eq.1 hs11
  refine wp_skip (then_normal (wp_seq (wp_seq ?_)))
  have hD_:(eDk b D fp).holds W7:=(hst7.ok _ (List.mem_singleton.2 rfl)).holds
  obtain ⟨PA,Pc,GA,gc,Ps,Qs,hps,hsub,hfp,hap,hall⟩:=hD_
  have hu_14:St w fp [eB b 100 #[.slice PA D.pgs.length Pc, .slice GA D.log.size gc,vi ((D.fl:Int)), .bool D.off, .bool D.armed,vi D.left],eO 144 513 (.slice PA D.pgs.length Pc) D.pgs.length (Ps.flatMap shC),eO 5 1 (.slice GA D.log.size gc) D.log.size ((nums D.log).map (Value.int .u8)),eWs Qs] W7:=St.unpack hst7 hfp hall hap
  refine sqr (sqp [.m 16 0, .k 17 (vp b), .k 18 (.pointer (some ⟨b,4,none⟩))] ?_)
  refine sqld 0 hu_14 ?_
  refine sqp [.m 20 19] ?_
  refine sqw' 20 [21,22,23,24,25] ?_ rfl (fun hq=>?_) ?_
  rotate_left
  ·refine sqp [.m 21 0, .k 22 (vp b), .k 23 (.pointer (some ⟨b,5,none⟩))] ?_
   refine sqld 0 hu_14 ?_
   refine sqp [.k 25 (.bool (decide (D.left≤0)))] ?_
   exact sqe
  refine sqwx ?_
  refine sqp [sPa 26 D.armed (decide (D.left≤0))] ?_
  refine then_normal (wbs (fun hs26=>?_) fun hs26=>?_)
  ·have hs26p:=hs26
   simp only [zB] at hs26p
   obtain ⟨hs26p1,hs26p2⟩:=hs26p
   refine wp_seq (sqr (sqp [.m 27 0, .k 28 (vp b), .k 29 (.pointer (some ⟨b,3,none⟩))] ?_))
   refine sqst (n:=1) 0 #[.slice PA D.pgs.length Pc, .slice GA D.log.size gc,vi ((D.fl:Int)), .bool true, .bool D.armed,vi D.left] hu_14 fun W30 hst30=>?_
   refine then_normal (wp_seq (sqr (sqp [.k 6 (vi 24)] ?_)))
   refine then_normal (wp_ret (then_ret ?_))
   refine bpr (vi 24) (results_1 Tryz.results126 rpt) ?_
   obtain ⟨fp2,hk_⟩:=St.dk (L:=[]) (D:={D with off:=true}) (PA:=PA) (Pc:=Pc) (GA:=GA) (gc:=gc) (hst30.pick [0,1,2,3] (by decide) rfl) hps hsub
   exact OpPost.of (R':=({D with off:=true},24)) (by rw [opD,if_neg (by have h_:=hon.trans hs5; simpa using h_),if_neg (by simpa using hs11),if_pos (by simpa using hs26)]) hk_
  have hs26p:=hs26
  simp only [zB] at hs26p
  refine wp_skip (then_normal (wp_seq (sqr (sqp [.m 30 0, .k 31 (vp b), .k 32 (.pointer (some ⟨b,5,none⟩))] ?_))))
  refine sqld 0 hu_14 ?_
  refine sqp [.k 34 (vi ((decL D.left))), .k 35 (vp b), .k 36 (.pointer (some ⟨b,5,none⟩))] ?_
  refine sqst (n:=1) 0 #[.slice PA D.pgs.length Pc, .slice GA D.log.size gc,vi ((D.fl:Int)), .bool D.off, .bool D.armed,vi ((decL D.left))] hu_14 fun W39 hst39=>?_
  refine then_normal (wp_seq ?_)
  obtain ⟨D1,hD1⟩:∃ z,({D with left:=decL D.left}:DkM)=z:=⟨_,rfl⟩
  obtain ⟨fp2,hk_40⟩:=St.dk (L:=[]) (D:={D with left:=decL D.left}) (PA:=PA) (Pc:=Pc) (GA:=GA) (gc:=gc) (hst39.pick [0,1,2,3] (by decide) rfl) hps hsub
  simp only [List.nil_append] at hk_40
  rw [hD1] at hk_40
  have hz1:D1.log.size≤10000000:=by rw [← hD1]; exact hz
  refine sqr (sqp [.m 37 2] ?_)
  refine sqc0s (fun X_=>X_.fp) (.tuple #[]) (fun r1_42=>eDk b (apD s D1) r1_42) 0 hk_40 (by
    refine svA fun ρ β W X cx=>?_
    refine DoesU.call (run_callV (f:=130) (args:=#[]) (args':=#[vp b2,vp b3]) rfl rfl (cx.ou 37) (by kernel_rfl) map0 rfl) ?_
    refine (kap2_any b b2 b3 D1 s _ _ (CtxV.holdF cx (cx.init 0 _ rfl) rfl) (CtxV.ltF cx (cx.init 0 _ rfl) rfl) (h2.upd cx.upd n2) (h3.upd cx.upd n3) (CtxV.notin cx (cx.init 0 _ rfl) rfl n2 h2.lt) (CtxV.notin cx (cx.init 0 _ rfl) rfl n3 h3.lt) n23 hz1 hz2).mono ?_
    rintro e W1 ⟨rfl,fp4,hs4⟩
    refine ⟨_,rfl,post_obj (E:=eDk b D1 fp2) [eDk b (apD s D1) fp4] (cx.init 0 _ rfl) rfl rfl hs4 (fun σ β' X' hs hb hv hN=>?_)⟩
    have hv1:=(hv 38 rfl).1; have hv2:=(hv 38 rfl).2
    exact ⟨hv1.trans rfl,eDk_self ((List.cons.inj hN).1)⟩) fun r1_42 W42 hst42=>?_
  refine then_normal (wp_seq (sqr (sqp [.k 6 (vi 0)] ?_)))
  refine then_normal (wp_ret ?_)
  refine bpr (vi 0) (results_1 Tryz.results126 rpt) ?_
  exact OpPost.of (R':=(apD s D1,0)) (by rw [opD,if_neg (by have h_:=hon.trans hs5; simpa using h_),if_neg (by simpa using hs11),if_neg (by have h_:=hs26; intro h2_; simp [h2_.1,h2_.2] at h_),hD1]) hst42
 refine wp_cond_true (show Act.eval _ _= .bool true from (congrArg Value.bool (by rw [hs5]; rfl))) (wp_seq (sqr (sqp [.k 6 (vi 24)] ?_)))
 refine then_normal (wp_ret (then_ret ?_))
 refine bpr (vi 24) (results_1 Tryz.results126 rpt) ?_
 exact OpPost.of (R':=(D,24)) (by rw [opD,if_pos (by simpa using hon.trans hs5)]) hst3
theorem kappend_any (b:Nat) (D:DkM) (s:ByteArray) (fp:List Nat) (w:World) (hB:(eDk b D fp).holds w) (hlt:∀ k∈fp,k < w.heap.size) (hz:D.log.size≤10000000) (hz2:s.size≤10000000):
  Calls Tryz.prog 62 #[.pointer (some ⟨b,0,none⟩), .string s] w (OpPost b (opD D (apE D s) (apD s)) fp w):=by
 have st1:St w fp [eDk b D fp] w:=St.lend hB (eDk_loc _ _ _) hlt
 go_enter Tryz.func62,Tryz.ntmps62
 have hst0:=st1
 refine wp_seq (sqr ?_)
 refine sqbx #[vp b] hst0 fun B2_1 W1 hst1=>?_
 refine sqbx #[.string s] hst1 fun B3_2 W2 hst2=>?_
 refine sqp [.k 4 (vi 0)] ?_
 refine then_normal (wp_seq (sqr (sqld 1 hst2 ?_)))
 refine sqv (.func (.func 129) #[] #[vp B2_1,vp B3_2]) hst2 (by
   exact sv0 rfl rfl rfl rfl rfl (fun _ _ _ h=>h) fun ρ β W X cx=>by
    have fF2:ρ (.tmp 2)=vp B2_1:=(cx.ou 2)
    have fF3:ρ (.tmp 3)=vp B3_2:=(cx.ou 3)
    simp [go_sem,Instr.makeFunc,fF2,fF3]) fun W5 hst5=>?_
 refine sqv (.func (.func 130) #[] #[vp B2_1,vp B3_2]) hst5 (by
   exact sv0 rfl rfl rfl rfl rfl (fun _ _ _ h=>h) fun ρ β W X cx=>by
    have fF2:ρ (.tmp 2)=vp B2_1:=(cx.ou 2)
    have fF3:ρ (.tmp 3)=vp B3_2:=(cx.ou 3)
    simp [go_sem,Instr.makeFunc,fF2,fF3]) fun W6 hst6=>?_
 refine sqc0s (fun X_=>X_.fp) (vi ((opD D (apE D s) (apD s)).2)) (fun r3_7=>eDk b ((opD D (apE D s) (apD s)).1) r3_7) 0 hst6 (by
   refine svA fun ρ β W X cx=>?_
   refine DoesU.call (run_callF (args:=#[vp b, .func (.func 129) #[] #[vp B2_1,vp B3_2], .func (.func 130) #[] #[vp B2_1,vp B3_2]]) rfl cx.sees rfl (by kernel_rfl) (map3 (cx.ou 5) (cx.ou 6) (cx.ou 7))) ?_
   refine (kopap_any b _ _ D s _ _ (CtxV.holdF cx (cx.init 0 _ rfl) rfl) (CtxV.ltF cx (cx.init 0 _ rfl) rfl) (cx.bi 1 rfl) (cx.bi 2 rfl) (by have h_:=cx.ap 1 0 rfl rfl (by decide); rw [(cx.init 1 _ rfl),(cx.init 0 _ rfl)] at h_; exact h_ _ (List.mem_singleton.2 rfl)) (by have h_:=cx.ap 2 0 rfl rfl (by decide); rw [(cx.init 2 _ rfl),(cx.init 0 _ rfl)] at h_; exact h_ _ (List.mem_singleton.2 rfl)) (by have h_:=cx.ap 1 2 rfl rfl (by decide); rw [(cx.init 1 _ rfl),(cx.init 2 _ rfl)] at h_; intro e_; exact h_ _ (List.mem_singleton.2 rfl) (List.mem_singleton.2 e_)) hz hz2).mono ?_
   rintro e W1 ⟨rfl,fp4,hs4⟩
   refine ⟨_,rfl,post_obj (E:=eDk b D fp) [eDk b (opD D (apE D s) (apD s)).1 fp4] (cx.init 0 _ rfl) rfl rfl hs4 (fun σ β' X' hs hb hv hN=>?_)⟩
   have hv1:=(hv 8 rfl).1; have hv2:=(hv 8 rfl).2
   exact ⟨hv1.trans rfl,eDk_self ((List.cons.inj hN).1)⟩) fun r3_7 W7 hst7=>?_
 refine sqp [.m 4 8] ?_
 refine then_normal (wp_ret ?_)
 refine bpr (vi ((opD D (apE D s) (apD s)).2)) (results_1 Tryz.results62 rpt) ?_
 exact OpPost.of rfl (hst7.pick [0] (by decide) rfl)
end
section
open Go.RowKit
theorem St.with1 {w:World} {bor:List Nat} {L:List Ent} {b2 t2:Nat} {c2:Array Value} (h:St w bor L w) (h2:Blk w b2 t2 c2) (n2:b2∉bor) (hL:∀ e∈L,∀ k∈e.fp,k∈bor):St w (b2::bor) (L++[eB b2 t2 c2]) w:=by
 refine ⟨Upd.refl _ _,fun x hx=>?_,?_⟩
 ·rcases List.mem_append.1 hx with hx | hx
  ·have h4:=h.ok x hx
   exact ⟨h4.holds,h4.loc,fun k hk=>⟨(h4.own k hk).1.imp (fun z=>by simp [z]) id,(h4.own k hk).2⟩⟩
  ·rw [List.mem_singleton] at hx
   subst hx
   exact ⟨h2,eB_loc _ _ _,fun k hk=>⟨.inl (by simp [eB] at hk; simp [hk]),by simp [eB] at hk; subst hk; exact h2.lt⟩⟩
 ·refine List.pairwise_append.2 ⟨h.apart,List.pairwise_singleton _ _,fun x hx y hy k hk hk2=>?_⟩
  have h5:=hL x hx k hk
  rw [List.mem_singleton] at hy
  subst hy
  simp [eB] at hk2
  subst hk2
  exact n2 h5
theorem St.less1 {w W:World} {bor:List Nat} {L:List Ent} {b2 t2:Nat} {c2:Array Value} (h:St w (b2::bor) (L++[eB b2 t2 c2]) W) (h2:Blk w b2 t2 c2):St w bor L W:=by
 have k2:Blk W b2 t2 c2:=(h.ok (eB b2 t2 c2) (by simp)).holds
 have ha:=List.pairwise_append.1 h.apart
 refine ⟨⟨h.upd.os,h.upd.tape,h.upd.output,h.upd.size,fun k hk hn=>?_⟩,fun x hx=>?_,ha.1⟩
 ·by_cases e2:k=b2
  ·subst e2; exact k2.trans h2.symm
  ·exact h.upd.block k hk (by simp; exact ⟨e2,hn⟩)
 ·have h4:=h.ok x (List.mem_append_left _ hx)
  refine ⟨h4.holds,h4.loc,fun k hk=>⟨?_,(h4.own k hk).2⟩⟩
  have n2:k≠b2:=fun e=>ha.2.2 x hx (eB b2 t2 c2) (by simp) k hk (by simp [eB,e])
  rcases (h4.own k hk).1 with h5 | h5
  ·simp only [List.mem_cons] at h5
   rcases h5 with h5 | h5
   ·exact absurd h5 n2
   ·exact .inl h5
  ·exact .inr h5
theorem kfine_any (w:World):
  Calls Tryz.prog 131 #[] w (Ret (.int .i64 0) w):=by
 go_enter Tryz.func131,Tryz.ntmps131
 have hst0:=St.start w
 refine wp_seq (sqr (sqp [.k 0 (vi 0)] ?_))
 refine then_normal (wp_seq (sqr (sqp [.k 0 (vi 0)] ?_)))
 refine then_normal (wp_ret ?_)
 refine bpr (vi 0) (results_1 Tryz.results131 rpt) ?_
 exact Ret.of rfl hst0.ext
theorem kfl2_any (b b2:Nat) (D:DkM) (fp:List Nat) (w:World) (hB:(eDk b D fp).holds w) (hlt:∀ k∈fp,k < w.heap.size) (h2:Blk w b2 30 #[.pointer (some ⟨b,0,none⟩)]) (n2:b2∉fp) (hz:D.log.size≤10000000):
  Calls Tryz.prog 132 #[.pointer (some ⟨b2,0,none⟩)] w (DoPost0 b (flD D) fp w):=by
 have st1:=St.lend hB (eDk_loc _ _ _) hlt
 obtain ⟨PA,Pc,GA,gc,Ps,Qs,hps,hsub,hfp,hap,hall⟩:=hB
 have st0:=St.unpack st1 hfp hall hap
 have st2:St w (b2::fp) [eB b 100 #[.slice PA D.pgs.length Pc, .slice GA D.log.size gc, .int .i64 ((D.fl:Int)), .bool D.off, .bool D.armed, .int .i64 D.left],eO 144 513 (.slice PA D.pgs.length Pc) D.pgs.length (Ps.flatMap shC),eO 5 1 (.slice GA D.log.size gc) D.log.size ((nums D.log).map (Value.int .u8)),eWs Qs,eB b2 30 #[.pointer (some ⟨b,0,none⟩)]] w:=St.with1 st0 h2 n2 (fun e he k hk=>by rw [show fp=(eDk b D fp).fp from rfl,show (eDk b D fp).fp= _ from hfp]; exact List.mem_flatMap.2 ⟨e,he,hk⟩)
 go_enter Tryz.func132,Tryz.ntmps132
 have hst0:=st2
 refine wp_region_Y [0,0,2,6,14,30,63,127,255] [[4],[4],[],[],[0],[],[],[],[0]] [[],[],[],[],[],[],[],[],[5]] [[],[],[],[],[],[],[],[],[0]] [.c 1 (vp b), .c 2 (vp b), .k 3 (vp b), .k 4 (.pointer (some ⟨b,1,none⟩)), .c 5 (.slice GA D.log.size gc), .k 6 (vi ((D.log.size:Int))), .k 7 (vp b), .k 8 (.pointer (some ⟨b,2,none⟩)), .n] (fun ix σ β X=>match ix with | 0=>True | 1=>True | 2=>True | 3=>True | 4=>True | 5=>True | 6=>True | 7=>True | 8=>X 5=eB b 100 #[.slice PA D.pgs.length Pc, .slice GA D.log.size gc,vi ((D.log.size:Int)), .bool D.off, .bool D.armed,vi D.left] | _=>True) [1,2,3,4,5] [0,1,4,8] [(1,0,8,9)] hst0 ?_ ?_ ?_
 ·exact fun ix _ _ _ _ _ _ hs hb hx h=>match ix,h with
  | 8,h=>by dsimp only; rw [← hx 5 rfl]; exact h
  | 0, _ | 1, _ | 2, _ | 3, _ | 4, _ | 5, _ | 6, _ | 7, _ | _+9, _=>trivial
 ·refine ⟨?_,?_,?_,?_,trivial⟩
  ·exact xs4 rfl id fun cx=>run_load1 rfl (by kernel_rfl) (cx.ou 0) ((cx.bi 4 rfl).cell 0)
  ·exact xs4 rfl id fun cx=>run_load1 rfl (by kernel_rfl) (cx.ou 0) ((cx.bi 4 rfl).cell 0)
  ·exact xs4 rfl id fun cx=>run_load1 rfl (by kernel_rfl) (cx.an 3) ((cx.bi 0 rfl).cell 1)
  ·refine svA fun ρ β W X cx=>?_
   exact dv_store (n:=1) rfl (cx.an 7) (cx.an 5) (by kernel_rfl) (by kernel_rfl) (by kernel_rfl) cx (cx.init 0 _ rfl) rfl (nle rfl) (by kernel_rfl) rfl rfl rfl (fun σ β' X' hs hb hx=>hx)
 intro σ β X W1 hD hst1 fr hfr
 simp only [exq 5 ((dTn (hD 8 lq)))] at hst1
 clear hD; subst hfr; clear σ β X
 refine bpe (.tuple #[]) (by simp [results,Tryz.results132,go_sem]) ?_
 have hl_:=St.less1 (L:=[eB b 100 #[.slice PA D.pgs.length Pc, .slice GA D.log.size gc,vi ((D.log.size:Int)), .bool D.off, .bool D.armed,vi D.left],eO 144 513 (.slice PA D.pgs.length Pc) D.pgs.length (Ps.flatMap shC),eO 5 1 (.slice GA D.log.size gc) D.log.size ((nums D.log).map (Value.int .u8)),eWs Qs]) (hst1.pick [4,0,1,2,3] (by decide) rfl) h2
 exact ⟨rfl,St.dk (L:=[]) (D:=flD D) (PA:=PA) (Pc:=Pc) (GA:=GA) (gc:=gc) hl_ hps hsub⟩
theorem kopfl_any (b b2:Nat) (D:DkM) (fp:List Nat) (w:World) (hB:(eDk b D fp).holds w) (hlt:∀ k∈fp,k < w.heap.size) (h2:Blk w b2 30 #[.pointer (some ⟨b,0,none⟩)]) (n2:b2∉fp) (hz:D.log.size≤10000000):
  Calls Tryz.prog 126 #[.pointer (some ⟨b,0,none⟩), .func (.func 131) #[] #[], .func (.func 132) #[] #[.pointer (some ⟨b2,0,none⟩)]] w (OpPost b (opD D 0 flD) fp w):=by
 have st1:St w fp [eDk b D fp] w:=St.lend hB (eDk_loc _ _ _) hlt
 go_enter Tryz.func126,Tryz.ntmps126
 have hst0:=st1
 refine wp_seq (sqr (sqp [.k 6 (vi 0)] ?_))
 refine then_normal (wp_seq (wp_seq ?_))
 obtain ⟨onv,hon⟩:∃ z,(!D.off)=z:=⟨_,rfl⟩
 refine sqr (sqp [.m 8 0] ?_)
 refine sqk (.bool onv) hst0 (fun cx=>⟨_,on_to hon (kon_any b D _ (eDk_at (CtxV.holdF cx (cx.init 0 _ rfl) rfl))),(map1 (cx.ou 8))⟩) fun W3 hst3=>?_
 refine sqp [.k 10 (.bool (!(onv)))] ?_
 refine then_normal ?_
 rcases Bool.eq_false_or_eq_true (onv) with hs5 | hs5
 ·refine wp_cond_false (show Act.eval _ _= .bool false from (congrArg Value.bool (by rw [hs5]; rfl))) (wp_skip (then_normal (wp_seq (wp_seq (sqr (sqp [.m 11 1] ?_))))))
  refine sqv (vi 0) hst3 (sv_call rfl rfl rfl rfl rfl (fun _ _ _ h=>h) fun ρ β W X cx=>⟨_, _,run_callV (f:=131) (args:=#[]) (args':=#[]) rfl rfl (cx.ou 11) (by kernel_rfl) map0 rfl,kfine_any _⟩) fun W7 hst7=>?_
  refine sqp [.m 7 12] ?_
  refine then_normal (wp_seq (sqr (sqp [.m 13 7, .k 14 (.bool false)] ?_)))
  refine then_normal (wcf rfl (wp_skip (then_normal (wp_seq (wp_seq ?_)))))
  have hD_:(eDk b D fp).holds W7:=(hst7.ok _ (List.mem_singleton.2 rfl)).holds
  obtain ⟨PA,Pc,GA,gc,Ps,Qs,hps,hsub,hfp,hap,hall⟩:=hD_
  have hu_11:St w fp [eB b 100 #[.slice PA D.pgs.length Pc, .slice GA D.log.size gc,vi ((D.fl:Int)), .bool D.off, .bool D.armed,vi D.left],eO 144 513 (.slice PA D.pgs.length Pc) D.pgs.length (Ps.flatMap shC),eO 5 1 (.slice GA D.log.size gc) D.log.size ((nums D.log).map (Value.int .u8)),eWs Qs] W7:=St.unpack hst7 hfp hall hap
  refine sqr (sqp [.m 16 0, .k 17 (vp b), .k 18 (.pointer (some ⟨b,4,none⟩))] ?_)
  refine sqld 0 hu_11 ?_
  refine sqp [.m 20 19] ?_
  refine sqw' 20 [21,22,23,24,25] ?_ rfl (fun hq=>?_) ?_
  rotate_left
  ·refine sqp [.m 21 0, .k 22 (vp b), .k 23 (.pointer (some ⟨b,5,none⟩))] ?_
   refine sqld 0 hu_11 ?_
   refine sqp [.k 25 (.bool (decide (D.left≤0)))] ?_
   exact sqe
  refine sqwx ?_
  refine sqp [sPa 26 D.armed (decide (D.left≤0))] ?_
  refine then_normal (wbs (fun hs23=>?_) fun hs23=>?_)
  ·have hs23p:=hs23
   simp only [zB] at hs23p
   obtain ⟨hs23p1,hs23p2⟩:=hs23p
   refine wp_seq (sqr (sqp [.m 27 0, .k 28 (vp b), .k 29 (.pointer (some ⟨b,3,none⟩))] ?_))
   refine sqst (n:=1) 0 #[.slice PA D.pgs.length Pc, .slice GA D.log.size gc,vi ((D.fl:Int)), .bool true, .bool D.armed,vi D.left] hu_11 fun W27 hst27=>?_
   refine then_normal (wp_seq (sqr (sqp [.k 6 (vi 24)] ?_)))
   refine then_normal (wp_ret (then_ret ?_))
   refine bpr (vi 24) (results_1 Tryz.results126 rpt) ?_
   obtain ⟨fp2,hk_⟩:=St.dk (L:=[]) (D:={D with off:=true}) (PA:=PA) (Pc:=Pc) (GA:=GA) (gc:=gc) (hst27.pick [0,1,2,3] (by decide) rfl) hps hsub
   exact OpPost.of (R':=({D with off:=true},24)) (by rw [opD,if_neg (by have h_:=hon.trans hs5; simpa using h_),if_neg (by decide),if_pos (by simpa using hs23)]) hk_
  have hs23p:=hs23
  simp only [zB] at hs23p
  refine wp_skip (then_normal (wp_seq (sqr (sqp [.m 30 0, .k 31 (vp b), .k 32 (.pointer (some ⟨b,5,none⟩))] ?_))))
  refine sqld 0 hu_11 ?_
  refine sqp [.k 34 (vi ((decL D.left))), .k 35 (vp b), .k 36 (.pointer (some ⟨b,5,none⟩))] ?_
  refine sqst (n:=1) 0 #[.slice PA D.pgs.length Pc, .slice GA D.log.size gc,vi ((D.fl:Int)), .bool D.off, .bool D.armed,vi ((decL D.left))] hu_11 fun W36 hst36=>?_
  refine then_normal (wp_seq ?_)
  obtain ⟨D1,hD1⟩:∃ z,({D with left:=decL D.left}:DkM)=z:=⟨_,rfl⟩
  obtain ⟨fp2,hk_37⟩:=St.dk (L:=[]) (D:={D with left:=decL D.left}) (PA:=PA) (Pc:=Pc) (GA:=GA) (gc:=gc) (hst36.pick [0,1,2,3] (by decide) rfl) hps hsub
  simp only [List.nil_append] at hk_37
  rw [hD1] at hk_37
  have hz1:D1.log.size≤10000000:=by rw [← hD1]; exact hz
  refine sqr (sqp [.m 37 2] ?_)
  refine sqc0s (fun X_=>X_.fp) (.tuple #[]) (fun r1_39=>eDk b (flD D1) r1_39) 0 hk_37 (by
    refine svA fun ρ β W X cx=>?_
    refine DoesU.call (run_callV (f:=132) (args:=#[]) (args':=#[vp b2]) rfl rfl (cx.ou 37) (by kernel_rfl) map0 rfl) ?_
    refine (kfl2_any b b2 D1 _ _ (CtxV.holdF cx (cx.init 0 _ rfl) rfl) (CtxV.ltF cx (cx.init 0 _ rfl) rfl) (h2.upd cx.upd n2) (CtxV.notin cx (cx.init 0 _ rfl) rfl n2 h2.lt) hz1).mono ?_
    rintro e W1 ⟨rfl,fp4,hs4⟩
    refine ⟨_,rfl,post_obj (E:=eDk b D1 fp2) [eDk b (flD D1) fp4] (cx.init 0 _ rfl) rfl rfl hs4 (fun σ β' X' hs hb hv hN=>?_)⟩
    have hv1:=(hv 38 rfl).1; have hv2:=(hv 38 rfl).2
    exact ⟨hv1.trans rfl,eDk_self ((List.cons.inj hN).1)⟩) fun r1_39 W39 hst39=>?_
  refine then_normal (wp_seq (sqr (sqp [.k 6 (vi 0)] ?_)))
  refine then_normal (wp_ret ?_)
  refine bpr (vi 0) (results_1 Tryz.results126 rpt) ?_
  exact OpPost.of (R':=(flD D1,0)) (by rw [opD,if_neg (by have h_:=hon.trans hs5; simpa using h_),if_neg (by decide),if_neg (by have h_:=hs23; intro h2_; simp [h2_.1,h2_.2] at h_),hD1]) hst39
 refine wp_cond_true (show Act.eval _ _= .bool true from (congrArg Value.bool (by rw [hs5]; rfl))) (wp_seq (sqr (sqp [.k 6 (vi 24)] ?_)))
 refine then_normal (wp_ret (then_ret ?_))
 refine bpr (vi 24) (results_1 Tryz.results126 rpt) ?_
 exact OpPost.of (R':=(D,24)) (by rw [opD,if_pos (by simpa using hon.trans hs5)]) hst3
theorem kflush_any (b:Nat) (D:DkM) (fp:List Nat) (w:World) (hB:(eDk b D fp).holds w) (hlt:∀ k∈fp,k < w.heap.size) (hz:D.log.size≤10000000):
  Calls Tryz.prog 63 #[.pointer (some ⟨b,0,none⟩)] w (OpPost b (opD D 0 flD) fp w):=by
 have st1:St w fp [eDk b D fp] w:=St.lend hB (eDk_loc _ _ _) hlt
 go_enter Tryz.func63,Tryz.ntmps63
 have hst0:=st1
 refine wp_seq (sqr ?_)
 refine sqbx #[vp b] hst0 fun B1_1 W1 hst1=>?_
 refine sqp [.k 2 (vi 0)] ?_
 refine then_normal (wp_seq (sqr (sqld 1 hst1 ?_)))
 refine sqv (.func (.func 132) #[] #[vp B1_1]) hst1 (by
   exact sv0 rfl rfl rfl rfl rfl (fun _ _ _ h=>h) fun ρ β W X cx=>by
    have fF1:ρ (.tmp 1)=vp B1_1:=(cx.ou 1)
    simp [go_sem,Instr.makeFunc,fF1]) fun W4 hst4=>?_
 refine sqc0s (fun X_=>X_.fp) (vi ((opD D 0 flD).2)) (fun r2_5=>eDk b ((opD D 0 flD).1) r2_5) 0 hst4 (by
   refine svA fun ρ β W X cx=>?_
   refine DoesU.call (run_callF (args:=#[vp b, .func (.func 131) #[] #[], .func (.func 132) #[] #[vp B1_1]]) rfl cx.sees rfl (by kernel_rfl) (map3 (cx.ou 3) (cx.sees.func _) (cx.ou 4))) ?_
   refine (kopfl_any b _ D _ _ (CtxV.holdF cx (cx.init 0 _ rfl) rfl) (CtxV.ltF cx (cx.init 0 _ rfl) rfl) (cx.bi 1 rfl) (by have h_:=cx.ap 1 0 rfl rfl (by decide); rw [(cx.init 1 _ rfl),(cx.init 0 _ rfl)] at h_; exact h_ _ (List.mem_singleton.2 rfl)) hz).mono ?_
   rintro e W1 ⟨rfl,fp4,hs4⟩
   refine ⟨_,rfl,post_obj (E:=eDk b D fp) [eDk b (opD D 0 flD).1 fp4] (cx.init 0 _ rfl) rfl rfl hs4 (fun σ β' X' hs hb hv hN=>?_)⟩
   have hv1:=(hv 5 rfl).1; have hv2:=(hv 5 rfl).2
   exact ⟨hv1.trans rfl,eDk_self ((List.cons.inj hN).1)⟩) fun r2_5 W5 hst5=>?_
 refine sqp [.m 2 5] ?_
 refine then_normal (wp_ret ?_)
 refine bpr (vi ((opD D 0 flD).2)) (results_1 Tryz.results63 rpt) ?_
 exact OpPost.of rfl (hst5.pick [0] (by decide) rfl)
end
section
open Go.RowKit
def z5:H5:=⟨zerosS 512,zerosS_size 512⟩
def sh0:ShT:=⟨z5,none,0,[]⟩
def newD (n:Nat):DkM:=⟨List.replicate n ⟨z5,[]⟩,⟨#[]⟩,0,false,false,0⟩
theorem nums_zero (n:Nat):nums (zerosS n)=List.replicate n 0:=by
 show ((zerosS n).data.toList).map _= _
 rw [zerosS_l,List.map_replicate]; rfl
theorem hvC_zero:hvC z5=List.replicate 512 (.int .u8 0):=by
 show (nums (zerosS 512)).map _= _
 rw [nums_zero,List.map_replicate]
def zSh:Value:= .agg (List.replicate 512 (Value.int .u8 0)++[Value.slice none 0 0]).toArray
theorem zSh_cells:zSh.cells.toList=shC sh0:=by
 show (List.replicate 512 (Value.int .u8 0)++[Value.slice none 0 0]).toArray.toList=hvC z5++[.slice none 0 0]
 rw [hvC_zero]
theorem zSh_size:zSh.cells.size=513:=by rw [← Array.length_toList,zSh_cells,shC_len]
theorem Tryz.infoSheetJ:(Tryz.prog.info? 144).map (fun i=>(i.zero,i.size,i.bytes))=some (some zSh,513,536):=by kernel_rfl
theorem zsh_rows (n:Nat):(madeCells zSh.cells (n*513)).toList=(List.replicate n sh0).flatMap shC:=by
 have h:=madeCells_flat shC sh0 zSh.cells zSh_cells (by rw [zSh_size]; decide) n
 rw [zSh_size] at h; exact h
section
variable {P:Program} {o:Oper} {ρ:Operand→Value} {W:World}
theorem run_max2 {x y:Operand} {ts:Array TypeId} {k k':IntKind} {a b z:Int} (h:o.op= .call {callee:= .builtin .max,args:=#[x,y],argTypes:=ts}) (hx:ρ x= .int k a) (hy:ρ y= .int k' b) (hz:max a b=z):(execOp ρ o).run P W= .ok (.value (.int k z)) W:=by
 subst hz
 unfold execOp; rw [h]
 simp only [resolve,invoke,builtin,List.map_toArray,List.map_cons,List.map_nil,hx,hy,Sem.run_bind,Sem.run_pure,Result.andThen_ok]
 have e:(Builtin.max_ ts o.type #[.int k a, .int k' b]).run P W= .ok (.int k (max a b)) W:=by
  unfold Builtin.max_
  show (List.foldlM Builtin.max2 (.int k a) [.int k' b]).run P W= _
  simp only [List.foldlM_cons,List.foldlM_nil,Builtin.max2]
  have h2:(if a < b then b else a)=max a b:=by omega
  rw [h2]
  rfl
 rw [e]
 rfl
end
def NwPost (n:Nat) (w:World) (e:Ending) (w':World):Prop:=∃ b,e= .returned (.pointer (some ⟨b,0,none⟩))∧∃ fp,St w [] [eDk b (newD n) fp] w'
theorem St.dkNew {w0 W:World} {bor:List Nat} {a b:Ent} (n:Nat) (h:St w0 bor [a,b] W):St w0 bor ([a,b]++[eO 5 1 (.slice none 0 0) 0 [],eWs (List.replicate n sh0)]) W:=by
 have h1:=nilrowN h 5 1
 have h3:=nilrowN h 142 512
 have h5:=h3.ok (entW sh0) (by simp [entW,sh0])
 have h2:=St.addE (R:=(List.replicate n sh0).map entW) h1 (fun e he=>by
  rw [List.map_replicate] at he
  rw [(List.mem_replicate.1 he).2]
  exact ⟨rfl,h5.holds,h5.loc⟩)
 have h4:=h2.packA
 simp only [List.append_assoc] at h4 ⊢; exact h4
theorem knew_any (n:Nat) (w:World) (hn:n≤400):
  Calls Tryz.prog 19 #[.int .i64 ((n:Int))] w (NwPost n w):=by
 go_enter Tryz.func19,Tryz.ntmps19
 have hst0:=St.start w
 refine wp_seq (sqr (sqp [.k 2 (.pointer none)] ?_))
 refine then_normal (wp_seq (sqr (sqp [.m 3 0] ?_)))
 refine sql (vi ((n:Int))) hst0 (fun cx=>run_min2 rfl (cx.ou 3) (cx.co _) (by omega)) ?_
 refine sql (vi ((n:Int))) hst0 (fun cx=>run_max2 rfl (cx.co _) (cx.ou 4) (by omega)) ?_
 refine sqn1 (fun x_=>sA x_) (fun A6_5=> .slice A6_5 n n) (fun A6_5=>eO 144 513 (.slice A6_5 n n) n ((List.replicate n sh0).flatMap shC)) hst0 (by
   refine svA fun ρ β W X cx=>?_
   obtain ⟨i0,hi0,hz0,hz1,hz2⟩:=info_parts Tryz.infoSheetJ
   exact dv_makeN (n:=n) (sz:=513) rfl (by kernel_rfl) hi0 hz0 hz1 hz2 (cx.ou 5) (cx.ou 5) (by omega) (by omega) (by omega) (by omega) (by simp only [maxLen]; omega) (zsh_rows n) rfl rfl (fun σ β' X' hs hb hv hx=>⟨hv,hx⟩)) fun A6_5 W5 hst5=>?_
 refine sqp [.k 7 (.agg #[.slice A6_5 n n, .slice none 0 0,vi 0, .bool false, .bool false,vi 0])] ?_
 refine sqbx #[.slice A6_5 n n, .slice none 0 0,vi 0, .bool false, .bool false,vi 0] hst5 fun B8_7 W7 hst7=>?_
 refine sqp [.m 2 8] ?_
 refine then_normal (wp_ret ?_)
 refine bpr (vp B8_7) (results_1 Tryz.results19 rpt) ?_
 exact ⟨_,rfl,St.dk (L:=[]) (D:=newD n) (PA:=A6_5) (Pc:=n) (GA:=none) (gc:=0) (Ps:=List.replicate n sh0) (Qs:=List.replicate n sh0) (by have h_:=St.dkNew n (hst7.pick [1,0] (by decide) rfl); rw [show dkL B8_7 (newD n) A6_5 n none 0 (List.replicate n sh0) (List.replicate n sh0)= _ from by rw [dkL,dkC,show (newD n).pgs.length=n from List.length_replicate]]; exact h_) (by rw [List.map_replicate]; rfl) rfl⟩
end
section
open Go.RowKit
theorem own_le {w:World} {base n c size:Nat} {e:TypeId} {A:Option Addr} {xs:List Value} (h:w.ownsRow base e size (.slice A n c) n xs):n≤c:=by
 rcases h.2 with ⟨hv,h0⟩ | ⟨g,cap,cur,hv, _, _,hle, _⟩
 ·omega
 ·injection hv with h1 h2 h3
  omega
theorem own_trunc {w:World} {base n c size m:Nat} {e:TypeId} {A:Option Addr} {xs:List Value} (h:w.ownsRow base e size (.slice A n c) n xs) (hm:m≤n):w.ownsRow base e size (.slice A m c) m (xs.take (m*size)):=by
 obtain ⟨hl,h2⟩:=h
 have hms:m*size≤n*size:=Nat.mul_le_mul_right _ hm
 refine ⟨by rw [List.length_take]; omega,?_⟩
 rcases h2 with ⟨hv,h0⟩ | ⟨g,cap,cur,hv,hb,hg,hle,hmx,hcs,htk⟩
 ·injection hv with h1 h3 h4
  have:m=0:=by omega
  subst this h1 h4
  exact .inl ⟨rfl,rfl⟩
 ·injection hv with h1 h3 h4
  subst h1 h4
  refine .inr ⟨g,c,cur,rfl,hb,hg,by omega,hmx,hcs,?_⟩
  rw [← htk,List.take_take,Nat.min_eq_left hms]
theorem nums_take (s:ByteArray) (m:Nat):(nums s).take m=nums (s.extract 0 m):=by
 rw [nums,nums,bl_extract,List.drop_zero,Nat.sub_zero,List.map_take]
def ctD (k:Nat) (D:DkM):DkM:={D with log:=D.log.extract 0 k,fl:=min D.fl k}
def ctE (D:DkM) (n:Int):Int:=if n < 0∨(D.log.size:Int) < n then 1 else 0
theorem St.trunc {w W:World} {bor:List Nat} {L1 L2:List Ent} {GA:Option Addr} {gc m:Nat} {s:ByteArray} (h:St w bor (L1++eO 5 1 (.slice GA s.size gc) s.size ((nums s).map (Value.int .u8))::L2) W) (hm:m≤s.size):St w bor (L1++eO 5 1 (.slice GA (s.extract 0 m).size gc) (s.extract 0 m).size ((nums (s.extract 0 m)).map (Value.int .u8))::L2) W:=by
 have hz:(s.extract 0 m).size=m:=by rw [ByteArray.size_extract]; omega
 rw [hz]
 refine St.repl h (by cases GA<;>rfl) (fun h2=>?_) (eO_loc _ _ _ _ _)
 have h3:=own_trunc (m:=m) h2 hm
 rw [Nat.mul_one,← List.map_take,nums_take] at h3
 exact h3
theorem kct2_any (b b2 b3:Nat) (D:DkM) (k:Nat) (fp:List Nat) (w:World) (hB:(eDk b D fp).holds w) (hlt:∀ k∈fp,k < w.heap.size) (h2:Blk w b2 30 #[.pointer (some ⟨b,0,none⟩)]) (h3:Blk w b3 3 #[.int .i64 (k:Int)]) (n2:b2∉fp) (n3:b3∉fp) (n23:b2≠b3) (hz:D.log.size≤10000000) (hk:k≤D.log.size):
  Calls Tryz.prog 128 #[.pointer (some ⟨b2,0,none⟩), .pointer (some ⟨b3,0,none⟩)] w (DoPost0 b (ctD k D) fp w):=by
 have st1:=St.lend hB (eDk_loc _ _ _) hlt
 obtain ⟨PA,Pc,GA,gc,Ps,Qs,hps,hsub,hfp,hap,hall⟩:=hB
 have st0:=St.unpack st1 hfp hall hap
 have hgc:D.log.size≤gc:=own_le (hall (eO 5 1 (.slice GA D.log.size gc) D.log.size ((nums D.log).map (Value.int .u8))) (by simp [dkL])).1
 have st2:St w (b2::b3::fp) [eB b 100 #[.slice PA D.pgs.length Pc, .slice GA D.log.size gc, .int .i64 ((D.fl:Int)), .bool D.off, .bool D.armed, .int .i64 D.left],eO 144 513 (.slice PA D.pgs.length Pc) D.pgs.length (Ps.flatMap shC),eO 5 1 (.slice GA D.log.size gc) D.log.size ((nums D.log).map (Value.int .u8)),eWs Qs,eB b2 30 #[.pointer (some ⟨b,0,none⟩)],eB b3 3 #[.int .i64 ((k:Int))]] w:=St.with2 st0 h2 h3 n2 n3 n23 (fun e he k hk=>by rw [show fp=(eDk b D fp).fp from rfl,show (eDk b D fp).fp= _ from hfp]; exact List.mem_flatMap.2 ⟨e,he,hk⟩)
 go_enter Tryz.func128,Tryz.ntmps128
 have hst0:=st2
 refine wp_region_Y [0,0,0,4,12,28,0,124,0,256,768,1792,0,7936,4093,20477,53245,131071,262143,524287] [[4],[4],[4],[],[],[0],[5],[],[4],[],[],[0],[5],[],[],[],[0],[],[],[6]] [[],[],[],[],[],[],[],[],[],[],[],[],[],[],[],[],[6],[],[],[7]] [[],[],[],[],[],[],[],[],[],[],[],[],[],[],[],[],[0],[],[],[6]] [.c 2 (vp b), .c 3 (vp b), .c 4 (vp b), .k 5 (vp b), .k 6 (.pointer (some ⟨b,1,none⟩)), .c 7 (.slice GA D.log.size gc), .c 8 (vi ((k:Int))), .c 9 (.slice GA k gc), .c 10 (vp b), .k 11 (vp b), .k 12 (.pointer (some ⟨b,2,none⟩)), .c 13 (vi ((D.fl:Int))), .c 14 (vi ((k:Int))), .c 15 (vi (((min D.fl k:Nat):Int))), .k 16 (vp b), .k 17 (.pointer (some ⟨b,1,none⟩)), .n, .k 18 (vp b), .k 19 (.pointer (some ⟨b,2,none⟩)), .n] (fun ix σ β X=>match ix with | 0=>True | 1=>True | 2=>True | 3=>True | 4=>True | 5=>True | 6=>True | 7=>True | 8=>True | 9=>True | 10=>True | 11=>True | 12=>True | 13=>True | 14=>True | 15=>True | 16=>X 6=eB b 100 #[.slice PA D.pgs.length Pc, .slice GA k gc,vi ((D.fl:Int)), .bool D.off, .bool D.armed,vi D.left] | 17=>True | 18=>True | 19=>X 7=eB b 100 #[.slice PA D.pgs.length Pc, .slice GA k gc,vi (((min D.fl k:Nat):Int)), .bool D.off, .bool D.armed,vi D.left] | _=>True) [1,2,3,4,5,7] [0,1,2,5,6,7,8,11,12,13,16,19] [(2,0,19,20)] hst0 ?_ ?_ ?_
 ·exact fun ix _ _ _ _ _ _ hs hb hx h=>match ix,h with
  | 16,h=>by dsimp only; rw [← hx 6 rfl]; exact h
  | 19,h=>by dsimp only; rw [← hx 7 rfl]; exact h
  | 0, _ | 1, _ | 2, _ | 3, _ | 4, _ | 5, _ | 6, _ | 7, _ | 8, _ | 9, _ | 10, _ | 11, _ | 12, _ | 13, _ | 14, _ | 15, _ | 17, _ | 18, _ | _+20, _=>trivial
 ·refine ⟨?_,?_,?_,?_,?_,?_,?_,?_,?_,?_,?_,?_,trivial⟩
  ·exact xs4 rfl id fun cx=>run_load1 rfl (by kernel_rfl) (cx.ou 0) ((cx.bi 4 rfl).cell 0)
  ·exact xs4 rfl id fun cx=>run_load1 rfl (by kernel_rfl) (cx.ou 0) ((cx.bi 4 rfl).cell 0)
  ·exact xs4 rfl id fun cx=>run_load1 rfl (by kernel_rfl) (cx.ou 0) ((cx.bi 4 rfl).cell 0)
  ·exact xs4 rfl id fun cx=>run_load1 rfl (by kernel_rfl) (cx.an 4) ((cx.bi 0 rfl).cell 1)
  ·exact xs4 rfl id fun cx=>run_load1 rfl (by kernel_rfl) (cx.ou 1) ((cx.bi 5 rfl).cell 0)
  ·exact xs4 rfl id fun cx=>run_sliceL_hi (e:=5) (sz:=1) (m:=k) rfl (by kernel_rfl) (by kernel_rfl) (cx.an 5) (cx.an 6) (by omega) (by omega)
  ·exact xs4 rfl id fun cx=>run_load1 rfl (by kernel_rfl) (cx.ou 0) ((cx.bi 4 rfl).cell 0)
  ·exact xs4 rfl id fun cx=>run_load1 rfl (by kernel_rfl) (cx.an 10) ((cx.bi 0 rfl).cell 2)
  ·exact xs4 rfl id fun cx=>run_load1 rfl (by kernel_rfl) (cx.ou 1) ((cx.bi 5 rfl).cell 0)
  ·exact xs4 rfl id fun cx=>run_min2 rfl (cx.an 11) (cx.an 12) (by omega)
  ·refine svA fun ρ β W X cx=>?_
   exact dv_store (n:=1) rfl (cx.an 15) (cx.an 7) (by kernel_rfl) (by kernel_rfl) (by kernel_rfl) cx (cx.init 0 _ rfl) rfl (nle rfl) (by kernel_rfl) rfl rfl rfl (fun σ β' X' hs hb hx=>hx)
  ·refine svA fun ρ β W X cx=>?_
   exact dv_store (n:=1) rfl (cx.an 18) (cx.an 13) (by kernel_rfl) (by kernel_rfl) (by kernel_rfl) cx (dTn (cx.an 16)) rfl (nle rfl) (by kernel_rfl) rfl rfl rfl (fun σ β' X' hs hb hx=>hx)
 intro σ β X W1 hD hst1 fr hfr
 simp only [exq 7 ((dTn (hD 19 lq)))] at hst1
 clear hD; subst hfr; clear σ β X
 refine bpe (.tuple #[]) (by simp [results,Tryz.results128,go_sem]) ?_
 have hl_:=St.less2 (L:=[eB b 100 #[.slice PA D.pgs.length Pc, .slice GA k gc,vi (((min D.fl k:Nat):Int)), .bool D.off, .bool D.armed,vi D.left],eO 144 513 (.slice PA D.pgs.length Pc) D.pgs.length (Ps.flatMap shC),eO 5 1 (.slice GA D.log.size gc) D.log.size ((nums D.log).map (Value.int .u8)),eWs Qs]) (hst1.pick [5,0,1,2,3,4] (by decide) rfl) h2 h3
 have hl2_:=St.trunc (L1:=[eB b 100 #[.slice PA D.pgs.length Pc, .slice GA k gc,vi (((min D.fl k:Nat):Int)), .bool D.off, .bool D.armed,vi D.left],eO 144 513 (.slice PA D.pgs.length Pc) D.pgs.length (Ps.flatMap shC)]) (L2:=[eWs Qs]) (m:=k) hl_ hk
 have hz_:(D.log.extract 0 k).size=k:=by rw [ByteArray.size_extract]; omega
 exact ⟨rfl,St.dk (L:=[]) (D:=ctD k D) (PA:=PA) (Pc:=Pc) (GA:=GA) (gc:=gc) (by rw [show dkL b (ctD k D) PA Pc GA gc Ps Qs=[eB b 100 #[.slice PA D.pgs.length Pc, .slice GA k gc,vi (((min D.fl k:Nat):Int)), .bool D.off, .bool D.armed,vi D.left],eO 144 513 (.slice PA D.pgs.length Pc) D.pgs.length (Ps.flatMap shC),eO 5 1 (.slice GA (D.log.extract 0 k).size gc) (D.log.extract 0 k).size ((nums (D.log.extract 0 k)).map (Value.int .u8)),eWs Qs] from by rw [dkL,dkC,show (ctD k D).log=D.log.extract 0 k from rfl,hz_]; rfl]; exact hl2_) hps hsub⟩
end
section
open Go.RowKit
theorem kct1_o (b b2 b3:Nat) (D:DkM) (n:Int) (PA:Option Addr) (Pc:Nat) (GA:Option Addr) (gc:Nat) (Ps:List ShT) (w:World) (hB:DkO w b D PA Pc GA gc Ps) (h2:Blk w b2 30 #[.pointer (some ⟨b,0,none⟩)]) (h3:Blk w b3 3 #[.int .i64 n]) (hz:D.log.size≤10000000):
  Calls Tryz.prog 127 #[.pointer (some ⟨b3,0,none⟩), .pointer (some ⟨b2,0,none⟩)] w (Ret (.int .i64 (ctE D n)) w):=by
 go_enter Tryz.func127,Tryz.ntmps127
 have hst0:=St.start w
 refine wp_seq (sqr (sqp [.k 2 (vi 0)] ?_))
 refine then_normal (wp_seq (wp_seq (wp_region_Z [0,1,3,7,7,23,55,119,247,511,1023] [] [.c 3 (vi n), .k 4 (.bool (decide (n < 0))), .k 5 (.bool (decide (n < 0))), .y 6 (!(decide (n < 0))) (vi n), .y 7 (!(decide (n < 0))) (vp b), .z 8 (!(decide (n < 0))) (vp b), .z 9 (!(decide (n < 0))) (.pointer (some ⟨b,1,none⟩)), .y 10 (!(decide (n < 0))) (.slice GA D.log.size gc), .z 11 (!(decide (n < 0))) (vi ((D.log.size:Int))), .z 12 (!(decide (n < 0))) (.bool (decide ((D.log.size:Int) < n))),tO 13 (decide (n < 0)) (decide ((D.log.size:Int) < n))] [] [0,3,4,7] [(3,0,11,14)] hst0 ?_ fun W2 hst2=>?_)))
 ·refine ⟨?_,?_,?_,?_,trivial⟩
  ·exact xs4 rfl id fun cx=>run_load1 rfl (by kernel_rfl) (cx.ou 0) ((Blk.ext h3 cx.upd.to_ext).cell 0)
  ·exact m2 rfl (fun _ _ _ h=>h) (fun cx=>(cx.an 2)) fun cx hq=>run_load1 rfl (by kernel_rfl) (cx.ou 0) ((Blk.ext h3 cx.upd.to_ext).cell 0)
  ·exact m2 rfl (fun _ _ _ h=>h) (fun cx=>(cx.an 2)) fun cx hq=>run_load1 rfl (by kernel_rfl) (cx.ou 1) ((Blk.ext h2 cx.upd.to_ext).cell 0)
  ·exact m2 rfl (fun _ _ _ h=>h) (fun cx=>(cx.an 2)) fun cx hq=>run_load1 rfl (by kernel_rfl) (mbv (cx.an 6) hq) ((Blk.ext hB.blkL cx.upd.to_ext).cell 1)
 refine then_normal (wbs (fun hs3=>?_) fun hs3=>?_)
 ·have hs3p:=hs3
  simp only [zB] at hs3p
  refine wp_seq (sqr (sqp [.k 2 (vi 1)] ?_))
  refine then_normal (wp_ret (then_ret ?_))
  refine bpr (vi 1) (results_1 Tryz.results127 rpt) ?_
  exact Ret.int (by rw [ctE,if_pos (by have h_:=hs3; simp at h_; omega)]) hst2.ext
 have hs3p:=hs3
 simp only [zB] at hs3p
 obtain ⟨hs3p1,hs3p2⟩:=hs3p
 refine wp_skip (then_normal (wp_seq (sqr (sqp [.k 2 (vi 0)] ?_))))
 refine then_normal (wp_ret ?_)
 refine bpr (vi 0) (results_1 Tryz.results127 rpt) ?_
 exact Ret.int (by rw [ctE,if_neg (by have h_:=hs3; simp at h_; omega)]) hst2.ext
theorem kct1_any (b b2 b3:Nat) (D:DkM) (n:Int) (w:World) (hB:DkAt w b D) (h2:Blk w b2 30 #[.pointer (some ⟨b,0,none⟩)]) (h3:Blk w b3 3 #[.int .i64 n]) (hz:D.log.size≤10000000):Calls Tryz.prog 127 #[.pointer (some ⟨b3,0,none⟩), .pointer (some ⟨b2,0,none⟩)] w (Ret (.int .i64 (ctE D n)) w):=by
 obtain ⟨PA,Pc,GA,gc,Ps,h1⟩:=hB
 exact kct1_o b b2 b3 D n PA Pc GA gc Ps w h1 h2 h3 hz
theorem kopct_any (b b2 b3:Nat) (D:DkM) (n:Int) (fp:List Nat) (w:World) (hB:(eDk b D fp).holds w) (hlt:∀ k∈fp,k < w.heap.size) (h2:Blk w b2 30 #[.pointer (some ⟨b,0,none⟩)]) (h3:Blk w b3 3 #[.int .i64 n]) (n2:b2∉fp) (n3:b3∉fp) (n23:b2≠b3) (hz:D.log.size≤10000000):
  Calls Tryz.prog 126 #[.pointer (some ⟨b,0,none⟩), .func (.func 127) #[] #[.pointer (some ⟨b3,0,none⟩), .pointer (some ⟨b2,0,none⟩)], .func (.func 128) #[] #[.pointer (some ⟨b2,0,none⟩), .pointer (some ⟨b3,0,none⟩)]] w (OpPost b (opD D (ctE D n) (ctD n.toNat)) fp w):=by
 have st1:St w fp [eDk b D fp] w:=St.lend hB (eDk_loc _ _ _) hlt
 go_enter Tryz.func126,Tryz.ntmps126
 have hst0:=st1
 refine wp_seq (sqr (sqp [.k 6 (vi 0)] ?_))
 refine then_normal (wp_seq (wp_seq ?_))
 obtain ⟨onv,hon⟩:∃ z,(!D.off)=z:=⟨_,rfl⟩
 refine sqr (sqp [.m 8 0] ?_)
 refine sqk (.bool onv) hst0 (fun cx=>⟨_,on_to hon (kon_any b D _ (eDk_at (CtxV.holdF cx (cx.init 0 _ rfl) rfl))),(map1 (cx.ou 8))⟩) fun W3 hst3=>?_
 refine sqp [.k 10 (.bool (!(onv)))] ?_
 refine then_normal ?_
 rcases Bool.eq_false_or_eq_true (onv) with hs5 | hs5
 ·refine wp_cond_false (show Act.eval _ _= .bool false from (congrArg Value.bool (by rw [hs5]; rfl))) (wp_skip (then_normal (wp_seq (wp_seq (sqr (sqp [.m 11 1] ?_))))))
  refine sqv (vi ((ctE D n))) hst3 (sv_call rfl rfl rfl rfl rfl (fun _ _ _ h=>h) fun ρ β W X cx=>⟨_, _,run_callV (f:=127) (args:=#[]) (args':=#[vp b3,vp b2]) rfl rfl (cx.ou 11) (by kernel_rfl) map0 rfl,kct1_any b b2 b3 D n _ (eDk_at (CtxV.holdF cx (cx.init 0 _ rfl) rfl)) (h2.upd cx.upd n2) (h3.upd cx.upd n3) hz⟩) fun W7 hst7=>?_
  refine sqp [.m 7 12] ?_
  refine then_normal (wp_seq (sqr (sqp [.m 13 7, .k 14 (.bool ((ctE D n) != 0))] ?_)))
  refine then_normal (wbs (fun hs11=>?_) fun hs11=>?_)
  ·have hs11p:=bne_iff_ne.1 hs11
   refine wp_seq (sqr (sqp [.m 15 7, .m 6 15] ?_))
   refine then_normal (wp_ret (then_ret ?_))
   refine bpr (vi ((ctE D n))) (results_1 Tryz.results126 rpt) ?_
   exact OpPost.of (R':=(D,ctE D n)) (by rw [opD,if_neg (by have h_:=hon.trans hs5; simpa using h_),if_pos (by simpa using hs11)]) hst7
  have hs11p:=bne_eq_false_iff_eq.1 hs11
  refine wp_skip (then_normal (wp_seq (wp_seq ?_)))
  have hD_:(eDk b D fp).holds W7:=(hst7.ok _ (List.mem_singleton.2 rfl)).holds
  obtain ⟨PA,Pc,GA,gc,Ps,Qs,hps,hsub,hfp,hap,hall⟩:=hD_
  have hu_14:St w fp [eB b 100 #[.slice PA D.pgs.length Pc, .slice GA D.log.size gc,vi ((D.fl:Int)), .bool D.off, .bool D.armed,vi D.left],eO 144 513 (.slice PA D.pgs.length Pc) D.pgs.length (Ps.flatMap shC),eO 5 1 (.slice GA D.log.size gc) D.log.size ((nums D.log).map (Value.int .u8)),eWs Qs] W7:=St.unpack hst7 hfp hall hap
  refine sqr (sqp [.m 16 0, .k 17 (vp b), .k 18 (.pointer (some ⟨b,4,none⟩))] ?_)
  refine sqld 0 hu_14 ?_
  refine sqp [.m 20 19] ?_
  refine sqw' 20 [21,22,23,24,25] ?_ rfl (fun hq=>?_) ?_
  rotate_left
  ·refine sqp [.m 21 0, .k 22 (vp b), .k 23 (.pointer (some ⟨b,5,none⟩))] ?_
   refine sqld 0 hu_14 ?_
   refine sqp [.k 25 (.bool (decide (D.left≤0)))] ?_
   exact sqe
  refine sqwx ?_
  refine sqp [sPa 26 D.armed (decide (D.left≤0))] ?_
  refine then_normal (wbs (fun hs26=>?_) fun hs26=>?_)
  ·have hs26p:=hs26
   simp only [zB] at hs26p
   obtain ⟨hs26p1,hs26p2⟩:=hs26p
   refine wp_seq (sqr (sqp [.m 27 0, .k 28 (vp b), .k 29 (.pointer (some ⟨b,3,none⟩))] ?_))
   refine sqst (n:=1) 0 #[.slice PA D.pgs.length Pc, .slice GA D.log.size gc,vi ((D.fl:Int)), .bool true, .bool D.armed,vi D.left] hu_14 fun W30 hst30=>?_
   refine then_normal (wp_seq (sqr (sqp [.k 6 (vi 24)] ?_)))
   refine then_normal (wp_ret (then_ret ?_))
   refine bpr (vi 24) (results_1 Tryz.results126 rpt) ?_
   obtain ⟨fp2,hk_⟩:=St.dk (L:=[]) (D:={D with off:=true}) (PA:=PA) (Pc:=Pc) (GA:=GA) (gc:=gc) (hst30.pick [0,1,2,3] (by decide) rfl) hps hsub
   exact OpPost.of (R':=({D with off:=true},24)) (by rw [opD,if_neg (by have h_:=hon.trans hs5; simpa using h_),if_neg (by simpa using hs11),if_pos (by simpa using hs26)]) hk_
  have hs26p:=hs26
  simp only [zB] at hs26p
  refine wp_skip (then_normal (wp_seq (sqr (sqp [.m 30 0, .k 31 (vp b), .k 32 (.pointer (some ⟨b,5,none⟩))] ?_))))
  refine sqld 0 hu_14 ?_
  refine sqp [.k 34 (vi ((decL D.left))), .k 35 (vp b), .k 36 (.pointer (some ⟨b,5,none⟩))] ?_
  refine sqst (n:=1) 0 #[.slice PA D.pgs.length Pc, .slice GA D.log.size gc,vi ((D.fl:Int)), .bool D.off, .bool D.armed,vi ((decL D.left))] hu_14 fun W39 hst39=>?_
  refine then_normal (wp_seq ?_)
  obtain ⟨D1,hD1⟩:∃ z,({D with left:=decL D.left}:DkM)=z:=⟨_,rfl⟩
  obtain ⟨fp2,hk_40⟩:=St.dk (L:=[]) (D:={D with left:=decL D.left}) (PA:=PA) (Pc:=Pc) (GA:=GA) (gc:=gc) (hst39.pick [0,1,2,3] (by decide) rfl) hps hsub
  simp only [List.nil_append] at hk_40
  rw [hD1] at hk_40
  have hz1:D1.log.size≤10000000:=by rw [← hD1]; exact hz
  have hk0_:0≤n∧n≤(D.log.size:Int):=by have h_:=hs11; simp only [ctE] at h_; split at h_; (simp at h_); omega
  obtain ⟨k,rfl⟩:∃ k:Nat,n=(k:Int):=⟨n.toNat,by omega⟩
  have hk1:k≤D1.log.size:=by rw [← hD1]; show k≤D.log.size; omega
  refine sqr (sqp [.m 37 2] ?_)
  refine sqc0s (fun X_=>X_.fp) (.tuple #[]) (fun r1_42=>eDk b (ctD k D1) r1_42) 0 hk_40 (by
    refine svA fun ρ β W X cx=>?_
    refine DoesU.call (run_callV (f:=128) (args:=#[]) (args':=#[vp b2,vp b3]) rfl rfl (cx.ou 37) (by kernel_rfl) map0 rfl) ?_
    refine (kct2_any b b2 b3 D1 k _ _ (CtxV.holdF cx (cx.init 0 _ rfl) rfl) (CtxV.ltF cx (cx.init 0 _ rfl) rfl) (h2.upd cx.upd n2) (h3.upd cx.upd n3) (CtxV.notin cx (cx.init 0 _ rfl) rfl n2 h2.lt) (CtxV.notin cx (cx.init 0 _ rfl) rfl n3 h3.lt) n23 hz1 hk1).mono ?_
    rintro e W1 ⟨rfl,fp4,hs4⟩
    refine ⟨_,rfl,post_obj (E:=eDk b D1 fp2) [eDk b (ctD k D1) fp4] (cx.init 0 _ rfl) rfl rfl hs4 (fun σ β' X' hs hb hv hN=>?_)⟩
    have hv1:=(hv 38 rfl).1; have hv2:=(hv 38 rfl).2
    exact ⟨hv1.trans rfl,eDk_self ((List.cons.inj hN).1)⟩) fun r1_42 W42 hst42=>?_
  refine then_normal (wp_seq (sqr (sqp [.k 6 (vi 0)] ?_)))
  refine then_normal (wp_ret ?_)
  refine bpr (vi 0) (results_1 Tryz.results126 rpt) ?_
  exact OpPost.of (R':=(ctD k D1,0)) (by rw [opD,if_neg (by have h_:=hon.trans hs5; simpa using h_),if_neg (by simpa using hs11),if_neg (by have h_:=hs26; intro h2_; simp [h2_.1,h2_.2] at h_),hD1,Int.toNat_natCast]) hst42
 refine wp_cond_true (show Act.eval _ _= .bool true from (congrArg Value.bool (by rw [hs5]; rfl))) (wp_seq (sqr (sqp [.k 6 (vi 24)] ?_)))
 refine then_normal (wp_ret (then_ret ?_))
 refine bpr (vi 24) (results_1 Tryz.results126 rpt) ?_
 exact OpPost.of (R':=(D,24)) (by rw [opD,if_pos (by simpa using hon.trans hs5)]) hst3
theorem kcut_any (b:Nat) (D:DkM) (n:Int) (fp:List Nat) (w:World) (hB:(eDk b D fp).holds w) (hlt:∀ k∈fp,k < w.heap.size) (hz:D.log.size≤10000000):
  Calls Tryz.prog 60 #[.pointer (some ⟨b,0,none⟩), .int .i64 n] w (OpPost b (opD D (ctE D n) (ctD n.toNat)) fp w):=by
 have st1:St w fp [eDk b D fp] w:=St.lend hB (eDk_loc _ _ _) hlt
 go_enter Tryz.func60,Tryz.ntmps60
 have hst0:=st1
 refine wp_seq (sqr ?_)
 refine sqbx #[vp b] hst0 fun B2_1 W1 hst1=>?_
 refine sqbx #[vi n] hst1 fun B3_2 W2 hst2=>?_
 refine sqp [.k 4 (vi 0)] ?_
 refine then_normal (wp_seq (sqr (sqld 1 hst2 ?_)))
 refine sqv (.func (.func 127) #[] #[vp B3_2,vp B2_1]) hst2 (by
   exact sv0 rfl rfl rfl rfl rfl (fun _ _ _ h=>h) fun ρ β W X cx=>by
    have fF3:ρ (.tmp 3)=vp B3_2:=(cx.ou 3)
    have fF2:ρ (.tmp 2)=vp B2_1:=(cx.ou 2)
    simp [go_sem,Instr.makeFunc,fF3,fF2]) fun W5 hst5=>?_
 refine sqv (.func (.func 128) #[] #[vp B2_1,vp B3_2]) hst5 (by
   exact sv0 rfl rfl rfl rfl rfl (fun _ _ _ h=>h) fun ρ β W X cx=>by
    have fF2:ρ (.tmp 2)=vp B2_1:=(cx.ou 2)
    have fF3:ρ (.tmp 3)=vp B3_2:=(cx.ou 3)
    simp [go_sem,Instr.makeFunc,fF2,fF3]) fun W6 hst6=>?_
 refine sqc0s (fun X_=>X_.fp) (vi ((opD D (ctE D n) (ctD n.toNat)).2)) (fun r3_7=>eDk b ((opD D (ctE D n) (ctD n.toNat)).1) r3_7) 0 hst6 (by
   refine svA fun ρ β W X cx=>?_
   refine DoesU.call (run_callF (args:=#[vp b, .func (.func 127) #[] #[vp B3_2,vp B2_1], .func (.func 128) #[] #[vp B2_1,vp B3_2]]) rfl cx.sees rfl (by kernel_rfl) (map3 (cx.ou 5) (cx.ou 6) (cx.ou 7))) ?_
   refine (kopct_any b _ _ D n _ _ (CtxV.holdF cx (cx.init 0 _ rfl) rfl) (CtxV.ltF cx (cx.init 0 _ rfl) rfl) (cx.bi 1 rfl) (cx.bi 2 rfl) (by have h_:=cx.ap 1 0 rfl rfl (by decide); rw [(cx.init 1 _ rfl),(cx.init 0 _ rfl)] at h_; exact h_ _ (List.mem_singleton.2 rfl)) (by have h_:=cx.ap 2 0 rfl rfl (by decide); rw [(cx.init 2 _ rfl),(cx.init 0 _ rfl)] at h_; exact h_ _ (List.mem_singleton.2 rfl)) (by have h_:=cx.ap 1 2 rfl rfl (by decide); rw [(cx.init 1 _ rfl),(cx.init 2 _ rfl)] at h_; intro e_; exact h_ _ (List.mem_singleton.2 rfl) (List.mem_singleton.2 e_)) hz).mono ?_
   rintro e W1 ⟨rfl,fp4,hs4⟩
   refine ⟨_,rfl,post_obj (E:=eDk b D fp) [eDk b (opD D (ctE D n) (ctD n.toNat)).1 fp4] (cx.init 0 _ rfl) rfl rfl hs4 (fun σ β' X' hs hb hv hN=>?_)⟩
   have hv1:=(hv 8 rfl).1; have hv2:=(hv 8 rfl).2
   exact ⟨hv1.trans rfl,eDk_self ((List.cons.inj hN).1)⟩) fun r3_7 W7 hst7=>?_
 refine sqp [.m 4 8] ?_
 refine then_normal (wp_ret ?_)
 refine bpr (vi ((opD D (ctE D n) (ctD n.toNat)).2)) (results_1 Tryz.results60 rpt) ?_
 exact OpPost.of rfl (hst7.pick [0] (by decide) rfl)
end
section
open Go.RowKit
theorem hv_take (h:H5):strOfNums ((nums h.1).take 256)++strOfNums ((nums h.1).drop 256)=h.1:=by
 have e1:(nums h.1).take 256=nums (h.1.extract 0 256):=nums_take _ _
 have e2:(nums h.1).drop 256=nums (h.1.extract 256 512):=by
  rw [nums,nums,bl_extract,List.map_take,List.map_drop,List.take_of_length_le]
  rw [List.length_drop,List.length_map,bl_len,h.2]; decide
 rw [e1,e2,nums_str,nums_str]
 apply bl_inj
 rw [bl_append,bl_extract,bl_extract,List.drop_zero,Nat.sub_zero]
 rw [List.take_of_length_le (l:=(bl h.1).drop 256) (by rw [List.length_drop,bl_len,h.2]; decide),List.take_append_drop]
section
variable {P:Program} {o:Oper} {ρ:Operand→Value} {W:World}
/-- string(a[:]) of 256 bytes of an array in a block -/
theorem run_convAr {t t' e u:TypeId} {x:Operand} {g off:Nat} {xs:List Int} {ys:List Int} (h:o.op= .convert t t' x) (ht:P.underlying t=some (.slice e)) (he:P.underlying e=some (.int .u8)) (ht':P.underlying t'=some .string)
  (hx:ρ x= .slice (some ⟨g,off,none⟩) 256 256) (hb:Blk W g u (xs.map (Value.int .u8)).toArray) (hy:(xs.drop off).take 256=ys) (hl:off+256≤xs.length):(execOp ρ o).run P W= .ok (.value (.string (strOfNums ys))) W:=by
 subst hy
 have hr:=run_convert_bytes_arg W t e ht he g off 256 256 ((xs.drop off).take 256) (by rw [List.length_take,List.length_drop]; omega) (fun i hi=>?_) t' ht'
 ·unfold execOp; rw [h]
  simp only [hx,Sem.run_bind,hr,Result.andThen_ok,Sem.run_pure]
 ·rw [hb.cell (off+i),List.getElem?_toArray,List.getElem?_map,List.getD_eq_getElem?_getD,List.getElem?_take,if_pos hi,List.getElem?_drop]
  rw [List.getElem?_eq_getElem (by omega)]; rfl
theorem run_sliceArF {t e:TypeId} {x:Operand} {g off n:Nat} (h:o.op= .slice t x none none none) (ht:P.underlying t=some (.array n e)) (hz:szP P e=some 1) (hx:ρ x= .pointer (some ⟨g,off,none⟩)):(execOp ρ o).run P W= .ok (.value (.slice (some ⟨g,off,none⟩) n n)) W:=by
 have e1:P.arrayLen t=n:=by simp [Program.arrayLen,ht]
 have e2:P.elem t=e:=by simp [Program.elem,ht]
 have h1:=run_sliceAt_array_all (P:=P) W t ⟨g,off,none⟩ (by rw [e1,e2]; exact ht)
 rw [e1,e2,run_size hz] at h1
 unfold execOp; rw [h]
 simp only [hx,Sem.run_bind,Option.map_none,h1,Result.andThen_ok,Sem.run_pure,slicedAt]
 simp [Addr.add]
end
theorem khtext_any (h:H5) (w:World):
  Calls Tryz.prog 88 #[.agg (hvC h).toArray] w (Ret (.string h.1) w):=by
 have hzz:=congrArg ByteArray.size (hv_take h)
 rw [ByteArray.size_append,h.2] at hzz
 go_enter Tryz.func88,Tryz.ntmps88
 have hst0:=St.start w
 refine wp_seq (sqr ?_)
 refine sqn1 (fun x_=>pb x_) (fun B1_1=>vp B1_1) (fun B1_1=>eB B1_1 142 (hvC h).toArray) hst0 (by
   refine svA fun ρ β W X cx=>?_
   exact dv_box (cs:=(hvC h).toArray) rfl (cx.ou 0) rfl rfl rfl (fun σ β' X' hs hb hv hx=>⟨hv,hx⟩)) fun B1_1 W1 hst1=>?_
 refine sqp [.k 2 (.string ⟨#[]⟩)] ?_
 refine then_normal (wp_seq (wp_region_Z [0,1,3,0,8,24,63,127] [[],[],[0],[],[],[0]] [.c 3 (vp B1_1), .c 4 (.slice ((some ⟨B1_1,0,none⟩)) 256 256), .c 5 (.string (strOfNums ((nums h.1).take 256))), .c 6 (.pointer (some ⟨B1_1,256,none⟩)), .c 7 (.slice ((some ⟨B1_1,256,none⟩)) 256 256), .c 8 (.string (strOfNums ((nums h.1).drop 256))),tS 9 (strOfNums ((nums h.1).take 256)) (strOfNums ((nums h.1).drop 256)) (by omega), .k 2 (.string ((strOfNums ((nums h.1).take 256))++(strOfNums ((nums h.1).drop 256))))] [0] [0,1,2,3,4,5] [(2,7,1,3),(0,0,7,7)] hst1 ?_ fun W3 hst3=>?_))
 ·refine ⟨?_,?_,?_,?_,?_,?_,trivial⟩
  ·exact xs4 rfl id fun cx=>run_indexArrB (n:=2) (sz:=256) (m:=0) (q:=0) rfl (by kernel_rfl) (cx.ou 1) (cx.co _) (by omega) (by omega) (by omega)
  ·exact xs4 rfl id fun cx=>run_sliceArF (n:=256) (e:=5) rfl (by kernel_rfl) (by kernel_rfl) (cx.an 0)
  ·exact xs4 rfl id fun cx=>run_convAr (e:=5) (off:=0) (xs:=nums h.1) (ys:=(nums h.1).take 256) rfl (by kernel_rfl) (by kernel_rfl) (by kernel_rfl) (cx.an 1) (cx.bi 0 rfl) (by rw [List.drop_zero]) (by rw [nums_len,h.2]; decide)
  ·exact xs4 rfl id fun cx=>run_indexArrB (n:=2) (sz:=256) (m:=1) (q:=256) rfl (by kernel_rfl) (cx.ou 1) (cx.co _) (by omega) (by omega) (by omega)
  ·exact xs4 rfl id fun cx=>run_sliceArF (n:=256) (e:=5) rfl (by kernel_rfl) (by kernel_rfl) (cx.an 3)
  ·exact xs4 rfl id fun cx=>run_convAr (e:=5) (off:=256) (xs:=nums h.1) (ys:=(nums h.1).drop 256) rfl (by kernel_rfl) (by kernel_rfl) (by kernel_rfl) (cx.an 4) (cx.bi 0 rfl) (by rw [List.take_of_length_le]; rw [List.length_drop,nums_len,h.2]; decide) (by rw [nums_len,h.2]; decide)
 refine then_normal (wp_ret ?_)
 refine bpr (.string ((strOfNums ((nums h.1).take 256))++(strOfNums ((nums h.1).drop 256)))) (results_1 Tryz.results88 rpt) ?_
 exact Ret.of (by rw [hv_take]) hst3.ext
end
section
open Go.RowKit
def putL (xs:List Value) (off:Nat):List Value→List Value
 | []=>xs
 | v::l=>putL (xs.set off v) (off+1) l
theorem putL_mid:∀ (vs A B C:List Value),B.length=vs.length→putL (A++(B++C)) A.length vs=A++(vs++C)
 | [],A,B,C,h=>by
   obtain rfl:B=[]:=List.eq_nil_of_length_eq_zero h
   rfl
 | v::vs,A,[],C,h=>by simp at h
 | v::vs,A,b::B,C,h=>by
   rw [putL]
   have e:(A++(b::B++C)).set A.length v=(A++[v])++(B++C):=by simp
   have e2:A.length+1=(A++[v]).length:=by simp
   rw [e,e2,putL_mid vs (A++[v]) B C (by simpa using h)]
   simp
section
variable {P:Program} {ops:Array Oper} {L:List Nat} {a0:Act} {w0:World} {bor:List Nat} {X0:List Ent} {us cr kl:List (List Nat)}
 {D:Nat→(Tmp→Value)→(Tmp→Value)→(Nat→Ent)→Prop} {i:Nat} {o:Oper} {ρ:Operand→Value} {β:Tmp→Value} {W:World} {X:Nat→Ent}
theorem run_storeRowCells {g e sz n c:Nat}:∀ (vs:List Value) (m i:Nat) (xs:List Value) (W:World),W.ownsRow 0 e sz (.slice (some ⟨g,0,none⟩) n c) n xs→m+i+vs.length≤n*sz→(∀ v∈vs,v.oneCell'=true)→
  ∃ W',(storeCells ⟨g,m,none⟩ vs i).run P W= .ok () W'∧Upd [g] W W'∧W'.ownsRow 0 e sz (.slice (some ⟨g,0,none⟩) n c) n (putL xs (m+i) vs):=by
 intro vs
 induction vs with
 | nil=>intro m i xs W hb _ _; exact ⟨W,rfl,Upd.refl _ _,hb⟩
 | cons v vs ih=>
   intro m i xs W hown hle h1
   simp only [List.length_cons] at hle
   have hlen:xs.length=n*sz:=hown.1
   have hcell:W.cell? ⟨g,m+i,none⟩=some (xs[m+i]'(by omega)):=by
    rw [hown.cellAt (m+i) (by omega)]
    exact List.getElem?_eq_getElem (by omega)
   have hfz:=hown.frozenAt (m+i)
   have hst:=(hown.stored (m+i) v).1
   obtain ⟨W',h2,h3,h4⟩:=ih m (i+1) (xs.set (m+i) v) (W.setCell ⟨g,m+i,none⟩ v) hst (by omega) (fun x hx=>h1 x (by simp [hx]))
   refine ⟨W',?_,((Upd.refl [g] W).set (.inl (by simp)) v).trans h3,h4⟩
   unfold storeCells
   have hv:=h1 v (by simp)
   have hs1:(store ((⟨g,m,none⟩:Addr).add i) v).run P W= .ok () (W.setCell ⟨g,m+i,none⟩ v):=by
    rw [Addr.add_lit]
    unfold store
    cases v<;>first | (simp [Value.oneCell'] at hv; done) | (simp [Sem.run,hcell,hfz])
   simp only [Sem.run_bind,hs1,Result.andThen_ok,h2]
theorem dv_storeElt {t e sz k:Nat} {x y:Operand} {A:Option Addr} {n c m q q':Nat} {v:Value} {xs:List Value} (h:o.op= .store t x y) (hx:ρ x= .pointer (some ((ad A).add m))) (hy:ρ y=v) (hz:szP P t=some k) (hn:v.cells.size=k)
  (h1:v.cells.toList.all Value.oneCell'=true) (cx:CtxV ops L a0 w0 bor X0 us D i ρ β W X) (hX:X q=eO e sz (.slice A n c) n xs) (hu:(atV us i).contains q=true) (hm:m+k≤n*sz) (hk0:0 < k) (hd:o.dst=none) {xs':List Value} (hxs:putL xs m v.cells.toList=xs')
  (hc:atV cr i=[q']) (hk:atV kl i=[q]) (hD:∀ (σ β':Tmp→Value) (X':Nat→Ent),(∀ t,σ t=ρ (.tmp t))→(∀ t,β' t=β t)→X' q'=eO e sz (.slice A n c) n xs'→D i σ β' X'):DoesU P o ρ W (PostV cr kl D i o.dst ρ β W X):=by
 subst hxs
 have hok:=cx.ok q hu
 rw [hX] at hok
 have hown:W.ownsRow 0 e sz (.slice A n c) n xs:=hok.holds
 obtain ⟨g,rfl⟩:∃ g,A=some ⟨g,0,none⟩:=by
  rcases hown.2 with ⟨hv,hm0⟩ | ⟨g,cap,cur,hv, _⟩
  ·subst hm0; rw [Nat.zero_mul] at hm; omega
  ·injection hv with h1 h2 h3; exact ⟨g,h1⟩
 have hadd:(ad (some ⟨g,0,none⟩)).add m=⟨g,m,none⟩:=by rw [ad,Option.getD_some,Addr.add_lit,Nat.zero_add]
 obtain ⟨W',h2,h3,h4⟩:=run_storeRowCells (P:=P) v.cells.toList m 0 xs W hown (by simp [hn]; exact hm) (fun u hu=>List.all_eq_true.1 h1 u hu)
 have hrun:(execOp ρ o).run P W= .ok .skip W':=by
  unfold execOp; rw [h]
  simp only [hx,hy,hadd,Instr.storeAt,Instr.sureAddr,storeVar,Sem.run_bind,Sem.run_pure,Result.andThen_ok,run_size hz,hn,ne_eq,not_true_eq_false,if_false]
  rw [h2]
  rfl
 rw [Nat.add_zero] at h4
 refine DoesU.skip hrun ⟨[eO e sz (.slice (some ⟨g,0,none⟩) n c) n (putL xs m v.cells.toList)],by rw [hc]; rfl,⟨?_,fun e' he=>?_,List.pairwise_singleton _ _⟩,fun σ β' X' hs hv hb' hbv hx' hN=>hD σ β' X' (fun t=>hs t (by rw [hd]; simp)) (fun t=>hb' t (by rw [hd]; simp)) ?_⟩
 ·rw [hk]
  simp only [List.flatMap_cons,List.flatMap_nil,List.append_nil,hX]
  exact h3.mono (fun k _ hk'=>by simp at hk'; subst hk'; simp [eO,Value.ownBlock])
 ·rw [List.mem_singleton] at he
  subst he
  refine ⟨h4,eO_loc _ _ _ _ _,fun k hk'=>?_⟩
  have hkg:k=g:=by simpa [eO,Value.ownBlock] using hk'
  subst hkg
  refine ⟨.inl ?_,own0_block h4 k (by simp [Value.ownBlock])⟩
  rw [hk]
  simp [hX,eO,Value.ownBlock]
 ·rw [hc] at hN
  exact (List.cons.inj hN).1
end
end
section
open Go.RowKit
/-- what is written last -/
def rdT (x:ShD):H5:=x.ws.getLast?.getD x.safe
def shd0:ShD:=⟨z5,[]⟩
def rdS (D:DkM) (n:Int):ByteArray×Int:=if D.off=true then (⟨#[]⟩,24) else if 0≤n∧n < (D.pgs.length:Int) then ((rdT (D.pgs.getD n.toNat shd0)).1,0) else (⟨#[]⟩,22)
theorem shC_at (t:ShT):(shC t)[512]? =some (.slice t.A t.ws.length t.c):=by
 rw [shC,List.getElem?_append_right (by rw [hvC_len]; exact Nat.le_refl _),hvC_len]; rfl
theorem hvC_one (h:H5):∀ v∈hvC h,v.oneCell'=true:=fun v hv=>by
 obtain ⟨x, _,rfl⟩:=List.mem_map.1 hv
 rfl
theorem shC_one (t:ShT):∀ v∈shC t,v.oneCell'=true:=fun v hv=>by
 rcases List.mem_append.1 hv with h | h
 ·exact hvC_one _ v h
 ·rw [List.mem_singleton] at h; subst h; rfl
theorem getPs {Ps:List ShT} {k:Nat} (h:k < Ps.length):∃ t,Ps[k]? =some t:=⟨_,List.getElem?_eq_getElem h⟩
theorem ab_at {Ps:List ShT} {l:List ShD} (h:Ps.map shAb=l) {k:Nat} {t:ShT} (ht:Ps[k]? =some t):l.getD k shd0=shAb t:=by
 rw [← h,List.getD_eq_getElem?_getD,List.getElem?_map,ht]; rfl
theorem rdS_in {D:DkM} {k:Nat} {t:ShT} {Ps:List ShT} (ho:D.off=false) (h:Ps.map shAb=D.pgs) (ht:Ps[k]? =some t):rdS D (k:Int)=((rdT (shAb t)).1,0):=by
 have hl:D.pgs.length=Ps.length:=by rw [← h,List.length_map]
 have hk:=(List.getElem?_eq_some_iff.1 ht).1
 rw [rdS,if_neg (by rw [ho]; decide),if_pos ⟨by omega,by omega⟩,Int.toNat_natCast,ab_at h ht]
theorem rdT_none {t:ShT} (h:¬ (0:Int) < (t.ws.length:Int)):rdT (shAb t)=t.s:=by
 have:t.ws=[]:=List.eq_nil_of_length_eq_zero (by omega)
 rw [rdT,shAb]; dsimp only; rw [this]; rfl
theorem rdT_some {t:ShT} {k:Nat} {x:H5} (h:t.ws[k]? =some x) (hk:t.ws.length=k+1):rdT (shAb t)=x:=by
 rw [rdT,shAb]; dsimp only; rw [List.getLast?_eq_getElem?,hk,Nat.add_sub_cancel,h]; rfl
theorem kread_o (b:Nat) (D:DkM) (PA:Option Addr) (Pc:Nat) (GA:Option Addr) (gc:Nat) (Ps:List ShT) (n:Int) (w:World) (hB:DkO w b D PA Pc GA gc Ps) (hw:∀ x∈D.pgs,x.ws.length≤1000000000):
  Calls Tryz.prog 37 #[.pointer (some ⟨b,0,none⟩), .int .i64 n] w (Ret (.tuple #[.string (rdS D n).1, .int .i64 (rdS D n).2]) w):=by
 go_enter Tryz.func37,Tryz.ntmps37
 have hst0:=St.start w
 refine wp_seq (sqr (sqp [.k 4 (.string ⟨#[]⟩), .k 5 (vi 0)] ?_))
 refine then_normal (wp_seq (wp_block (wp_seq ?_)))
 obtain ⟨onv,hon⟩:∃ z,(!D.off)=z:=⟨_,rfl⟩
 refine sqr (sqp [.m 9 0] ?_)
 refine sqk (.bool onv) hst0 (fun cx=>⟨_,on_to hon (kon_o b D PA Pc GA gc Ps _ (hB.ext cx.upd.to_ext)),(map1 (cx.ou 9))⟩) fun W4 hst4=>?_
 refine sqp [.k 11 (.bool (!(onv))), .m 8 11] ?_
 refine then_normal ?_
 rcases Bool.eq_false_or_eq_true (onv) with hs7 | hs7
 ·refine wp_cond_false (show Act.eval _ _= .bool false from (congrArg Value.bool (by rw [hs7]; rfl))) (wp_seq (sqr (sqp [.m 13 0, .m 14 1] ?_)))
  refine sqk (.bool ((decide (0≤n)&&decide (n < (D.pgs.length:Int))))) hst4 (fun cx=>⟨_,kis_o b D PA Pc GA gc Ps n _ (hB.ext cx.upd.to_ext),(map2 (cx.ou 13) (cx.ou 14))⟩) fun W10 hst10=>?_
  refine sqp [.k 16 (.bool (!((decide (0≤n)&&decide (n < (D.pgs.length:Int)))))), .m 12 16] ?_
  refine then_normal ?_
  rcases Bool.eq_false_or_eq_true ((decide (0≤n)&&decide (n < (D.pgs.length:Int)))) with hs13 | hs13
  ·have hs13p:=hs13
   simp only [zB] at hs13p
   obtain ⟨hs13p1,hs13p2⟩:=hs13p
   refine wp_cond_false (show Act.eval _ _= .bool false from (congrArg Value.bool (by rw [hs13]; rfl))) (wp_skip (blk_normal (then_normal (wp_seq ?_))))
   have hPl:D.pgs.length=Ps.length:=by rw [← hB.ab,List.length_map]
   have hnn:0≤n∧n < (D.pgs.length:Int):=by have h_:=hs13; simp at h_; omega
   obtain ⟨k,rfl⟩:∃ k:Nat,n=(k:Int):=⟨n.toNat,by omega⟩
   obtain ⟨t,htk⟩:=getPs (Ps:=Ps) (k:=k) (by omega)
   have htm:=List.mem_of_getElem? htk
   have hwt:t.ws.length≤1000000000:=hw _ (by rw [← hB.ab]; exact List.mem_map.2 ⟨t,htm,rfl⟩)
   refine sqr (sqp [.m 17 0, .k 18 (vp b), .k 19 (vp b)] ?_)
   refine sql (.slice PA D.pgs.length Pc) hst10 (fun cx=>run_load1 rfl (by kernel_rfl) (cx.ou 19) ((Blk.ext hB.blkL cx.upd.to_ext).cell 0)) ?_
   refine sqp [.m 21 1] ?_
   refine sql (.pointer (some ((ad PA).add (k*513)))) hst10 (fun cx=>run_indexSlM (e:=144) (m:=k) (sz:=513) rfl (by kernel_rfl) (by kernel_rfl) (cx.ou 20) (cx.ou 21) (by omega) (by omega) (hB.at_.ext cx.upd.to_ext) (flatPos (sz:=513) shC_len (by decide) (by omega))) ?_
   refine sql (.agg (shC t).toArray) hst10 (fun cx=>run_loadElt (f:=shC) (m:=k) (sz:=513) (off:=0) (n:=513) rfl (by kernel_rfl) (by kernel_rfl) (cx.ou 22) (List.size_toArray.trans (shC_len t)) shC_len (hB.at_.ext cx.upd.to_ext) htk (fun k hk=>by rw [List.getElem?_toArray,Nat.zero_add])) ?_
   refine sqn1 (fun x_=>pb x_) (fun B6_21=>vp B6_21) (fun B6_21=>eB B6_21 144 (shC sh0).toArray) hst10 (by
     refine svA fun ρ β W X cx=>?_
     exact dv_alloc (cs:=(shC sh0).toArray) rfl (by kernel_rfl) rfl rfl (fun σ β' X' hs hb hv hx=>⟨hv,hx⟩)) fun B6_21 W21 hst21=>?_
   refine sqc (eB B6_21 144 (shC t).toArray) 0 hst21 (by
     refine svA fun ρ β W X cx=>?_
     exact dv_storeL (n:=513) rfl (cx.ou 6) (show _=Value.agg (shC t).toArray from (cx.ou 23)) (by kernel_rfl) (by simp [shC_len]) (by simp [shC_len]) (shC_one t) cx (cx.init 0 _ rfl) rfl rfl rfl rfl (fun σ β' X' hs hb hx=>hx)) fun W22 hst22=>?_
   refine then_normal (wp_seq (wp_seq (sqr (sqp [.k 24 (.pointer (some ⟨B6_21,512,none⟩))] ?_))))
   refine sql (.slice t.A t.ws.length t.c) hst22 (fun cx=>run_load1 rfl (by kernel_rfl) (cx.ou 24) (((cx.bi 0 rfl).cell 512).trans ((List.getElem?_toArray ..).trans (shC_at t)))) ?_
   refine sqp [.k 26 (vi ((t.ws.length:Int))), .m 7 26] ?_
   refine then_normal (wp_seq (sqr (sqp [.m 27 7, .k 28 (.bool (decide (0 < (t.ws.length:Int))))] ?_)))
   refine then_normal (wds (fun hs29 hs29p=>?_) fun hs29 hs29p=>?_)
   ·refine wp_seq ?_
    obtain ⟨k2,hk2⟩:∃ k2:Nat,t.ws.length=k2+1:=⟨t.ws.length - 1,by have h_:=hs29; simp at h_; omega⟩
    obtain ⟨x,hxk⟩:∃ x,t.ws[k2]? =some x:=⟨_,List.getElem?_eq_getElem (by omega)⟩
    refine sqr (sqp [.k 29 (.pointer (some ⟨B6_21,512,none⟩))] ?_)
    refine sql (.slice t.A t.ws.length t.c) hst22 (fun cx=>run_load1 rfl (by kernel_rfl) (cx.ou 29) (((cx.bi 0 rfl).cell 512).trans ((List.getElem?_toArray ..).trans (shC_at t)))) ?_
    refine sqp [.m 31 7,sJ 32 ((t.ws.length:Int) - 1) (k2:Int) (by omega) (by omega)] ?_
    refine sql (.pointer (some ((ad t.A).add (k2*512)))) hst22 (fun cx=>run_indexSlM (e:=142) (m:=k2) (sz:=512) rfl (by kernel_rfl) (by kernel_rfl) (cx.ou 30) (cx.ou 32) (by omega) (by omega) ((hB.ws t htm).ext cx.upd.to_ext) (flatPos (sz:=512) hvC_len (by decide) (by omega))) ?_
    refine sql (.agg (hvC x).toArray) hst22 (fun cx=>run_loadElt (f:=hvC) (m:=k2) (sz:=512) (off:=0) (n:=512) rfl (by kernel_rfl) (by kernel_rfl) (cx.ou 33) (List.size_toArray.trans (hvC_len _)) hvC_len ((hB.ws t htm).ext cx.upd.to_ext) hxk (fun k hk=>by rw [List.getElem?_toArray,Nat.zero_add])) ?_
    refine sqk (.string x.1) hst22 (fun cx=>⟨_,khtext_any x _,(map1 (cx.ou 34))⟩) fun W36 hst36=>?_
    refine sqp [.m 4 35, .k 5 (vi 0)] ?_
    refine then_normal (wp_ret (then_ret ?_))
    refine bpr (.tuple #[.string x.1,vi 0]) (results_2 Tryz.results37 rpt rpt) ?_
    exact Ret.of (by rw [rdS_in (by have h_:=hon.trans hs7; simpa using h_) hB.ab htk,rdT_some hxk hk2]) hst36.ext
   refine wp_skip (then_normal (wp_seq (sqr (sqp [.k 36 (vp B6_21)] ?_))))
   refine sql (.agg (hvC t.s).toArray) hst22 (fun cx=>run_loadB (n:=512) rfl (by kernel_rfl) (by kernel_rfl) (cx.ou 36) (cx.bi 0 rfl) (by rw [List.size_toArray,shC_len]; decide) (by rw [List.drop_zero,shC,List.take_left' (hvC_len _)])) ?_
   refine sqk (.string t.s.1) hst22 (fun cx=>⟨_,khtext_any t.s _,(map1 (cx.ou 37))⟩) fun W41 hst41=>?_
   refine sqp [.m 4 38, .k 5 (vi 0)] ?_
   refine then_normal (wp_ret ?_)
   refine bpr (.tuple #[.string t.s.1,vi 0]) (results_2 Tryz.results37 rpt rpt) ?_
   exact Ret.of (by rw [rdS_in (by have h_:=hon.trans hs7; simpa using h_) hB.ab htk,rdT_none (by simpa using hs29)]) hst41.ext
  have hs13p:=hs13
  simp only [zB] at hs13p
  refine wp_cond_true (show Act.eval _ _= .bool true from (congrArg Value.bool (by rw [hs13]; rfl))) (wp_seq (sqr (sqp [.k 4 (.string ⟨#[]⟩), .k 5 (vi 22)] ?_)))
  refine then_normal (wp_ret (blk_ret (then_ret ?_)))
  refine bpr (.tuple #[.string ⟨#[]⟩,vi 22]) (results_2 Tryz.results37 rpt rpt) ?_
  exact Ret.of (by rw [rdS,if_neg (by have h_:=hon.trans hs7; simpa using h_),if_neg (by have h_:=hs13; simp at h_; omega)]) hst10.ext
 refine wp_cond_true (show Act.eval _ _= .bool true from (congrArg Value.bool (by rw [hs7]; rfl))) (wp_seq (sqr (sqp [.k 4 (.string ⟨#[]⟩), .k 5 (vi 24)] ?_)))
 refine then_normal (wp_ret (blk_ret (then_ret ?_)))
 refine bpr (.tuple #[.string ⟨#[]⟩,vi 24]) (results_2 Tryz.results37 rpt rpt) ?_
 exact Ret.of (by rw [rdS,if_pos (by have h_:=hon.trans hs7; simpa using h_)]) hst4.ext
theorem kread_any (b:Nat) (D:DkM) (n:Int) (w:World) (h:DkAt w b D) (hw:∀ x∈D.pgs,x.ws.length≤1000000000):Calls Tryz.prog 37 #[.pointer (some ⟨b,0,none⟩), .int .i64 n] w (Ret (.tuple #[.string (rdS D n).1, .int .i64 (rdS D n).2]) w):=by
 obtain ⟨PA,Pc,GA,gc,Ps,h1⟩:=h
 exact kread_o b D PA Pc GA gc Ps n w h1 hw
end
section
open Go.RowKit
theorem on_args {f:FuncId} {a a':Array Value} {w:World} {Q:Ending→World→Prop} (h:a'=a) (hc:Calls Tryz.prog f a w Q):Calls Tryz.prog f a' w Q:=h ▸ hc
section
variable {P:Program} {ops:Array Oper} {L:List Nat} {a0:Act} {w0:World} {bor:List Nat} {X0:List Ent} {us cr kl:List (List Nat)}
 {D:Nat→(Tmp→Value)→(Tmp→Value)→(Nat→Ent)→Prop} {i:Nat} {o:Oper} {ρ:Operand→Value} {β:Tmp→Value} {W:World} {X:Nat→Ent}
theorem CtxV.ownF {q:Nat} {E:Ent} (cx:CtxV ops L a0 w0 bor X0 us D i ρ β W X) (hX:X q=E) (hu:(atV us i).contains q=true):∀ k∈E.fp,k∈bor∨w0.heap.size≤k:=fun k hk=>by
 subst hX; exact ((cx.ok q hu).own k hk).1
/-- copy(a[off:off+n], s) into an array's block -/
theorem dv_copyAr {t e u t':TypeId} {x y:Operand} {g off n c q q':Nat} {s:ByteArray} {xs xs':List Value} (h:o.op= .call {callee:= .builtin .copy,args:=#[x,y],argTypes:=#[t,u]}) (ht:P.underlying t=some (.slice e)) (hz:szP P e=some 1)
  (hx:ρ x= .slice (some ⟨g,off,none⟩) n c) (hy:ρ y= .string s)
  (cx:CtxV ops L a0 w0 bor X0 us D i ρ β W X) (hX:X q=eB g t' xs.toArray) (hu:(atV us i).contains q=true) (hn:off+s.size≤xs.length) (hs:s.size≤n) (hM:xs.take off++((nums s).map (Value.int .u8)++xs.drop (off+s.size))=xs')
  (hc:atV cr i=[q']) (hk:atV kl i=[q]) (hD:∀ (σ β':Tmp→Value) (X':Nat→Ent),(∀ t,o.dst≠some t→σ t=ρ (.tmp t))→(∀ t,o.dst≠some t→β' t=β t)→(∀ d,o.dst=some d→σ d= .int .i64 s.size)→X' q'=eB g t' xs'.toArray→D i σ β' X'):DoesU P o ρ W (PostV cr kl D i o.dst ρ β W X):=by
 have hok:=cx.ok q hu
 rw [hX] at hok
 have hb:Blk W g t' xs.toArray:=hok.holds
 have hnl:((nums s).map (Value.int .u8)).length=s.size:=by rw [List.length_map,nums_len]
 obtain ⟨W',hr,hup,hb'⟩:=run_storeCells (P:=P) ((nums s).map (Value.int .u8)) off 0 _ W hb (by rw [List.size_toArray,hnl]; omega) (fun v hv=>by obtain ⟨z, _,rfl⟩:=List.mem_map.1 hv; rfl)
 have hputs:putC xs.toArray (off+0) ((nums s).map (Value.int .u8))=xs'.toArray:=by
  rw [← hM]
  have hp:∀ (ys pre mid suf:List Value),ys.length=mid.length→putC (pre++(mid++suf)).toArray pre.length ys=(pre++(ys++suf)).toArray:=by
   intro ys
   induction ys with
   | nil=>intro pre mid suf hl; rw [List.eq_nil_of_length_eq_zero (l:=mid) hl.symm]; rfl
   | cons y ys ih=>
     intro pre mid suf hl
     cases mid with
     | nil=>simp at hl
     | cons z mid=>
       rw [putC]
       have e:(pre++(z::mid++suf)).toArray.setIfInBounds pre.length y=((pre++[y])++(mid++suf)).toArray:=by simp
       rw [e,show pre.length+1=(pre++[y]).length by simp,ih (pre++[y]) mid suf (by simpa using hl)]
       simp
  have e1:xs=xs.take off++((xs.drop off).take s.size++xs.drop (off+s.size)):=by
   rw [← List.drop_drop,List.take_append_drop,List.take_append_drop]
  have e2:(xs.take off).length=off:=by rw [List.length_take]; omega
  have h2:=hp ((nums s).map (Value.int .u8)) (xs.take off) ((xs.drop off).take s.size) (xs.drop (off+s.size)) (by rw [hnl,List.length_take,List.length_drop]; omega)
  rw [← e1,e2] at h2
  exact h2
 rw [hputs] at hb'
 have hmin:Nat.min s.size n=s.size:=Nat.min_eq_left hs
 have hrun:(execOp ρ o).run P W= .ok (.value (.int .i64 s.size)) W':=by
  unfold execOp; rw [h]
  cases hq:P.info? e with
  | none=>simp [szP,hq] at hz
  | some inf=>
    have htk:List.take s.size (List.map (fun b:UInt8=>Value.int IntKind.u8 (b.toNat:Int)) s.data.toList)=(nums s).map (Value.int .u8):=by
     rw [List.take_of_length_le (by rw [List.length_map,Array.length_toList]; exact Nat.le_refl _),nums,List.map_map]
     rfl
    simp [hx,hy,resolve,invoke,builtin,Builtin.copy_,run_underlying ht,Builtin.lenOf,Builtin.firstCells,sizeOf,typeInfo,hq,hmin]
    rw [htk,hr]
    simp [Result.andThen,goInt]
 refine DoesU.value hrun ⟨[eB g t' xs'.toArray],by rw [hc]; rfl,⟨?_,fun e' he=>?_,List.pairwise_singleton _ _⟩,fun σ β' X' hs' hv hb' hbv hx' hN=>hD σ β' X' hs' hb' (fun d hd=>hv d hd) ?_⟩
 ·rw [hk]
  simp only [List.flatMap_cons,List.flatMap_nil,List.append_nil,hX]
  exact hup
 ·rw [List.mem_singleton] at he
  subst he
  refine ⟨hb',eB_loc _ _ _,fun k hk'=>?_⟩
  have hkb:k=g:=by simpa [eB] using hk'
  subst hkb
  exact ⟨.inl (by rw [hk]; simp [hX,eB]),hb'.lt⟩
 ·rw [hc] at hN
  exact (List.cons.inj hN).1
end
def cutL (s:ByteArray):List Value:=(nums (s.extract 0 256)++List.replicate 256 0).map (Value.int .u8)
theorem sz_lo {h:H5}:(h.1.extract 0 256).size=256:=by rw [ByteArray.size_extract,h.2]; rfl
theorem sz_hi {h:H5}:(h.1.extract 256 h.1.size).size=256:=by rw [ByteArray.size_extract,h.2]; rfl
theorem cutL_len (h:H5):(cutL h.1).length=512:=by rw [cutL,List.length_map,List.length_append,nums_len,sz_lo,List.length_replicate]
theorem cut_one (h:H5):(((List.replicate 512 (0:Int)).map (Value.int .u8)).take 0++((nums (h.1.extract 0 256)).map (Value.int .u8)++((List.replicate 512 (0:Int)).map (Value.int .u8)).drop (0+(h.1.extract 0 256).size)))=cutL h.1:=by
 rw [sz_lo,List.take_zero,List.nil_append,← List.map_drop,List.drop_replicate,← List.map_append]; rfl
theorem cut_two (h:H5):((cutL h.1).take 256++((nums (h.1.extract 256 h.1.size)).map (Value.int .u8)++(cutL h.1).drop (256+(h.1.extract 256 h.1.size).size)))=hvC h:=by
 have hl:(nums (h.1.extract 0 256)).length=256:=by rw [nums_len,sz_lo]
 rw [sz_hi,List.drop_of_length_le (by rw [cutL_len]; exact Nat.le_refl _),List.append_nil,cutL,← List.map_take,List.take_left' hl,← List.map_append,← nums_app,hvC]
 have e:h.1.extract 0 256++h.1.extract 256 h.1.size=h.1:=by
  apply bl_inj
  rw [bl_append,bl_extract,bl_extract,h.2,List.drop_zero,Nat.sub_zero,List.take_of_length_le (l:=(bl h.1).drop 256) (by rw [List.length_drop,bl_len,h.2]; decide),List.take_append_drop]
 rw [e]
theorem kcut5_any (h:H5) (w:World):
  Calls Tryz.prog 191 #[.string h.1] w (Ret (.agg (hvC h).toArray) w):=by
 go_enter Tryz.func191,Tryz.ntmps191
 have hst0:=St.start w
 refine wp_seq (sqr ?_)
 refine sqn1 (fun x_=>pb x_) (fun B2_1=>vp B2_1) (fun B2_1=>eB B2_1 142 ((List.replicate 512 (0:Int)).map (Value.int .u8)).toArray) hst0 (by
   refine svA fun ρ β W X cx=>?_
   exact dv_alloc (cs:=((List.replicate 512 (0:Int)).map (Value.int .u8)).toArray) rfl (by kernel_rfl) rfl rfl (fun σ β' X' hs hb hv hx=>⟨hv,hx⟩)) fun B2_1 W1 hst1=>?_
 refine then_normal (wp_seq (sqr ?_))
 refine sqn1 (fun x_=>pb x_) (fun B3_2=>vp B3_2) (fun B3_2=>eB B3_2 142 ((List.replicate 512 (0:Int)).map (Value.int .u8)).toArray) hst1 (by
   refine svA fun ρ β W X cx=>?_
   exact dv_alloc (cs:=((List.replicate 512 (0:Int)).map (Value.int .u8)).toArray) rfl (by kernel_rfl) rfl rfl (fun σ β' X' hs hb hv hx=>⟨hv,hx⟩)) fun B3_2 W2 hst2=>?_
 refine then_normal (wp_seq (sqr (sqp [.k 4 (vi 256)] ?_)))
 refine then_normal (wp_seq ?_)
 have hz5:=h.2
 refine wp_region_Y [0,1,0,0,12,31] [[],[],[],[],[],[1]] [[],[],[],[],[],[2]] [[],[],[],[],[],[1]] [.c 5 (vp B3_2), .c 6 (.slice ((some ⟨B3_2,0,none⟩)) 256 256), .k 7 (.string h.1), .k 8 (vi 256), .c 9 (.string (h.1.extract 0 256)), .a 10] (fun ix σ β X=>match ix with | 0=>True | 1=>True | 2=>True | 3=>True | 4=>True | 5=>σ 10=vi (((h.1.extract 0 256).size:Int))∧X 2=eB B3_2 142 (cutL h.1).toArray | _=>True) [0,2] [0,1,4,5] [(5,0,6,11)] hst2 ?_ ?_ ?_
 ·exact fun ix _ _ _ _ _ _ hs hb hx h=>match ix,h with
  | 5,h=>by dsimp only; rw [← hs 10 rfl,← hx 2 rfl]; exact h
  | 0, _ | 1, _ | 2, _ | 3, _ | 4, _ | _+6, _=>trivial
 ·refine ⟨?_,?_,?_,?_,trivial⟩
  ·exact xs4 rfl id fun cx=>run_indexArrB (n:=2) (sz:=256) (m:=0) (q:=0) rfl (by kernel_rfl) (cx.ou 3) (cx.co _) (by omega) (by omega) (by omega)
  ·exact xs4 rfl id fun cx=>run_sliceArF (n:=256) (e:=5) rfl (by kernel_rfl) (by kernel_rfl) (cx.an 0)
  ·exact xs4 rfl id fun cx=>run_slice_hi (l:=256) rfl (by kernel_rfl) (cx.an 2) (cx.an 3) (by omega) (by omega)
  ·refine svA fun ρ β W X cx=>?_
   exact dv_copyAr (e:=5) (off:=0) rfl (by kernel_rfl) (by kernel_rfl) (cx.an 1) (cx.an 4) cx (cx.init 1 _ rfl) rfl (by rw [sz_lo]; simp) (by rw [sz_lo]; decide) (cut_one h) rfl rfl (fun σ β' X' hs hb hv hx=>⟨hv 10 rfl,hx⟩)
 intro σ β X W4 hD hst4 fr hfr
 simp only [exq 2 ((dTn (hD 5 lq)).2)] at hst4
 simp only [ed 10 ((dTn (hD 5 lq)).1)] at hfr
 clear hD; subst hfr; clear σ β X
 refine then_normal (wp_seq (wp_region_Y [0,1,0,0,12,31] [[],[],[],[],[],[1]] [[],[],[],[],[],[2]] [[],[],[],[],[],[1]] [.c 11 (.pointer (some ⟨B3_2,256,none⟩)), .c 12 (.slice ((some ⟨B3_2,256,none⟩)) 256 256), .k 13 (.string h.1), .k 14 (vi 256), .c 15 (.string (h.1.extract 256 h.1.size)), .a 16] (fun ix σ β X=>match ix with | 0=>True | 1=>True | 2=>True | 3=>True | 4=>True | 5=>σ 16=vi (((h.1.extract 256 h.1.size).size:Int))∧X 2=eB B3_2 142 (hvC h).toArray | _=>True) [0,2] [0,1,4,5] [(11,0,6,17)] hst4 ?_ ?_ ?_))
 ·exact fun ix _ _ _ _ _ _ hs hb hx h=>match ix,h with
  | 5,h=>by dsimp only; rw [← hs 16 rfl,← hx 2 rfl]; exact h
  | 0, _ | 1, _ | 2, _ | 3, _ | 4, _ | _+6, _=>trivial
 ·refine ⟨?_,?_,?_,?_,trivial⟩
  ·exact xs4 rfl id fun cx=>run_indexArrB (n:=2) (sz:=256) (m:=1) (q:=256) rfl (by kernel_rfl) (cx.ou 3) (cx.co _) (by omega) (by omega) (by omega)
  ·exact xs4 rfl id fun cx=>run_sliceArF (n:=256) (e:=5) rfl (by kernel_rfl) (by kernel_rfl) (cx.an 0)
  ·exact xs4 rfl id fun cx=>run_slice_lo (l:=256) rfl (by kernel_rfl) (cx.an 2) (cx.an 3) (by omega) (by omega)
  ·refine svA fun ρ β W X cx=>?_
   exact dv_copyAr (e:=5) (off:=256) rfl (by kernel_rfl) (by kernel_rfl) (cx.an 1) (cx.an 4) cx (cx.init 1 _ rfl) rfl (by rw [sz_hi]; rw [cutL_len]; decide) (by rw [sz_hi]; decide) (cut_two h) rfl rfl (fun σ β' X' hs hb hv hx=>⟨hv 16 rfl,hx⟩)
 intro σ β X W5 hD hst5 fr hfr
 simp only [exq 2 ((dTn (hD 5 lq)).2)] at hst5
 simp only [ed 16 ((dTn (hD 5 lq)).1)] at hfr
 clear hD; subst hfr; clear σ β X
 refine then_normal (wp_seq (sqr ?_))
 refine sql (.agg (hvC h).toArray) hst5 (fun cx=>run_loadAr (n:=512) rfl (by kernel_rfl) (by kernel_rfl) (cx.ou 3) (cx.bi 1 rfl) (by simp [hvC_len])) ?_
 refine sqc (eB B2_1 142 (hvC h).toArray) 0 hst5 (by
   refine svA fun ρ β W X cx=>?_
   exact dv_storeL (n:=512) rfl (cx.ou 2) (show _=Value.agg (hvC h).toArray from (cx.ou 17)) (by kernel_rfl) (by simp [hvC_len]) (by simp [hvC_len]) (hvC_one h) cx (cx.init 0 _ rfl) rfl rfl rfl rfl (fun σ β' X' hs hb hx=>hx)) fun W7 hst7=>?_
 refine then_normal (wp_ret ?_)
 refine bpr (.agg (hvC h).toArray) (results_cell (n:=512) Tryz.results191 rfl (by kernel_rfl) (by kernel_rfl) (hst7.blk 0 rfl) (by simp [hvC_len])) ?_
 exact Ret.of rfl hst7.ext
theorem kop_any (b:Nat) (D:DkM) (er:Int) (D2:DkM→DkM) (f1 f2:FuncId) (cap1 cap2:Array Value) (fp:List Nat) (w:World) (hB:(eDk b D fp).holds w) (hlt:∀ k∈fp,k < w.heap.size) (hcf1:callP Tryz.prog f1=true) (hcf2:callP Tryz.prog f2=true) (hf1:∀ W,Upd fp w W→DkAt W b D→Calls Tryz.prog f1 cap1 W (Ret (.int .i64 er) W)) (hf2:er=0→∀ W fp1,Upd fp w W→(eDk b {D with left:=decL D.left} fp1).holds W→(∀ k∈fp1,k < W.heap.size)→(∀ k∈fp1,k∈fp∨w.heap.size≤k)→Calls Tryz.prog f2 cap2 W (DoPost0 b (D2 {D with left:=decL D.left}) fp1 W)):
  Calls Tryz.prog 126 #[.pointer (some ⟨b,0,none⟩), .func (.func f1) #[] cap1, .func (.func f2) #[] cap2] w (OpPost b (opD D er D2) fp w):=by
 have st1:St w fp [eDk b D fp] w:=St.lend hB (eDk_loc _ _ _) hlt
 go_enter Tryz.func126,Tryz.ntmps126
 have hst0:=st1
 refine wp_seq (sqr (sqp [.k 6 (vi 0)] ?_))
 refine then_normal (wp_seq (wp_seq ?_))
 obtain ⟨onv,hon⟩:∃ z,(!D.off)=z:=⟨_,rfl⟩
 refine sqr (sqp [.m 8 0] ?_)
 refine sqk (.bool onv) hst0 (fun cx=>⟨_,on_to hon (kon_any b D _ (eDk_at (CtxV.holdF cx (cx.init 0 _ rfl) rfl))),(map1 (cx.ou 8))⟩) fun W3 hst3=>?_
 refine sqp [.k 10 (.bool (!(onv)))] ?_
 refine then_normal ?_
 rcases Bool.eq_false_or_eq_true (onv) with hs5 | hs5
 ·refine wp_cond_false (show Act.eval _ _= .bool false from (congrArg Value.bool (by rw [hs5]; rfl))) (wp_skip (then_normal (wp_seq (wp_seq (sqr (sqp [.m 11 1] ?_))))))
  refine sqv (vi er) hst3 (sv_call rfl rfl rfl rfl rfl (fun _ _ _ h=>h) fun ρ β W X cx=>⟨_, _,run_callV (f:=f1) (args:=#[]) (args':=#[]++cap1) rfl rfl (cx.ou 11) hcf1 map0 (by rw [Array.empty_append]),on_args Array.empty_append (hf1 _ cx.upd (eDk_at (CtxV.holdF cx (cx.init 0 _ rfl) rfl)))⟩) fun W7 hst7=>?_
  refine sqp [.m 7 12] ?_
  refine then_normal (wp_seq (sqr (sqp [.m 13 7, .k 14 (.bool (er != 0))] ?_)))
  refine then_normal (wbs (fun hs11=>?_) fun hs11=>?_)
  ·have hs11p:=bne_iff_ne.1 hs11
   refine wp_seq (sqr (sqp [.m 15 7, .m 6 15] ?_))
   refine then_normal (wp_ret (then_ret ?_))
   refine bpr (vi er) (results_1 Tryz.results126 rpt) ?_
   exact OpPost.of (R':=(D,er)) (by rw [opD,if_neg (by have h_:=hon.trans hs5; simpa using h_),if_pos (by simpa using hs11)]) hst7
  have hs11p:=bne_eq_false_iff_eq.1 hs11
  refine wp_skip (then_normal (wp_seq (wp_seq ?_)))
  have hD_:(eDk b D fp).holds W7:=(hst7.ok _ (List.mem_singleton.2 rfl)).holds
  obtain ⟨PA,Pc,GA,gc,Ps,Qs,hps,hsub,hfp,hap,hall⟩:=hD_
  have hu_14:St w fp [eB b 100 #[.slice PA D.pgs.length Pc, .slice GA D.log.size gc,vi ((D.fl:Int)), .bool D.off, .bool D.armed,vi D.left],eO 144 513 (.slice PA D.pgs.length Pc) D.pgs.length (Ps.flatMap shC),eO 5 1 (.slice GA D.log.size gc) D.log.size ((nums D.log).map (Value.int .u8)),eWs Qs] W7:=St.unpack hst7 hfp hall hap
  refine sqr (sqp [.m 16 0, .k 17 (vp b), .k 18 (.pointer (some ⟨b,4,none⟩))] ?_)
  refine sqld 0 hu_14 ?_
  refine sqp [.m 20 19] ?_
  refine sqw' 20 [21,22,23,24,25] ?_ rfl (fun hq=>?_) ?_
  rotate_left
  ·refine sqp [.m 21 0, .k 22 (vp b), .k 23 (.pointer (some ⟨b,5,none⟩))] ?_
   refine sqld 0 hu_14 ?_
   refine sqp [.k 25 (.bool (decide (D.left≤0)))] ?_
   exact sqe
  refine sqwx ?_
  refine sqp [sPa 26 D.armed (decide (D.left≤0))] ?_
  refine then_normal (wbs (fun hs26=>?_) fun hs26=>?_)
  ·have hs26p:=hs26
   simp only [zB] at hs26p
   obtain ⟨hs26p1,hs26p2⟩:=hs26p
   refine wp_seq (sqr (sqp [.m 27 0, .k 28 (vp b), .k 29 (.pointer (some ⟨b,3,none⟩))] ?_))
   refine sqst (n:=1) 0 #[.slice PA D.pgs.length Pc, .slice GA D.log.size gc,vi ((D.fl:Int)), .bool true, .bool D.armed,vi D.left] hu_14 fun W30 hst30=>?_
   refine then_normal (wp_seq (sqr (sqp [.k 6 (vi 24)] ?_)))
   refine then_normal (wp_ret (then_ret ?_))
   refine bpr (vi 24) (results_1 Tryz.results126 rpt) ?_
   obtain ⟨fp2,hk_⟩:=St.dk (L:=[]) (D:={D with off:=true}) (PA:=PA) (Pc:=Pc) (GA:=GA) (gc:=gc) (hst30.pick [0,1,2,3] (by decide) rfl) hps hsub
   exact OpPost.of (R':=({D with off:=true},24)) (by rw [opD,if_neg (by have h_:=hon.trans hs5; simpa using h_),if_neg (by simpa using hs11),if_pos (by simpa using hs26)]) hk_
  have hs26p:=hs26
  simp only [zB] at hs26p
  refine wp_skip (then_normal (wp_seq (sqr (sqp [.m 30 0, .k 31 (vp b), .k 32 (.pointer (some ⟨b,5,none⟩))] ?_))))
  refine sqld 0 hu_14 ?_
  refine sqp [.k 34 (vi ((decL D.left))), .k 35 (vp b), .k 36 (.pointer (some ⟨b,5,none⟩))] ?_
  refine sqst (n:=1) 0 #[.slice PA D.pgs.length Pc, .slice GA D.log.size gc,vi ((D.fl:Int)), .bool D.off, .bool D.armed,vi ((decL D.left))] hu_14 fun W39 hst39=>?_
  refine then_normal (wp_seq ?_)
  obtain ⟨D1,hD1⟩:∃ z,({D with left:=decL D.left}:DkM)=z:=⟨_,rfl⟩
  obtain ⟨fp2,hk_40⟩:=St.dk (L:=[]) (D:={D with left:=decL D.left}) (PA:=PA) (Pc:=Pc) (GA:=GA) (gc:=gc) (hst39.pick [0,1,2,3] (by decide) rfl) hps hsub
  simp only [List.nil_append] at hk_40
  rw [hD1] at hk_40 hf2
  have hf2:=hf2 (by simpa using hs11)
  refine sqr (sqp [.m 37 2] ?_)
  refine sqc0s (fun X_=>X_.fp) (.tuple #[]) (fun r1_42=>eDk b (D2 D1) r1_42) 0 hk_40 (by
    refine svA fun ρ β W X cx=>?_
    refine DoesU.call (run_callV (f:=f2) (args:=#[]) (args':=#[]++cap2) rfl rfl (cx.ou 37) hcf2 map0 (by rw [Array.empty_append])) ?_
    refine (on_args Array.empty_append (hf2 _ _ cx.upd (CtxV.holdF cx (cx.init 0 _ rfl) rfl) (CtxV.ltF cx (cx.init 0 _ rfl) rfl) (CtxV.ownF cx (cx.init 0 _ rfl) rfl))).mono ?_
    rintro e W1 ⟨rfl,fp4,hs4⟩
    refine ⟨_,rfl,post_obj (E:=eDk b D1 fp2) [eDk b (D2 D1) fp4] (cx.init 0 _ rfl) rfl rfl hs4 (fun σ β' X' hs hb hv hN=>?_)⟩
    have hv1:=(hv 38 rfl).1; have hv2:=(hv 38 rfl).2
    exact ⟨hv1.trans rfl,eDk_self ((List.cons.inj hN).1)⟩) fun r1_42 W42 hst42=>?_
  refine then_normal (wp_seq (sqr (sqp [.k 6 (vi 0)] ?_)))
  refine then_normal (wp_ret ?_)
  refine bpr (vi 0) (results_1 Tryz.results126 rpt) ?_
  exact OpPost.of (R':=(D2 D1,0)) (by rw [opD,if_neg (by have h_:=hon.trans hs5; simpa using h_),if_neg (by simpa using hs11),if_neg (by have h_:=hs26; intro h2_; simp [h2_.1,h2_.2] at h_),hD1]) hst42
 refine wp_cond_true (show Act.eval _ _= .bool true from (congrArg Value.bool (by rw [hs5]; rfl))) (wp_seq (sqr (sqp [.k 6 (vi 24)] ?_)))
 refine then_normal (wp_ret (then_ret ?_))
 refine bpr (vi 24) (results_1 Tryz.results126 rpt) ?_
 exact OpPost.of (R':=(D,24)) (by rw [opD,if_pos (by simpa using hon.trans hs5)]) hst3
end
section
open Go.RowKit
theorem fold_put:∀ (l pre suf:List Value),suf.length=l.length→(l.zipIdx pre.length).foldl (fun (cs:Array Value) (x:Value×Nat)=>cs.setIfInBounds (0+x.2) x.1) (pre++suf).toArray=(pre++l).toArray
 | [],pre,suf,h=>by rw [List.eq_nil_of_length_eq_zero (l:=suf) h]; rfl
 | v::l,pre,[],h=>by simp at h
 | v::l,pre,z::suf,h=>by
   rw [List.zipIdx_cons,List.foldl_cons]
   dsimp only
   have e:(pre++z::suf).toArray.setIfInBounds (0+pre.length) v=((pre++[v])++suf).toArray:=by simp
   rw [e,show pre.length+1=(pre++[v]).length by simp,fold_put l (pre++[v]) suf (by simpa using h)]
   simp
theorem run_lit1 {P:Program} {o:Oper} {ρ:Operand→Value} {W:World} {t e:TypeId} {x:Operand} {n:Nat} {xs:List Value} (h:o.op= .buildSlice t 1 #[(0,x)]) (ht:P.underlying t=some (.slice e)) (hz:szP P e=some n) (h0:(zeroP P e).isSome=true) (hx:ρ x= .agg xs.toArray) (hn:xs.length=n) (hn2:n≤16777216) (hn0:0 < n):(execOp ρ o).run P W= .ok (.value (.slice (some ⟨W.heap.size,0,none⟩) (1:Nat) (1:Nat))) (W.alloc (.cells xs.toArray e)):=by
 cases hq:P.info? e with
 | none=>simp [szP,hq] at hz
 | some inf=>
   cases hq2:inf.zero with
   | none=>simp [zeroP,hq,hq2] at h0
   | some z=>
     have hinf:inf.size=n:=by simpa [szP,hq] using hz
     have hfill:Instr.fill (fun i=>some (i*n,n)) ((Array.range (1*n)).map fun i=>z.cells[i % z.cells.size]!) [(0,Value.agg xs.toArray)]=some xs.toArray:=by
      have hc:(Value.agg xs.toArray).cells=xs.toArray:=rfl
      unfold Instr.fill
      dsimp only
      rw [hc]
      have hsz:xs.toArray.size=n:=hn
      rw [if_neg (by simp [hsz,hn])]
      unfold Instr.fill
      congr 1
      rw [Nat.zero_mul,← Array.foldl_toList,Array.toList_zipIdx]
      have h5:=fold_put xs [] ((Array.range (1*n)).map fun i=>z.cells[i % z.cells.size]!).toList (by simp [hn])
      rw [List.nil_append,List.nil_append,Array.toArray_toList] at h5
      exact h5
     have h1:(zeroValue e).run P W= .ok z W:=by
      unfold zeroValue
      simp only [Sem.run_bind,run_typeInfo _ hq,Result.andThen_ok,hq2,Sem.run_pure]
     unfold execOp; rw [h]
     simp only [List.map_toArray,List.map_cons,List.map_nil,hx,Instr.buildSlice,Sem.run_bind,run_underlying ht,Result.andThen_ok,run_size hz,Nat.one_mul]
     rw [if_neg (by omega),if_neg (by omega)]
     rw [Nat.one_mul] at hfill
     simp only [Sem.run_bind,h1,Result.andThen_ok,Sem.run_pure,hfill,newRow,newObj]
     rfl
def wrD1 (k:Nat) (h:H5) (D:DkM):DkM:={D with pgs:=D.pgs.set k ⟨(D.pgs.getD k shd0).safe,(D.pgs.getD k shd0).ws++[h]⟩}
def wrD (n:Int) (s:ByteArray) (D:DkM):DkM:=if h:s.size=512 then wrD1 n.toNat ⟨s,h⟩ D else D
def wrE (D:DkM) (n:Int) (s:ByteArray):Int:=if 0≤n∧n < (D.pgs.length:Int) then (if s.size=512 then 0 else 1) else 22
theorem split_at {α:Type} {l:List α} {k:Nat} {x:α} (h:l[k]? =some x):∃ A B,l=A++x::B∧A.length=k:=by
 obtain ⟨hk,rfl⟩:=List.getElem?_eq_some_iff.1 h
 exact ⟨l.take k,l.drop (k+1),by rw [← List.drop_eq_getElem_cons hk,List.take_append_drop],by rw [List.length_take]; omega⟩
theorem set_mid {α:Type} (A B:List α) (x y:α):(A++x::B).set A.length y=A++y::B:=by simp
theorem map_mid {α β:Type} (f:α→β) (A B:List α) (t:α) (y:β):(A.map f++f t::B.map f).set A.length y=A.map f++y::B.map f:=by
 have h:=set_mid (A.map f) (B.map f) (f t) y
 rw [List.length_map] at h; exact h
/-- the slice of a sheet's writes set -/
theorem sh_set (A B:List ShT) (t:ShT) (A':Option Addr) (c':Nat) (ws':List H5) (n':Nat) (hn:n'=ws'.length):((A++t::B).flatMap shC).set (A.length*513+512) (.slice A' n' c')=(A++⟨t.s,A',c',ws'⟩::B).flatMap shC:=by
 subst hn
 have hl:(A.flatMap shC).length=A.length*513:=flatLen shC_len A
 rw [List.flatMap_append,List.flatMap_cons,List.flatMap_append,List.flatMap_cons,← hl,List.set_append_right _ _ (by omega),Nat.add_sub_cancel_left,List.set_append_left _ _ (by rw [shC_len]; decide)]
 have e:(shC t).set 512 (.slice A' ws'.length c')=shC ⟨t.s,A',c',ws'⟩:=by
  rw [shC,List.set_append_right _ _ (by rw [hvC_len]; decide),hvC_len]; rfl
 rw [e]
theorem St.outW {w0 W:World} {bor:List Nat} {L:List Ent} {A B:List ShT} {t:ShT} (h:St w0 bor (L++[eWs (A++t::B)]) W):St w0 bor (L++[eWs (A++B),entW t]) W:=by
 rw [eWs,List.map_append] at h ⊢
 exact St.outA h
theorem St.inW {w0 W:World} {bor:List Nat} {L:List Ent} {A B:List ShT} {t:ShT} (h:St w0 bor (L++[eWs (A++B),entW t]) W):St w0 bor (L++[eWs (A++t::B)]) W:=by
 rw [eWs,List.map_append] at h ⊢
 exact St.inA h
theorem ws_app (t:List H5) (h:H5):t.flatMap hvC++hvC h=(t++[h]).flatMap hvC:=by simp
theorem Tryz.infoHalvesJ:(Tryz.prog.info? 142).map (fun i=>(i.zero,i.size,i.bytes))=some (some (.agg ((List.replicate 512 (0:Int)).map (Value.int .u8)).toArray),512,512):=by kernel_rfl
theorem DkAt.ext {w w':World} {b:Nat} {D:DkM} (h:DkAt w b D) (hx:Ext w w'):DkAt w' b D:=let ⟨PA,Pc,GA,gc,Ps,h1⟩:=h; ⟨PA,Pc,GA,gc,Ps,h1.ext hx⟩
theorem kwr1_any (b b3 b4 b5:Nat) (D:DkM) (n:Int) (s:ByteArray) (w:World) (hB:DkAt w b D) (h3:Blk w b3 30 #[.pointer (some ⟨b,0,none⟩)]) (h4:Blk w b4 3 #[.int .i64 n]) (h5:Blk w b5 9 #[.string s]):
  Calls Tryz.prog 189 #[.pointer (some ⟨b3,0,none⟩), .pointer (some ⟨b4,0,none⟩), .pointer (some ⟨b5,0,none⟩)] w (Ret (.int .i64 (wrE D n s)) w):=by
 go_enter Tryz.func189,Tryz.ntmps189
 have hst0:=St.start w
 refine wp_seq (sqr (sqp [.k 3 (vi 0)] ?_))
 refine then_normal (wp_seq (wp_block (wp_seq (sqr ?_))))
 refine sql (vp b) hst0 (fun cx=>run_load1 rfl (by kernel_rfl) (cx.ou 0) ((Blk.ext h3 cx.upd.to_ext).cell 0)) ?_
 refine sql (vi n) hst0 (fun cx=>run_load1 rfl (by kernel_rfl) (cx.ou 1) ((Blk.ext h4 cx.upd.to_ext).cell 0)) ?_
 refine sqk (.bool ((decide (0≤n)&&decide (n < (D.pgs.length:Int))))) hst0 (fun cx=>⟨_,kis_any b D n _ (hB.ext cx.upd.to_ext),(map2 (cx.ou 5) (cx.ou 6))⟩) fun W4 hst4=>?_
 refine sqp [.k 8 (.bool (!((decide (0≤n)&&decide (n < (D.pgs.length:Int)))))), .m 4 8] ?_
 refine then_normal ?_
 rcases Bool.eq_false_or_eq_true ((decide (0≤n)&&decide (n < (D.pgs.length:Int)))) with hs7 | hs7
 ·have hs7p:=hs7
  simp only [zB] at hs7p
  obtain ⟨hs7p1,hs7p2⟩:=hs7p
  refine wp_cond_false (show Act.eval _ _= .bool false from (congrArg Value.bool (by rw [hs7]; rfl))) (wp_seq (sqr ?_))
  refine sql (.string s) hst4 (fun cx=>run_load1 rfl (by kernel_rfl) (cx.ou 2) ((Blk.ext h5 cx.upd.to_ext).cell 0)) ?_
  refine sqp [.k 11 (vi ((s.size:Int))), .k 12 (.bool ((s.size:Int) != 512)), .m 9 12] ?_
  refine then_normal (wbs (fun hs12=>?_) fun hs12=>?_)
  ·have hs12p:=bne_iff_ne.1 hs12
   refine wp_seq (sqr (sqp [.k 3 (vi 1)] ?_))
   refine then_normal (wp_ret (blk_ret (then_ret ?_)))
   refine bpr (vi 1) (results_1 Tryz.results189 rpt) ?_
   exact Ret.int (by rw [wrE,if_pos (by have h_:=hs7; simp at h_; omega),if_neg (by have h_:=hs12; simp at h_; omega)]) hst4.ext
  have hs12p:=bne_eq_false_iff_eq.1 hs12
  refine wp_skip (blk_normal (then_normal (wp_seq (sqr (sqp [.k 3 (vi 0)] ?_)))))
  refine then_normal (wp_ret ?_)
  refine bpr (vi 0) (results_1 Tryz.results189 rpt) ?_
  exact Ret.int (by rw [wrE,if_pos (by have h_:=hs7; simp at h_; omega),if_pos (by have h_:=hs12; simp at h_; omega)]) hst4.ext
 have hs7p:=hs7
 simp only [zB] at hs7p
 refine wp_cond_true (show Act.eval _ _= .bool true from (congrArg Value.bool (by rw [hs7]; rfl))) (wp_seq (sqr (sqp [.k 3 (vi 22)] ?_)))
 refine then_normal (wp_ret (blk_ret (then_ret ?_)))
 refine bpr (vi 22) (results_1 Tryz.results189 rpt) ?_
 exact Ret.int (by rw [wrE,if_neg (by have h_:=hs7; simp at h_; omega)]) hst4.ext
theorem kwr2_any (b b3 b4 b5:Nat) (D:DkM) (k:Nat) (h:H5) (fp:List Nat) (w:World) (hB:(eDk b D fp).holds w) (hlt:∀ k∈fp,k < w.heap.size) (h3:Blk w b3 30 #[.pointer (some ⟨b,0,none⟩)]) (h4:Blk w b4 3 #[.int .i64 (k:Int)]) (h5:Blk w b5 9 #[.string h.1]) (n3:b3∉fp) (n4:b4∉fp) (n5:b5∉fp) (hk:k < D.pgs.length) (hw:∀ x∈D.pgs,x.ws.length≤1000000000):
  Calls Tryz.prog 190 #[.pointer (some ⟨b3,0,none⟩), .pointer (some ⟨b4,0,none⟩), .pointer (some ⟨b5,0,none⟩)] w (DoPost0 b (wrD1 k h D) fp w):=by
 have st1:=St.lend hB (eDk_loc _ _ _) hlt
 obtain ⟨PA,Pc,GA,gc,Ps,Qs,hps,hsub,hfp,hap,hall⟩:=hB
 have st0:=St.unpack st1 hfp hall hap
 subst hsub
 have hPl:D.pgs.length=Qs.length:=by rw [← hps,List.length_map]
 obtain ⟨t,htk⟩:=getPs (Ps:=Qs) (k:=k) (by omega)
 have hrd:=ab_at hps htk
 obtain ⟨A,B,rfl,rfl⟩:=split_at htk
 have hwt:t.ws.length≤1000000000:=hw _ (by rw [← hps]; exact List.mem_map.2 ⟨t,by simp,rfl⟩)
 have st2:=St.outW (L:=[eB b 100 #[.slice PA D.pgs.length Pc, .slice GA D.log.size gc, .int .i64 ((D.fl:Int)), .bool D.off, .bool D.armed, .int .i64 D.left],eO 144 513 (.slice PA D.pgs.length Pc) D.pgs.length ((A++t::B).flatMap shC),eO 5 1 (.slice GA D.log.size gc) D.log.size ((nums D.log).map (Value.int .u8))]) st0
 simp only [List.cons_append,List.nil_append,entW] at st2
 go_enter Tryz.func190,Tryz.ntmps190
 have hst0:=st2
 refine wp_region_Y [0,1,3,7,0,0,32,96,224,0,992,2016,4064,0,8192,24576,65504,131071,262143,524287] [[],[],[],[0],[],[],[],[],[0],[],[1],[],[1],[],[],[],[5,4],[1],[],[1]] [[],[],[],[],[],[],[],[],[],[],[],[],[],[],[],[5],[6],[],[],[7]] [[],[],[],[],[],[],[],[],[],[],[],[],[],[],[],[],[4],[],[],[1]] [.c 3 (vp b), .k 4 (vp b), .k 5 (vp b), .c 6 (.slice PA D.pgs.length Pc), .c 7 (vi ((A.length:Int))), .c 8 (vp b), .k 9 (vp b), .k 10 (vp b), .c 11 (.slice PA D.pgs.length Pc), .c 12 (vi ((A.length:Int))), .c 13 (.pointer (some ((ad PA).add (A.length*513)))), .c 14 (.pointer (some ((ad PA).add (A.length*513+512)))), .c 15 (.slice t.A t.ws.length t.c), .c 16 (.string h.1), .c 17 (.agg (hvC h).toArray), .a 18, .a 19, .c 20 (.pointer (some ((ad PA).add (A.length*513)))), .c 21 (.pointer (some ((ad PA).add (A.length*513+512)))), .n] (fun ix σ β X=>match ix with | 0=>True | 1=>True | 2=>True | 3=>True | 4=>True | 5=>True | 6=>True | 7=>True | 8=>True | 9=>True | 10=>True | 11=>True | 12=>True | 13=>True | 14=>True | 15=>σ 18= .slice ((some ⟨(pb' (β 18)),0,none⟩)) 1 1∧X 5=eO 142 512 (.slice ((some ⟨(pb' (β 18)),0,none⟩)) 1 1) 1 (hvC h) | 16=>σ 19= .slice (sA (β 19)) (t.ws.length+1) (sC (β 19))∧X 6=eO 142 512 (.slice (sA (β 19)) (t.ws.length+1) (sC (β 19))) (t.ws.length+1) ((t.ws++[h]).flatMap hvC) | 17=>True | 18=>True | 19=>X 7=eO 144 513 (.slice PA D.pgs.length Pc) D.pgs.length ((A++⟨t.s,(sA (β 19)),(sC (β 19)),t.ws++[h]⟩::B).flatMap shC) | _=>True) [0,2,3,5,6,7] [0,3,4,5,8,9,10,11,12,13,14,15,16,17,18,19] [(3,0,19,22)] hst0 ?_ ?_ ?_
 ·exact fun ix _ _ _ _ _ _ hs hb hx h=>match ix,h with
  | 15,h=>by dsimp only; rw [← hs 18 rfl,← hb 18 rfl,← hx 5 rfl]; exact h
  | 16,h=>by dsimp only; rw [← hs 19 rfl,← hb 19 rfl,← hx 6 rfl]; exact h
  | 19,h=>by dsimp only; rw [← hb 19 rfl,← hx 7 rfl]; exact h
  | 0, _ | 1, _ | 2, _ | 3, _ | 4, _ | 5, _ | 6, _ | 7, _ | 8, _ | 9, _ | 10, _ | 11, _ | 12, _ | 13, _ | 14, _ | 17, _ | 18, _ | _+20, _=>trivial
 ·refine ⟨?_,?_,?_,?_,?_,?_,?_,?_,?_,?_,?_,?_,?_,?_,?_,?_,trivial⟩
  ·exact xs4 rfl id fun cx=>run_load1 rfl (by kernel_rfl) (cx.ou 0) (Blk.cell (h3.upd cx.upd n3) 0)
  ·exact xs4 rfl id fun cx=>run_load1 rfl (by kernel_rfl) (cx.an 2) ((cx.bi 0 rfl).cell 0)
  ·exact xs4 rfl id fun cx=>run_load1 rfl (by kernel_rfl) (cx.ou 1) (Blk.cell (h4.upd cx.upd n4) 0)
  ·exact xs4 rfl id fun cx=>run_load1 rfl (by kernel_rfl) (cx.ou 0) (Blk.cell (h3.upd cx.upd n3) 0)
  ·exact xs4 rfl id fun cx=>run_load1 rfl (by kernel_rfl) (cx.an 7) ((cx.bi 0 rfl).cell 0)
  ·exact xs4 rfl id fun cx=>run_load1 rfl (by kernel_rfl) (cx.ou 1) (Blk.cell (h4.upd cx.upd n4) 0)
  ·exact xs4 rfl id fun cx=>run_indexSlM (e:=144) (m:=A.length) (sz:=513) rfl (by kernel_rfl) (by kernel_rfl) (cx.an 8) (cx.an 9) (by omega) (by omega) (At.of_ownN (cx.ri 1 rfl)) (flatPos (sz:=513) shC_len (by decide) (by omega))
  ·exact xs4 rfl id fun cx=>run_fieldAd rfl (by kernel_rfl) (cx.an 10)
  ·exact xs4 rfl id fun cx=>run_load1 rfl (by kernel_rfl) (cx.an 11) (At.eltc (f:=shC) (k:=512) shC_len (At.of_ownN (cx.ri 1 rfl)) htk (shC_at t))
  ·exact xs4 rfl id fun cx=>run_load1 rfl (by kernel_rfl) (cx.ou 2) (Blk.cell (h5.upd cx.upd n5) 0)
  ·exact xsc rfl id rfl rfl fun cx=>⟨_,kcut5_any h _,(map1 (cx.an 13))⟩
  ·refine svA fun ρ β W X cx=>?_
   have fF17:ρ (.tmp 17)= .agg (hvC h).toArray:=(cx.an 14)
   exact dv_litN (e:=142) (sz:=512) (xs:=hvC h) rfl (run_lit1 (n:=512) rfl (by kernel_rfl) (by kernel_rfl) rfl fF17 (hvC_len h) (by decide) (by decide)) (by rw [hvC_len]) (by decide) rfl rfl (fun σ β' X' hs hb hv hx=>⟨hv,hx⟩)
  ·refine svA fun ρ β W X cx=>?_
   obtain ⟨i0,hi0,hz0,hz1,hz2⟩:=info_parts Tryz.infoHalvesJ
   refine dv_appendN (n:=t.ws.length) (m:=1) (nm:=t.ws.length+1) (sz:=512) (xs:=t.ws.flatMap hvC) (news:=hvC h) (xs':=(t.ws++[h]).flatMap hvC) rfl (ty:=138) rfl (by kernel_rfl) hi0 hz0 hz1 hz2 rfl (by decide) (cx.an 12) cx (cx.init 4 _ rfl) rfl (dTn (cx.an 15)).1 (by rw [hvC_len]) (At.of_ownN (cx.row (dTn (cx.an 15)).2 rfl)) (hvC_one h) (by simp only [maxLen]; omega) (by omega) rfl rfl rfl (by omega) ((ws_app t.ws h)) (fun σ β' X' hs hb hv hx=>?_)
   exact ⟨hv,hx⟩
  ·exact xs4 rfl id fun cx=>run_indexSlM (e:=144) (m:=A.length) (sz:=513) rfl (by kernel_rfl) (by kernel_rfl) (cx.an 3) (cx.an 4) (by omega) (by omega) (At.of_ownN (cx.ri 1 rfl)) (flatPos (sz:=513) shC_len (by decide) (by omega))
  ·exact xs4 rfl id fun cx=>run_fieldAd rfl (by kernel_rfl) (cx.an 17)
  ·refine svA fun ρ β W X cx=>?_
   exact dv_storeRowN (m:=A.length*513+512) (n:=D.pgs.length) (sz:=513) rfl (cx.an 18) (dTn (cx.an 16)).1 (by kernel_rfl) rfl rfl cx (cx.init 1 _ rfl) rfl (by omega) rfl (sh_set A B t _ _ (t.ws++[h]) _ (by simp)) rfl rfl (fun σ β' X' hs hb hx=>by rw [hb 19]; exact hx)
 intro σ β X W1 hD hst1 fr hfr
 obtain ⟨B18_1,hu_B18_1⟩:∃ z,pb' (β 18)=z:=⟨_,rfl⟩
 obtain ⟨A19_1,hu_A19_1⟩:∃ z,sA (β 19)=z:=⟨_,rfl⟩
 obtain ⟨c19_1,hu_c19_1⟩:∃ z,sC (β 19)=z:=⟨_,rfl⟩
 simp only [exq 5 ((dTn (hD 15 lq)).2),exq 6 ((dTn (hD 16 lq)).2),exq 7 ((dTn (hD 19 lq))),hu_B18_1,hu_A19_1,hu_c19_1] at hst1
 simp only [ed 18 ((dTn (hD 15 lq)).1),ed 19 ((dTn (hD 16 lq)).1),hu_B18_1,hu_A19_1,hu_c19_1] at hfr
 clear hD hu_B18_1 hu_A19_1 hu_c19_1; subst hfr; clear σ β X
 refine bpe (.tuple #[]) (by simp [results,Tryz.results190,go_sem]) ?_
 have hl_:=St.inW (L:=[eB b 100 #[.slice PA D.pgs.length Pc, .slice GA D.log.size gc,vi ((D.fl:Int)), .bool D.off, .bool D.armed,vi D.left],eO 144 513 (.slice PA D.pgs.length Pc) D.pgs.length ((A++⟨t.s,A19_1,c19_1,t.ws++[h]⟩::B).flatMap shC),eO 5 1 (.slice GA D.log.size gc) D.log.size ((nums D.log).map (Value.int .u8))]) (t:=(⟨t.s,A19_1,c19_1,t.ws++[h]⟩:ShT)) (by have h_:=hst1.pick [0,5,1,2,4] (by decide) rfl; rw [entW]; dsimp only; rw [List.length_append,List.length_singleton]; exact h_)
 have hpl_:(wrD1 A.length h D).pgs.length=D.pgs.length:=List.length_set
 exact ⟨rfl,St.dk (L:=[]) (D:=wrD1 A.length h D) (PA:=PA) (Pc:=Pc) (GA:=GA) (gc:=gc) (Ps:=A++(⟨t.s,A19_1,c19_1,t.ws++[h]⟩:ShT)::B) (Qs:=A++(⟨t.s,A19_1,c19_1,t.ws++[h]⟩:ShT)::B) (by rw [dkL,dkC,hpl_]; exact hl_) (by rw [wrD1]; dsimp only; rw [hrd,← hps,List.map_append,List.map_append,List.map_cons,List.map_cons,map_mid]; rfl) rfl⟩
theorem wrE_zero {D:DkM} {n:Int} {s:ByteArray} (h:wrE D n s=0):(0≤n∧n < (D.pgs.length:Int))∧s.size=512:=by
 unfold wrE at h
 split at h
 ·rename_i h1
  split at h
  ·rename_i h2; exact ⟨h1,h2⟩
  ·cases h
 ·cases h
theorem kwrop_any (b b3 b4 b5:Nat) (D:DkM) (n:Int) (s:ByteArray) (fp:List Nat) (w:World) (hB:(eDk b D fp).holds w) (hlt:∀ k∈fp,k < w.heap.size) (h3:Blk w b3 30 #[.pointer (some ⟨b,0,none⟩)]) (h4:Blk w b4 3 #[.int .i64 n]) (h5:Blk w b5 9 #[.string s]) (n3:b3∉fp) (n4:b4∉fp) (n5:b5∉fp) (hw:∀ x∈D.pgs,x.ws.length≤1000000000):Calls Tryz.prog 126 #[.pointer (some ⟨b,0,none⟩), .func (.func 189) #[] #[.pointer (some ⟨b3,0,none⟩), .pointer (some ⟨b4,0,none⟩), .pointer (some ⟨b5,0,none⟩)], .func (.func 190) #[] #[.pointer (some ⟨b3,0,none⟩), .pointer (some ⟨b4,0,none⟩), .pointer (some ⟨b5,0,none⟩)]] w (OpPost b (opD D (wrE D n s) (wrD n s)) fp w):=by
 refine kop_any b D (wrE D n s) (wrD n s) 189 190 _ _ fp w hB hlt (by kernel_rfl) (by kernel_rfl) (fun W hU hA=>kwr1_any b b3 b4 b5 D n s W hA (h3.upd hU n3) (h4.upd hU n4) (h5.upd hU n5)) (fun he W fp1 hU hh hl ho=>?_)
 obtain ⟨h6,h7⟩:=wrE_zero he
 obtain ⟨k,rfl⟩:∃ k:Nat,n=(k:Int):=⟨n.toNat,by omega⟩
 have hno:∀ x,x∉fp→x < w.heap.size→x∉fp1:=fun x h8 h9 h10=>by
  rcases ho x h10 with h11 | h11
  ·exact h8 h11
  ·omega
 have e1:wrD (k:Int) s {D with left:=decL D.left}=wrD1 k ⟨s,h7⟩ {D with left:=decL D.left}:=by rw [wrD,dif_pos h7,Int.toNat_natCast]
 rw [e1]
 exact kwr2_any b b3 b4 b5 _ k ⟨s,h7⟩ fp1 W hh hl (h3.upd hU n3) (h4.upd hU n4) (h5.upd hU n5) (hno b3 n3 h3.lt) (hno b4 n4 h4.lt) (hno b5 n5 h5.lt) (by show k < D.pgs.length; omega) hw
theorem kwrite_any (b:Nat) (D:DkM) (n:Int) (s:ByteArray) (fp:List Nat) (w:World) (hB:(eDk b D fp).holds w) (hlt:∀ k∈fp,k < w.heap.size) (hw:∀ x∈D.pgs,x.ws.length≤1000000000):
  Calls Tryz.prog 169 #[.pointer (some ⟨b,0,none⟩), .int .i64 n, .string s] w (OpPost b (opD D (wrE D n s) (wrD n s)) fp w):=by
 have st1:St w fp [eDk b D fp] w:=St.lend hB (eDk_loc _ _ _) hlt
 go_enter Tryz.func169,Tryz.ntmps169
 have hst0:=st1
 refine wp_seq (sqr ?_)
 refine sqbx #[vp b] hst0 fun B3_1 W1 hst1=>?_
 refine sqbx #[vi n] hst1 fun B4_2 W2 hst2=>?_
 refine sqbx #[.string s] hst2 fun B5_3 W3 hst3=>?_
 refine sqp [.k 6 (vi 0)] ?_
 refine then_normal (wp_seq (sqr (sqld 1 hst3 ?_)))
 refine sqv (.func (.func 189) #[] #[vp B3_1,vp B4_2,vp B5_3]) hst3 (by
   exact sv0 rfl rfl rfl rfl rfl (fun _ _ _ h=>h) fun ρ β W X cx=>by
    have fF3:ρ (.tmp 3)=vp B3_1:=(cx.ou 3)
    have fF4:ρ (.tmp 4)=vp B4_2:=(cx.ou 4)
    have fF5:ρ (.tmp 5)=vp B5_3:=(cx.ou 5)
    simp [go_sem,Instr.makeFunc,fF3,fF4,fF5]) fun W6 hst6=>?_
 refine sqv (.func (.func 190) #[] #[vp B3_1,vp B4_2,vp B5_3]) hst6 (by
   exact sv0 rfl rfl rfl rfl rfl (fun _ _ _ h=>h) fun ρ β W X cx=>by
    have fF3:ρ (.tmp 3)=vp B3_1:=(cx.ou 3)
    have fF4:ρ (.tmp 4)=vp B4_2:=(cx.ou 4)
    have fF5:ρ (.tmp 5)=vp B5_3:=(cx.ou 5)
    simp [go_sem,Instr.makeFunc,fF3,fF4,fF5]) fun W7 hst7=>?_
 refine sqc0s (fun X_=>X_.fp) (vi ((opD D (wrE D n s) (wrD n s)).2)) (fun r4_8=>eDk b ((opD D (wrE D n s) (wrD n s)).1) r4_8) 0 hst7 (by
   refine svA fun ρ β W X cx=>?_
   refine DoesU.call (run_callF (args:=#[vp b, .func (.func 189) #[] #[vp B3_1,vp B4_2,vp B5_3], .func (.func 190) #[] #[vp B3_1,vp B4_2,vp B5_3]]) rfl cx.sees rfl (by kernel_rfl) (map3 (cx.ou 7) (cx.ou 8) (cx.ou 9))) ?_
   refine (kwrop_any b _ _ _ D n s _ _ (CtxV.holdF cx (cx.init 0 _ rfl) rfl) (CtxV.ltF cx (cx.init 0 _ rfl) rfl) (cx.bi 1 rfl) (cx.bi 2 rfl) (cx.bi 3 rfl) (by have h_:=cx.ap 1 0 rfl rfl (by decide); rw [(cx.init 1 _ rfl),(cx.init 0 _ rfl)] at h_; exact h_ _ (List.mem_singleton.2 rfl)) (by have h_:=cx.ap 2 0 rfl rfl (by decide); rw [(cx.init 2 _ rfl),(cx.init 0 _ rfl)] at h_; exact h_ _ (List.mem_singleton.2 rfl)) (by have h_:=cx.ap 3 0 rfl rfl (by decide); rw [(cx.init 3 _ rfl),(cx.init 0 _ rfl)] at h_; exact h_ _ (List.mem_singleton.2 rfl)) hw).mono ?_
   rintro e W1 ⟨rfl,fp4,hs4⟩
   refine ⟨_,rfl,post_obj (E:=eDk b D fp) [eDk b (opD D (wrE D n s) (wrD n s)).1 fp4] (cx.init 0 _ rfl) rfl rfl hs4 (fun σ β' X' hs hb hv hN=>?_)⟩
   have hv1:=(hv 10 rfl).1; have hv2:=(hv 10 rfl).2
   exact ⟨hv1.trans rfl,eDk_self ((List.cons.inj hN).1)⟩) fun r4_8 W8 hst8=>?_
 refine sqp [.m 6 10] ?_
 refine then_normal (wp_ret ?_)
 refine bpr (vi ((opD D (wrE D n s) (wrD n s)).2)) (results_1 Tryz.results169 rpt) ?_
 exact OpPost.of rfl (hst8.pick [0] (by decide) rfl)
end
end Go.Proofs.YtcdjaepgahbhfaaGreat

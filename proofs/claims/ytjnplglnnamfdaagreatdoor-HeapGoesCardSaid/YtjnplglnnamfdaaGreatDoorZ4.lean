/- HeapGoesRow9: part 4 of the proof. -/
import Derived.Test.YtjnplglnnamfdaaGreatDoorZ3
import Derived.Maps.OwnSet
import Derived.Maps.Views
import Derived.Carry
set_option linter.unusedVariables false
set_option linter.unusedSimpArgs false
set_option maxRecDepth 100000
set_option maxHeartbeats 16000000
namespace Go.Proofs.YtjnplglnnamfdaaGreatDoor
section
open Go.RowKit
theorem insA_len (pv:Int→PV) (fresh tb:Int) (ns:List Int) (s:ByteArray):(insA pv fresh tb ns s).2.1.length≤3:=by
 rw [insA]
 split
 ·exact Nat.zero_le _
 ·rw [insR]
  split
  ·show 1≤3; decide
  ·split
   ·exact Nat.zero_le _
   ·show 3≤3; decide
theorem atF_desc {v:PV} (h:v.wf) (j:Int):∃ s,Desc s (atF v j):=by
 rw [atF]
 split
 ·have hj:j.toNat < v.its.length:=by omega
  exact ⟨_,PV.desc h hj⟩
 ·exact ⟨ByteArray.empty,by show 0 < 8; decide⟩
theorem atF_len {v:PV} (h:v.wf) (j:Int):(vD (atF v j)).2.2.2.2.2.length≤6:=by
 obtain ⟨s,hs⟩:=atF_desc h j
 exact hs.bd.2.2.2.2.2.2.2.2
def updBad (xid:Int) (s:ByteArray) (fresh tb:Int):Bool:=(((!(onF xid)||(s.toList==(⟨#[]⟩:ByteArray).toList))||(decide (tb < 0)))||(decide (65535 < tb)))||(decide (400≤fresh))
def updQ (pv:Int→PV) (n:Int) (hot:Bool) (s:ByteArray):Int:=if hot then roomI (pv n) s else 0
def newB (xid:Int) (hot:Bool) (rs:List Val):ByteArray:=tbytesF xid 0 (-1) 0 hot rs
def oldB (o:VerD) (xid a b:Int):ByteArray:=tbytesF o.1 xid a b o.2.2.2.2.1 o.2.2.2.2.2
def updR (pv:Int→PV) (fresh tb:Int) (ns:List Int) (n j xid:Int) (hot:Bool) (rs:List Val):(Int×Int)×Bool×List EdD×Int:=
 if 0 < updQ pv n hot (newB xid true rs) then ((n,updQ pv n hot (newB xid true rs)),true,[(n,updQ pv n hot (newB xid true rs),newB xid true rs),(n,j,oldB (vD (atF (pv n) j)) xid n (updQ pv n hot (newB xid true rs)))],0)
 else if (insA pv fresh tb ns (newB xid false rs)).2.2≠0 then ((0,0),false,[],(insA pv fresh tb ns (newB xid false rs)).2.2)
 else ((insA pv fresh tb ns (newB xid false rs)).1,false,(insA pv fresh tb ns (newB xid false rs)).2.1++[(n,j,oldB (vD (atF (pv n) j)) xid (insA pv fresh tb ns (newB xid false rs)).1.1 (insA pv fresh tb ns (newB xid false rs)).1.2)],0)
def updA (pv:Int→PV) (fresh tb:Int) (ns:List Int) (n j xid:Int) (hot:Bool) (rs:List Val):(Int×Int)×Bool×List EdD×Int:=
 if !(atF (pv n) j).isSome then ((0,0),false,[],21) else if updBad xid (newB xid true rs) fresh tb then ((0,0),false,[],1) else updR pv fresh tb ns n j xid hot rs
def UpdPost (R:(Int×Int)×Bool×List EdD×Int) (w:World) (e:Ending) (w':World):Prop:=∃ A c,e= .returned (.tuple #[.agg #[.int .i64 R.1.1, .int .i64 R.1.2], .bool R.2.1, .slice A R.2.2.1.length c, .int .i64 R.2.2.2])∧
 w'.ownsRow w.heap.size 49 3 (.slice A R.2.2.1.length c) R.2.2.1.length (R.2.2.1.flatMap cellsE)∧Ext w w'
theorem UpdPost.of {R:(Int×Int)×Bool×List EdD×Int} {w w':World} {a1 a2 er:Int} {b:Bool} {A:Option Addr} {c n:Nat} {l:List EdD} {xs:List Value} (h:R=((a1,a2),b,l,er)) (hn:n=l.length) (hxs:xs=l.flatMap cellsE) (ho:w'.ownsRow w.heap.size 49 3 (.slice A n c) n xs) (hx:Ext w w'):
  UpdPost R w (.returned (.tuple #[.agg #[.int .i64 a1, .int .i64 a2], .bool b, .slice A n c, .int .i64 er])) w':=by
 subst hn hxs h
 exact ⟨A,c,rfl,ho,hx⟩
theorem UpdPost.nil {R:(Int×Int)×Bool×List EdD×Int} {w w':World} {a1 a2 er:Int} {b:Bool} (h:R=((a1,a2),b,[],er)) (hx:Ext w w'):
  UpdPost R w (.returned (.tuple #[.agg #[.int .i64 a1, .int .i64 a2], .bool b, .slice none 0 0, .int .i64 er])) w':=UpdPost.of h rfl rfl (World.ownsRow_nil _ _ _ _) hx
theorem hupdate_any (tt:TypeId) (tv:Value) (pv:Int→PV) (NA:Option Addr) (nc:Nat) (ns:List Int) (fresh tb n j xid:Int) (RA:Option Addr) (rc:Nat) (rs:List Val) (hot:Bool) (w:World) (hS:PgsOk w tt tv pv) (hA:At w NA (ns.map (Value.int .i64))) (hnl:ns.length≤100000) (hR:At w RA (flatR rs)) (hrl:rs.length≤9223372036854775807) (hN:NoneAt w):
  Calls Tryz.prog 30 #[.iface tt (tv), .slice NA ns.length nc, .int .i64 fresh, .int .i64 tb, .agg #[.int .i64 n, .int .i64 j], .int .i64 xid, .slice RA rs.length rc, .bool hot] w (UpdPost (updA pv fresh tb ns n j xid hot rs) w):=by
 have hwf:=hS.wf n
 go_enter Tryz.func30,Tryz.ntmps30
 have hst0:=St.start w
 refine wp_seq (sqr ?_)
 refine sqbx #[vi n,vi j] hst0 fun B12_1 W1 hst1=>?_
 refine sqal #[vi 0,vi 0] hst1 fun B16_2 W2 hst2=>?_
 refine sqp [.k 17 (.bool false), .k 18 (.slice none 0 0), .k 19 (vi 0)] ?_
 refine then_normal (wp_seq (sqr (sqp [.m 28 0] ?_)))
 refine sqlb 0 2 hst2 ?_
 refine sqk2 (fun A30_8 c30_8=> .tuple #[.agg #[vi ((vD (atF (pv n) j)).1),vi ((vD (atF (pv n) j)).2.1),vi ((vD (atF (pv n) j)).2.2.1),vi ((vD (atF (pv n) j)).2.2.2.1), .bool ((vD (atF (pv n) j)).2.2.2.2.1), .slice A30_8 ((vD (atF (pv n) j)).2.2.2.2.2.length) c30_8], .bool ((atF (pv n) j).isSome)]) (fun A30_8 c30_8=>eO 45 3 (.slice A30_8 ((vD (atF (pv n) j)).2.2.2.2.2.length) c30_8) ((vD (atF (pv n) j)).2.2.2.2.2.length) (flatR (vD (atF (pv n) j)).2.2.2.2.2)) hst2 (fun cx=>⟨_,(hget_any _ _ pv n j _ (hS.ext cx.upd.to_ext) (hN.ext cx.upd.to_ext)).mono (by rintro e W1 ⟨A4,c4,rfl,ho,hx⟩; exact ⟨_, _,rfl,St.one hx (eO_new ho)⟩),(map2 (cx.ou 28) (cx.ou 29))⟩) fun A30_8 c30_8 W8 hst8=>?_
 refine sqp [.m 27 30, .k 31 (.agg #[vi ((vD (atF (pv n) j)).1),vi ((vD (atF (pv n) j)).2.1),vi ((vD (atF (pv n) j)).2.2.1),vi ((vD (atF (pv n) j)).2.2.2.1), .bool ((vD (atF (pv n) j)).2.2.2.2.1), .slice A30_8 ((vD (atF (pv n) j)).2.2.2.2.2.length) c30_8]), .k 32 (.bool ((atF (pv n) j).isSome))] ?_
 refine sqal #[vi 0,vi 0,vi 0,vi 0, .bool false, .slice none 0 0] hst8 fun B20_12 W12 hst12=>?_
 refine sqst (n:=6) 3 #[vi ((vD (atF (pv n) j)).1),vi ((vD (atF (pv n) j)).2.1),vi ((vD (atF (pv n) j)).2.2.1),vi ((vD (atF (pv n) j)).2.2.2.1), .bool ((vD (atF (pv n) j)).2.2.2.2.1), .slice A30_8 ((vD (atF (pv n) j)).2.2.2.2.2.length) c30_8] hst12 fun W13 hst13=>?_
 refine sqp [.m 21 32] ?_
 obtain ⟨od,hN_od⟩:∃ z,(vD (atF (pv n) j))=z:=⟨_,rfl⟩
 rw [hN_od] at hst13 ⊢
 have hol:od.2.2.2.2.2.length≤6:=by rw [← hN_od]; exact atF_len hwf j
 refine then_normal (wp_seq (wp_seq (sqr (sqp [.m 33 21, .k 34 (.bool (!((atF (pv n) j).isSome)))] ?_))))
 refine then_normal ?_
 rcases Bool.eq_false_or_eq_true ((atF (pv n) j).isSome) with hs17 | hs17
 ·refine wp_cond_false (show Act.eval _ _= .bool false from (congrArg Value.bool (by rw [hs17]; rfl))) (wp_skip (then_normal (wp_seq (sqr (sqp [.m 36 5] ?_)))))
  refine sqk (.agg #[vi (-1),vi 0]) hst13 (fun cx=>⟨_,hnone_any _,map0⟩) fun W19 hst19=>?_
  refine sqp [.m 38 6, .k 39 (.agg #[vi xid,vi 0,vi (-1),vi 0, .bool true, .slice RA rs.length rc])] ?_
  refine sqal #[vi 0,vi 0,vi 0,vi 0, .bool false, .slice none 0 0] hst19 fun B22_22 W22 hst22=>?_
  refine sqst (n:=6) 4 #[vi xid,vi 0,vi (-1),vi 0, .bool true, .slice RA rs.length rc] hst22 fun W23 hst23=>?_
  refine then_normal (wp_seq (sqr ?_))
  refine sqlb 4 6 hst23 ?_
  refine sqk (.string (tbytesF xid 0 (-1) 0 true rs)) hst23 (fun cx=>⟨_,tbytes_any xid 0 (-1) 0 true _ _ rs _ (hR.ext cx.upd.to_ext) (by first | omega | decide | (simp; done) | (simp; omega)) (hN.ext cx.upd.to_ext),(map1 (cx.ou 40))⟩) fun W25 hst25=>?_
  refine sqp [.m 23 41] ?_
  obtain ⟨s,hN_s⟩:∃ z,tbytesF xid 0 (-1) 0 true rs=z:=⟨_,rfl⟩
  rw [hN_s]
  have hs309:s.size≤309:=by rw [← hN_s]; exact tb_le _ _ _ _ _ _
  have hN_s':newB xid true rs=s:=hN_s
  refine then_normal (wp_seq (wp_seq (sqr (sqp [.m 42 5] ?_))))
  refine sqk (.bool (onF xid)) hst25 (fun cx=>⟨_,hring_any xid _,(map1 (cx.ou 42))⟩) fun W28 hst28=>?_
  refine sqp [.k 44 (.bool (!(onF xid))), .m 45 44] ?_
  refine sqw 45 [46,47] rfl (fun _=>sqp [.m 46 23, .k 47 (.bool (s.toList==((⟨#[]⟩:ByteArray)).toList))] sqe) ?_
  refine sqp [sPo 48 (!(onF xid)) (s.toList==((⟨#[]⟩:ByteArray)).toList), .m 49 48] ?_
  refine sqw 49 [50,51] rfl (fun _=>sqp [.m 50 3, .k 51 (.bool (decide (tb < 0)))] sqe) ?_
  refine sqp [sPo 52 ((!(onF xid))||(s.toList==((⟨#[]⟩:ByteArray)).toList)) (decide (tb < 0)), .m 53 52] ?_
  refine sqw 53 [54,55] rfl (fun _=>sqp [.m 54 3, .k 55 (.bool (decide (65535 < tb)))] sqe) ?_
  refine sqp [sPo 56 (((!(onF xid))||(s.toList==((⟨#[]⟩:ByteArray)).toList))||(decide (tb < 0))) (decide (65535 < tb)), .m 57 56] ?_
  refine sqw 57 [58,59] rfl (fun _=>sqp [.m 58 2, .k 59 (.bool (decide (400≤fresh)))] sqe) ?_
  refine sqp [sPo 60 ((((!(onF xid))||(s.toList==((⟨#[]⟩:ByteArray)).toList))||(decide (tb < 0)))||(decide (65535 < tb))) (decide (400≤fresh))] ?_
  refine then_normal (wbs (fun hs46=>?_) fun hs46=>?_)
  ·have hs46p:=hs46
   simp only [zB] at hs46p
   refine wp_seq (sqr (sqp [.k 61 (.agg #[vi 0,vi 0])] ?_))
   refine sqst (n:=2) 1 #[vi 0,vi 0] hst28 fun W48 hst48=>?_
   refine sqp [.k 17 (.bool false), .k 18 (.slice none 0 0), .k 19 (vi 1)] ?_
   refine then_normal (wp_ret (then_ret ?_))
   refine bpr (.tuple #[.agg #[vi 0,vi 0], .bool false, .slice none 0 0,vi 1]) (results_4 Tryz.results30 (rpa (hst48.blk 1 rfl) 0 2) rpt rpt rpt) ?_
   exact UpdPost.nil (by rw [updA,if_neg (by rw [hs17]; decide),hN_s',updBad,if_pos hs46]) hst48.ext
  have hs46p:=hs46
  simp only [zB] at hs46p
  obtain ⟨⟨⟨⟨hs46p1,hs46p2⟩,hs46p3⟩,hs46p4⟩,hs46p5⟩:=hs46p
  refine wp_skip (then_normal (wp_seq (sqr (sqp [.k 62 (vp B12_1)] ?_))))
  refine sqld 0 hst28 ?_
  refine sqp [.k 64 (.agg #[vi n,vi 0])] ?_
  refine sqal #[vi 0,vi 0] hst28 fun B24_55 W55 hst55=>?_
  refine sqst (n:=2) 5 #[vi n,vi 0] hst55 fun W56 hst56=>?_
  refine then_normal ?_
  refine wp_cutT (fun t_ az W=>∃ q:Int,q=updQ pv n hot s∧az=⟨(ovr (jv az) [(65,65,7,[])] t_).toArray,[]⟩∧St w [] [eB B12_1 24 #[vi n,vi j],eB B16_2 24 #[vi 0,vi 0],eO 45 3 (.slice A30_8 (od.2.2.2.2.2.length) c30_8) od.2.2.2.2.2.length (flatR od.2.2.2.2.2),eB B20_12 41 #[vi (od.1),vi (od.2.1),vi (od.2.2.1),vi (od.2.2.2.1), .bool (od.2.2.2.2.1), .slice A30_8 (od.2.2.2.2.2.length) c30_8],eB B22_22 41 #[vi xid,vi 0,vi (-1),vi 0, .bool true, .slice RA rs.length rc],eB B24_55 24 #[vi n,vi q]] W) ?_ ?_
  ·refine wp_seq (sqr (sqp [.m 65 7] ?_))
   refine then_normal (wbs (fun hs59=>?_) fun hs59=>?_)
   ·refine sqr (sqp [.m 66 0, .k 67 (vp B12_1)] ?_)
    refine sqld 0 hst56 ?_
    refine sqp [.m 69 23] ?_
    refine sqk (vi ((roomI (pv n) s))) hst56 (fun cx=>⟨_,hroomi_any _ _ pv n s _ (hS.ext cx.upd.to_ext) (by omega),(map3 (cx.ou 66) (cx.ou 68) (cx.ou 69))⟩) fun W64 hst64=>?_
    refine sqp [.k 71 (.pointer (some ⟨B24_55,1,none⟩))] ?_
    refine sqst (n:=1) 5 #[vi n,vi ((roomI (pv n) s))] hst64 fun W66 hst66=>?_
    refine then_normal ?_
    exact ⟨(roomI (pv n) s),by rw [updQ,if_pos (by simp [hs59])],(by kernel_rfl),hst66.pk [0,1,2,3,4,5]⟩
   refine wp_skip (then_normal ?_)
   exact ⟨0,by rw [updQ,if_neg (by simp [hs59])],(by kernel_rfl),hst56.pk [0,1,2,3,4,5]⟩
  rintro a57 W57 ⟨q,hq,hj_,hst57⟩
  refine ovz hj_ fun u57_=>?_
  refine wp_seq (sqr (sqp [.k 72 (vp B24_55)] ?_))
  refine sqld 5 hst57 ?_
  refine sqp [.k 74 (.pointer (some ⟨B24_55,1,none⟩))] ?_
  refine sqld 5 hst57 ?_
  refine sqp [.m 76 23, .k 77 (.agg #[vi n,vi q, .string (s)])] ?_
  refine sqli 49 3 1 (cellsE (n,q,s)) hst57 (@fun ρ β W X cx=>by have fF77:ρ (.tmp 77)= .agg #[vi n,vi q, .string (s)]:=(cx.ou 77); simp [go_sem,fF77,cellsE]) fun B78_73 W73 hst73=>?_
  refine sqp [.m 25 78] ?_
  refine then_normal (wp_seq (sqr (sqp [.k 79 (.pointer (some ⟨B24_55,1,none⟩))] ?_)))
  refine sqld 5 hst73 ?_
  refine sqp [.k 81 (.bool (decide (0 < q))), .m 7 81] ?_
  refine then_normal (wp_seq (wp_seq (sqr (sqp [.m 82 7, .k 83 (.bool (!(decide (0 < q))))] ?_))))
  refine then_normal ?_
  rcases Bool.eq_false_or_eq_true (decide (0 < q)) with hs81 | hs81
  ·have hs81p:=of_decide_eq_true hs81
   refine wp_cond_false (show Act.eval _ _= .bool false from (congrArg Value.bool (by rw [hs81]; rfl))) (wp_skip (then_normal (wp_seq (wp_region_Y [0,0,1,5,15,31] [[],[5],[],[3],[],[7]] [[],[],[],[7],[],[8]] [[],[],[],[3],[],[7]] [.k 99 (vi xid), .c 100 (.agg #[vi n,vi q]), .k 101 (.pointer (some ⟨B20_12,1,none⟩)), .n, .k 102 (.pointer (some ⟨B20_12,2,none⟩)), .n] (fun ix σ β X=>match ix with | 0=>True | 1=>True | 2=>True | 3=>X 7=eB B20_12 41 #[vi (od.1),vi xid,vi (od.2.2.1),vi (od.2.2.2.1), .bool (od.2.2.2.2.1), .slice A30_8 (od.2.2.2.2.2.length) c30_8] | 4=>True | 5=>X 8=eB B20_12 41 #[vi (od.1),vi xid,vi n,vi q, .bool (od.2.2.2.2.1), .slice A30_8 (od.2.2.2.2.2.length) c30_8] | _=>True) [0,1,2,4,5,6,8] [1,3,5] [(99,0,5,103)] hst73 ?_ ?_ ?_))))
   ·exact fun ix _ _ _ _ _ _ hs hb hx h=>match ix,h with
    | 3,h=>by dsimp only; rw [← hx 7 rfl]; exact h
    | 5,h=>by dsimp only; rw [← hx 8 rfl]; exact h
    | 0, _ | 1, _ | 2, _ | 4, _ | _+6, _=>trivial
   ·refine ⟨?_,?_,?_,trivial⟩
    ·exact xs4 rfl id fun cx=>run_loadB (n:=2) rfl (by kernel_rfl) (by kernel_rfl) (cx.ou 24) (cx.bi 5 rfl) (nle rfl) rfl
    ·refine svA fun ρ β W X cx=>?_
     exact dv_store (n:=1) rfl (cx.an 2) (cx.an 0) (by kernel_rfl) (by kernel_rfl) (by kernel_rfl) cx (cx.init 3 _ rfl) rfl (nle rfl) (by kernel_rfl) rfl rfl rfl (fun σ β' X' hs hb hx=>hx)
    ·refine svA fun ρ β W X cx=>?_
     exact dv_store (n:=2) rfl (cx.an 4) (cx.an 1) (by kernel_rfl) (by kernel_rfl) (by kernel_rfl) cx (dTn (cx.an 3)) rfl (nle rfl) (by kernel_rfl) rfl rfl rfl (fun σ β' X' hs hb hx=>hx)
   intro σ β X W82 hD hst82 fr hfr
   simp only [exq 8 ((dTn (hD 5 lq)))] at hst82
   clear hD; subst hfr; clear σ β X
   refine then_normal (wp_seq (wp_region_Y [0,0,0,0,8,0,32,0,128,504,1016,2044,4093,8191,16383,32767] [[4],[],[],[],[0],[],[0],[6],[2],[],[],[7,5],[1]] [[],[],[],[],[],[],[],[],[],[],[7],[8],[9]] [[],[],[],[],[],[],[],[],[],[],[],[5],[1]] [.c 103 (.agg #[vi n,vi q]), .c 104 (.bool true), .k 105 (.slice ((some ⟨B78_73,0,none⟩)) 1 1), .k 106 (vp B12_1), .c 107 (vi n), .k 108 (.pointer (some ⟨B12_1,1,none⟩)), .c 109 (vi j), .c 110 (.agg #[vi (od.1),vi xid,vi n,vi q, .bool (od.2.2.2.2.1), .slice A30_8 (od.2.2.2.2.2.length) c30_8]), .c 111 (.string (tbytesF od.1 xid n q od.2.2.2.2.1 od.2.2.2.2.2)), .k 112 (.agg #[vi n,vi j, .string (tbytesF od.1 xid n q od.2.2.2.2.1 od.2.2.2.2.2)]), .a 113, .a 114, .n, .k 17 (.bool true), .a 18, .k 19 (vi 0)] (fun ix σ β X=>match ix with | 0=>True | 1=>True | 2=>True | 3=>True | 4=>True | 5=>True | 6=>True | 7=>True | 8=>True | 9=>True | 10=>σ 113= .slice ((some ⟨(pb' (β 113)),0,none⟩)) 1 1∧X 7=eO 49 3 (.slice ((some ⟨(pb' (β 113)),0,none⟩)) 1 1) 1 (cellsE (n,j,tbytesF od.1 xid n q od.2.2.2.2.1 od.2.2.2.2.2)) | 11=>σ 114= .slice (sA (β 114)) 2 (sC (β 114))∧X 8=eO 49 3 (.slice (sA (β 114)) 2 (sC (β 114))) 2 ([(n,q,s),(n,j,tbytesF od.1 xid n q od.2.2.2.2.1 od.2.2.2.2.2)].flatMap cellsE) | 12=>X 9=eB B16_2 24 #[vi n,vi q] | 13=>True | 14=>σ 18= .slice (sA (β 114)) 2 (sC (β 114)) | _=>True) [0,2,3,4,6,7,8,9] [0,1,4,6,7,8,10,11,12,14] [(17,13,3,20),(83,0,12,95)] hst82 ?_ ?_ ?_))
   ·exact fun ix _ _ _ _ _ _ hs hb hx h=>match ix,h with
    | 10,h=>by dsimp only; rw [← hs 113 rfl,← hb 113 rfl,← hx 7 rfl]; exact h
    | 11,h=>by dsimp only; rw [← hs 114 rfl,← hb 114 rfl,← hx 8 rfl]; exact h
    | 12,h=>by dsimp only; rw [← hx 9 rfl]; exact h
    | 14,h=>by dsimp only; rw [← hs 18 rfl,← hb 114 rfl]; exact h
    | 0, _ | 1, _ | 2, _ | 3, _ | 4, _ | 5, _ | 6, _ | 7, _ | 8, _ | 9, _ | 13, _ | _+15, _=>trivial
   ·refine ⟨?_,?_,?_,?_,?_,?_,?_,?_,?_,?_,trivial⟩
    ·exact xs4 rfl id fun cx=>run_loadB (n:=2) rfl (by kernel_rfl) (by kernel_rfl) (cx.ou 24) (cx.bi 4 rfl) (nle rfl) rfl
    ·exact xs4 rfl id fun cx=>run_move' rfl (Eq.trans (cx.ou 7) (congrArg Value.bool hs81))
    ·exact xs4 rfl id fun cx=>run_load1 rfl (by kernel_rfl) (cx.an 3) ((cx.bi 0 rfl).cell 0)
    ·exact xs4 rfl id fun cx=>run_load1 rfl (by kernel_rfl) (cx.an 5) ((cx.bi 0 rfl).cell 1)
    ·exact xs4 rfl id fun cx=>run_loadB (n:=6) rfl (by kernel_rfl) (by kernel_rfl) (cx.ou 20) (cx.bi 6 rfl) (nle rfl) rfl
    ·exact xsc rfl id rfl rfl fun cx=>⟨_,tbytes_any od.1 xid n q od.2.2.2.2.1 _ _ od.2.2.2.2.2 _ (At.of_ownN (cx.ri 2 rfl)) (by first | omega | decide | (simp; done) | (simp; omega)) (hN.ext cx.upd.to_ext),(map1 (cx.an 7))⟩
    ·refine svA fun ρ β W X cx=>?_
     have fF112:ρ (.tmp 112)= .agg #[vi n,vi j, .string (tbytesF od.1 xid n q od.2.2.2.2.1 od.2.2.2.2.2)]:=(cx.an 9)
     exact dv_litN (e:=49) (sz:=3) (xs:=[vi n,vi j, .string (tbytesF od.1 xid n q od.2.2.2.2.1 od.2.2.2.2.2)]) rfl (by simp [go_sem,fF112]) rfl (by decide) rfl rfl (fun σ β' X' hs hb hv hx=>⟨hv,hx⟩)
    ·refine svA fun ρ β W X cx=>?_
     obtain ⟨i0,hi0,hz0,hz1,hz2⟩:=info_parts Tryz.infoEdit
     refine dv_appendN (n:=1) (m:=1) (nm:=2) (sz:=3) (xs:=cellsE (n,q,s)) (news:=cellsE (n,j,tbytesF od.1 xid n q od.2.2.2.2.1 od.2.2.2.2.2)) (xs':=[(n,q,s),(n,j,tbytesF od.1 xid n q od.2.2.2.2.1 od.2.2.2.2.2)].flatMap cellsE) rfl (ty:=46) rfl (by kernel_rfl) hi0 hz0 hz1 hz2 rfl (by decide) (cx.an 2) cx (cx.init 5 _ rfl) rfl (dTn (cx.an 10)).1 (by rfl) (At.of_ownN (cx.row (dTn (cx.an 10)).2 rfl)) (by simp [cellsE,Value.oneCell']) (by simp only [maxLen]; omega) (by omega) rfl rfl rfl (by omega) (rfl) (fun σ β' X' hs hb hv hx=>?_)
     exact ⟨hv,hx⟩
    ·refine svA fun ρ β W X cx=>?_
     exact dv_store (n:=2) rfl (cx.ou 16) (cx.an 0) (by kernel_rfl) (by kernel_rfl) (by kernel_rfl) cx (cx.init 1 _ rfl) rfl (nle rfl) (by kernel_rfl) rfl rfl rfl (fun σ β' X' hs hb hx=>hx)
    ·exact sv rfl rfl rfl rfl rfl _ (fun _ _ _ h=>h) (fun β β' h=>by rw [h 114 (by decide)]) fun ρ β W X cx=>run_assign' rfl (dTn (cx.an 11)).1
   intro σ β X W83 hD hst83 fr hfr
   obtain ⟨B113_83,hu_B113_83⟩:∃ z,pb' (β 113)=z:=⟨_,rfl⟩
   obtain ⟨A114_83,hu_A114_83⟩:∃ z,sA (β 114)=z:=⟨_,rfl⟩
   obtain ⟨c114_83,hu_c114_83⟩:∃ z,sC (β 114)=z:=⟨_,rfl⟩
   simp only [exq 7 ((dTn (hD 10 lq)).2),exq 8 ((dTn (hD 11 lq)).2),exq 9 ((dTn (hD 12 lq))),hu_B113_83,hu_A114_83,hu_c114_83] at hst83
   simp only [ed 113 ((dTn (hD 10 lq)).1),ed 114 ((dTn (hD 11 lq)).1),ed 18 ((dTn (hD 14 lq))),hu_B113_83,hu_A114_83,hu_c114_83] at hfr
   clear hD hu_B113_83 hu_A114_83 hu_c114_83; subst hfr; clear σ β X
   refine then_normal (wp_ret ?_)
   refine bpr (.tuple #[.agg #[vi n,vi q], .bool true, .slice A114_83 2 c114_83,vi 0]) (results_4 Tryz.results30 (rpa (hst83.blk 7 rfl) 0 2) rpt rpt rpt) ?_
   exact UpdPost.of (l:=[(n,q,s),(n,j,oldB od xid n q)]) (by rw [updA,if_neg (by rw [hs17]; decide),hN_s',updBad,if_neg (by rw [hs46]; decide),updR,hN_s',← hq,if_pos (by omega),hN_od]) rfl rfl (hst83.own' 6 rfl) hst83.ext
  have hs81p:=of_decide_eq_false hs81
  refine wp_cond_true (show Act.eval _ _= .bool true from (congrArg Value.bool (by rw [hs81]; rfl))) (wp_seq (sqr (sqp [.k 26 (vi 0)] ?_)))
  refine then_normal (wp_seq (sqr (sqp [.k 84 (.pointer (some ⟨B22_22,4,none⟩))] ?_)))
  refine sqst (n:=1) 4 #[vi xid,vi 0,vi (-1),vi 0, .bool false, .slice RA rs.length rc] hst73 fun W86 hst86=>?_
  refine then_normal (wp_seq (sqr (sqp [.m 86 0, .m 87 1, .m 88 2, .m 89 3] ?_)))
  refine sqlb 4 6 hst86 ?_
  refine sqk2 (fun A91_92 c91_92=> .tuple #[.agg #[vi ((insA pv fresh tb ns (tbytesF xid 0 (-1) 0 false rs)).1.1),vi ((insA pv fresh tb ns (tbytesF xid 0 (-1) 0 false rs)).1.2)], .slice A91_92 ((insA pv fresh tb ns (tbytesF xid 0 (-1) 0 false rs)).2.1.length) c91_92,vi ((insA pv fresh tb ns (tbytesF xid 0 (-1) 0 false rs)).2.2)]) (fun A91_92 c91_92=>eO 49 3 (.slice A91_92 ((insA pv fresh tb ns (tbytesF xid 0 (-1) 0 false rs)).2.1.length) c91_92) ((insA pv fresh tb ns (tbytesF xid 0 (-1) 0 false rs)).2.1.length) ((insA pv fresh tb ns (tbytesF xid 0 (-1) 0 false rs)).2.1.flatMap cellsE)) hst86 (fun cx=>⟨_,(hinsert_any _ _ pv _ _ ns fresh tb xid 0 (-1) 0 false _ _ rs _ (hS.ext cx.upd.to_ext) (hA.ext cx.upd.to_ext) (by first | (simp; done) | omega) (hR.ext cx.upd.to_ext) (by first | omega | (simp; done)) (hN.ext cx.upd.to_ext)).mono (by rintro e W1 ⟨A4,c4,rfl,ho_,hx⟩; exact ⟨_, _,rfl,St.one hx (eO_new ho_)⟩),(map5 (cx.ou 86) (cx.ou 87) (cx.ou 88) (cx.ou 89) (cx.ou 90))⟩) fun A91_92 c91_92 W92 hst92=>?_
  refine sqp [.m 85 91, .k 92 (.agg #[vi ((insA pv fresh tb ns (tbytesF xid 0 (-1) 0 false rs)).1.1),vi ((insA pv fresh tb ns (tbytesF xid 0 (-1) 0 false rs)).1.2)]), .k 93 (.slice A91_92 ((insA pv fresh tb ns (tbytesF xid 0 (-1) 0 false rs)).2.1.length) c91_92), .k 94 (vi ((insA pv fresh tb ns (tbytesF xid 0 (-1) 0 false rs)).2.2))] ?_
  refine sqst (n:=2) 5 #[vi ((insA pv fresh tb ns (tbytesF xid 0 (-1) 0 false rs)).1.1),vi ((insA pv fresh tb ns (tbytesF xid 0 (-1) 0 false rs)).1.2)] hst92 fun W97 hst97=>?_
  refine sqp [.m 25 93, .m 26 94] ?_
  obtain ⟨RI,hN_RI⟩:∃ z,(insA pv fresh tb ns (tbytesF xid 0 (-1) 0 false rs))=z:=⟨_,rfl⟩
  rw [hN_RI] at hst97 ⊢
  have hN_r':insA pv fresh tb ns (newB xid false rs)=RI:=hN_RI
  have hRl:RI.2.1.length≤3:=by rw [← hN_RI]; exact insA_len _ _ _ _ _
  refine then_normal (wp_seq (sqr (sqp [.m 95 26, .k 96 (.bool (RI.2.2 != 0))] ?_)))
  refine then_normal (wbs (fun hs102=>?_) fun hs102=>?_)
  ·have hs102p:=bne_iff_ne.1 hs102
   refine wp_seq (sqr (sqp [.k 97 (.agg #[vi 0,vi 0]), .m 98 26] ?_))
   refine sqst (n:=2) 1 #[vi 0,vi 0] hst97 fun W105 hst105=>?_
   refine sqp [.k 17 (.bool false), .k 18 (.slice none 0 0), .m 19 98] ?_
   refine then_normal (wp_ret (then_ret ?_))
   refine bpr (.tuple #[.agg #[vi 0,vi 0], .bool false, .slice none 0 0,vi (RI.2.2)]) (results_4 Tryz.results30 (rpa (hst105.blk 1 rfl) 0 2) rpt rpt rpt) ?_
   exact UpdPost.nil (by rw [updA,if_neg (by rw [hs17]; decide),hN_s',updBad,if_neg (by rw [hs46]; decide),updR,hN_s',← hq,if_neg (by omega),hN_r',if_pos (by omega)]) hst105.ext
  have hs102p:=bne_eq_false_iff_eq.1 hs102
  refine wp_skip (then_normal (wp_seq (wp_region_Y [0,0,1,5,15,31] [[],[5],[],[3],[],[8]] [[],[],[],[8],[],[9]] [[],[],[],[3],[],[8]] [.k 99 (vi xid), .c 100 (.agg #[vi (RI.1.1),vi (RI.1.2)]), .k 101 (.pointer (some ⟨B20_12,1,none⟩)), .n, .k 102 (.pointer (some ⟨B20_12,2,none⟩)), .n] (fun ix σ β X=>match ix with | 0=>True | 1=>True | 2=>True | 3=>X 8=eB B20_12 41 #[vi (od.1),vi xid,vi (od.2.2.1),vi (od.2.2.2.1), .bool (od.2.2.2.2.1), .slice A30_8 (od.2.2.2.2.2.length) c30_8] | 4=>True | 5=>X 9=eB B20_12 41 #[vi (od.1),vi xid,vi (RI.1.1),vi (RI.1.2), .bool (od.2.2.2.2.1), .slice A30_8 (od.2.2.2.2.2.length) c30_8] | _=>True) [0,1,2,4,5,6,7,9] [1,3,5] [(99,0,5,103)] hst97 ?_ ?_ ?_)))
  ·exact fun ix _ _ _ _ _ _ hs hb hx h=>match ix,h with
   | 3,h=>by dsimp only; rw [← hx 8 rfl]; exact h
   | 5,h=>by dsimp only; rw [← hx 9 rfl]; exact h
   | 0, _ | 1, _ | 2, _ | 4, _ | _+6, _=>trivial
  ·refine ⟨?_,?_,?_,trivial⟩
   ·exact xs4 rfl id fun cx=>run_loadB (n:=2) rfl (by kernel_rfl) (by kernel_rfl) (cx.ou 24) (cx.bi 5 rfl) (nle rfl) rfl
   ·refine svA fun ρ β W X cx=>?_
    exact dv_store (n:=1) rfl (cx.an 2) (cx.an 0) (by kernel_rfl) (by kernel_rfl) (by kernel_rfl) cx (cx.init 3 _ rfl) rfl (nle rfl) (by kernel_rfl) rfl rfl rfl (fun σ β' X' hs hb hx=>hx)
   ·refine svA fun ρ β W X cx=>?_
    exact dv_store (n:=2) rfl (cx.an 4) (cx.an 1) (by kernel_rfl) (by kernel_rfl) (by kernel_rfl) cx (dTn (cx.an 3)) rfl (nle rfl) (by kernel_rfl) rfl rfl rfl (fun σ β' X' hs hb hx=>hx)
  intro σ β X W109 hD hst109 fr hfr
  simp only [exq 9 ((dTn (hD 5 lq)))] at hst109
  clear hD; subst hfr; clear σ β X
  refine then_normal (wp_seq (wp_region_Y [0,0,0,0,8,0,32,0,128,504,1016,2044,4093,8191,16383,32767] [[4],[],[],[],[0],[],[0],[7],[2],[],[],[8,6],[1]] [[],[],[],[],[],[],[],[],[],[],[8],[9],[10]] [[],[],[],[],[],[],[],[],[],[],[],[6],[1]] [.c 103 (.agg #[vi (RI.1.1),vi (RI.1.2)]), .c 104 (.bool false), .k 105 (.slice A91_92 (RI.2.1.length) c91_92), .k 106 (vp B12_1), .c 107 (vi n), .k 108 (.pointer (some ⟨B12_1,1,none⟩)), .c 109 (vi j), .c 110 (.agg #[vi (od.1),vi xid,vi (RI.1.1),vi (RI.1.2), .bool (od.2.2.2.2.1), .slice A30_8 (od.2.2.2.2.2.length) c30_8]), .c 111 (.string (tbytesF od.1 xid RI.1.1 RI.1.2 od.2.2.2.2.1 od.2.2.2.2.2)), .k 112 (.agg #[vi n,vi j, .string (tbytesF od.1 xid RI.1.1 RI.1.2 od.2.2.2.2.1 od.2.2.2.2.2)]), .a 113, .a 114, .n, .k 17 (.bool false), .a 18, .k 19 (vi 0)] (fun ix σ β X=>match ix with | 0=>True | 1=>True | 2=>True | 3=>True | 4=>True | 5=>True | 6=>True | 7=>True | 8=>True | 9=>True | 10=>σ 113= .slice ((some ⟨(pb' (β 113)),0,none⟩)) 1 1∧X 8=eO 49 3 (.slice ((some ⟨(pb' (β 113)),0,none⟩)) 1 1) 1 (cellsE (n,j,tbytesF od.1 xid RI.1.1 RI.1.2 od.2.2.2.2.1 od.2.2.2.2.2)) | 11=>σ 114= .slice (sA (β 114)) (RI.2.1.length+1) (sC (β 114))∧X 9=eO 49 3 (.slice (sA (β 114)) (RI.2.1.length+1) (sC (β 114))) (RI.2.1.length+1) ((RI.2.1++[(n,j,tbytesF od.1 xid RI.1.1 RI.1.2 od.2.2.2.2.1 od.2.2.2.2.2)]).flatMap cellsE) | 12=>X 10=eB B16_2 24 #[vi (RI.1.1),vi (RI.1.2)] | 13=>True | 14=>σ 18= .slice (sA (β 114)) (RI.2.1.length+1) (sC (β 114)) | _=>True) [0,2,3,4,5,7,8,9,10] [0,1,4,6,7,8,10,11,12,14] [(17,13,3,20),(83,0,12,95)] hst109 ?_ ?_ ?_))
  ·exact fun ix _ _ _ _ _ _ hs hb hx h=>match ix,h with
   | 10,h=>by dsimp only; rw [← hs 113 rfl,← hb 113 rfl,← hx 8 rfl]; exact h
   | 11,h=>by dsimp only; rw [← hs 114 rfl,← hb 114 rfl,← hx 9 rfl]; exact h
   | 12,h=>by dsimp only; rw [← hx 10 rfl]; exact h
   | 14,h=>by dsimp only; rw [← hs 18 rfl,← hb 114 rfl]; exact h
   | 0, _ | 1, _ | 2, _ | 3, _ | 4, _ | 5, _ | 6, _ | 7, _ | 8, _ | 9, _ | 13, _ | _+15, _=>trivial
  ·refine ⟨?_,?_,?_,?_,?_,?_,?_,?_,?_,?_,trivial⟩
   ·exact xs4 rfl id fun cx=>run_loadB (n:=2) rfl (by kernel_rfl) (by kernel_rfl) (cx.ou 24) (cx.bi 4 rfl) (nle rfl) rfl
   ·exact xs4 rfl id fun cx=>run_move' rfl (Eq.trans (cx.ou 7) (congrArg Value.bool hs81))
   ·exact xs4 rfl id fun cx=>run_load1 rfl (by kernel_rfl) (cx.an 3) ((cx.bi 0 rfl).cell 0)
   ·exact xs4 rfl id fun cx=>run_load1 rfl (by kernel_rfl) (cx.an 5) ((cx.bi 0 rfl).cell 1)
   ·exact xs4 rfl id fun cx=>run_loadB (n:=6) rfl (by kernel_rfl) (by kernel_rfl) (cx.ou 20) (cx.bi 7 rfl) (nle rfl) rfl
   ·exact xsc rfl id rfl rfl fun cx=>⟨_,tbytes_any od.1 xid RI.1.1 RI.1.2 od.2.2.2.2.1 _ _ od.2.2.2.2.2 _ (At.of_ownN (cx.ri 2 rfl)) (by first | omega | decide | (simp; done) | (simp; omega)) (hN.ext cx.upd.to_ext),(map1 (cx.an 7))⟩
   ·refine svA fun ρ β W X cx=>?_
    have fF112:ρ (.tmp 112)= .agg #[vi n,vi j, .string (tbytesF od.1 xid RI.1.1 RI.1.2 od.2.2.2.2.1 od.2.2.2.2.2)]:=(cx.an 9)
    exact dv_litN (e:=49) (sz:=3) (xs:=[vi n,vi j, .string (tbytesF od.1 xid RI.1.1 RI.1.2 od.2.2.2.2.1 od.2.2.2.2.2)]) rfl (by simp [go_sem,fF112]) rfl (by decide) rfl rfl (fun σ β' X' hs hb hv hx=>⟨hv,hx⟩)
   ·refine svA fun ρ β W X cx=>?_
    obtain ⟨i0,hi0,hz0,hz1,hz2⟩:=info_parts Tryz.infoEdit
    refine dv_appendN (n:=RI.2.1.length) (m:=1) (nm:=RI.2.1.length+1) (sz:=3) (xs:=RI.2.1.flatMap cellsE) (news:=cellsE (n,j,tbytesF od.1 xid RI.1.1 RI.1.2 od.2.2.2.2.1 od.2.2.2.2.2)) (xs':=(RI.2.1++[(n,j,tbytesF od.1 xid RI.1.1 RI.1.2 od.2.2.2.2.1 od.2.2.2.2.2)]).flatMap cellsE) rfl (ty:=46) rfl (by kernel_rfl) hi0 hz0 hz1 hz2 rfl (by decide) (cx.an 2) cx (cx.init 6 _ rfl) rfl (dTn (cx.an 10)).1 (by rfl) (At.of_ownN (cx.row (dTn (cx.an 10)).2 rfl)) (by simp [cellsE,Value.oneCell']) (by simp only [maxLen]; omega) (by omega) rfl rfl rfl (by omega) (eds_snoc _ _) (fun σ β' X' hs hb hv hx=>?_)
    exact ⟨hv,hx⟩
   ·refine svA fun ρ β W X cx=>?_
    exact dv_store (n:=2) rfl (cx.ou 16) (cx.an 0) (by kernel_rfl) (by kernel_rfl) (by kernel_rfl) cx (cx.init 1 _ rfl) rfl (nle rfl) (by kernel_rfl) rfl rfl rfl (fun σ β' X' hs hb hx=>hx)
   ·exact sv rfl rfl rfl rfl rfl _ (fun _ _ _ h=>h) (fun β β' h=>by rw [h 114 (by decide)]) fun ρ β W X cx=>run_assign' rfl (dTn (cx.an 11)).1
  intro σ β X W110 hD hst110 fr hfr
  obtain ⟨B113_110,hu_B113_110⟩:∃ z,pb' (β 113)=z:=⟨_,rfl⟩
  obtain ⟨A114_110,hu_A114_110⟩:∃ z,sA (β 114)=z:=⟨_,rfl⟩
  obtain ⟨c114_110,hu_c114_110⟩:∃ z,sC (β 114)=z:=⟨_,rfl⟩
  simp only [exq 8 ((dTn (hD 10 lq)).2),exq 9 ((dTn (hD 11 lq)).2),exq 10 ((dTn (hD 12 lq))),hu_B113_110,hu_A114_110,hu_c114_110] at hst110
  simp only [ed 113 ((dTn (hD 10 lq)).1),ed 114 ((dTn (hD 11 lq)).1),ed 18 ((dTn (hD 14 lq))),hu_B113_110,hu_A114_110,hu_c114_110] at hfr
  clear hD hu_B113_110 hu_A114_110 hu_c114_110; subst hfr; clear σ β X
  refine then_normal (wp_ret ?_)
  refine bpr (.tuple #[.agg #[vi (RI.1.1),vi (RI.1.2)], .bool false, .slice A114_110 (RI.2.1.length+1) c114_110,vi 0]) (results_4 Tryz.results30 (rpa (hst110.blk 8 rfl) 0 2) rpt rpt rpt) ?_
  exact UpdPost.of (l:=RI.2.1++[(n,j,oldB od xid RI.1.1 RI.1.2)]) (by rw [updA,if_neg (by rw [hs17]; decide),hN_s',updBad,if_neg (by rw [hs46]; decide),updR,hN_s',← hq,if_neg (by omega),hN_r',if_neg (by omega),hN_od]) (by rw [List.length_append]; rfl) rfl (hst110.own' 7 rfl) hst110.ext
 refine wp_cond_true (show Act.eval _ _= .bool true from (congrArg Value.bool (by rw [hs17]; rfl))) (wp_seq (sqr (sqp [.k 35 (.agg #[vi 0,vi 0])] ?_)))
 refine sqst (n:=2) 1 #[vi 0,vi 0] hst13 fun W112 hst112=>?_
 refine sqp [.k 17 (.bool false), .k 18 (.slice none 0 0), .k 19 (vi 21)] ?_
 refine then_normal (wp_ret (then_ret ?_))
 refine bpr (.tuple #[.agg #[vi 0,vi 0], .bool false, .slice none 0 0,vi 21]) (results_4 Tryz.results30 (rpa (hst112.blk 1 rfl) 0 2) rpt rpt rpt) ?_
 exact UpdPost.nil (by rw [updA,if_pos (by rw [hs17]; rfl)]) hst112.ext
end
section
open Go.RowKit Go.Maps
/-- block b holds a map from int to bool of at most n entries that answers m -/
def MapB (P:Program) (k e b n:Nat) (m:Int→Bool) (W:World):Prop:=
 ∃ D:DataW Unit,W.ownsMap P k (plainElem P e) b n D∧IsMap D∧∀ x:Int,(Lit.int .i64 x).wf=true→D.atKey (.int .i64 x) (.lit (.bool false))= .lit (.bool (m x))
def eMb (P:Program) (k e b n:Nat) (m:Int→Bool):Ent:=⟨[b],MapB P k e b n m⟩
theorem eMb_loc (P:Program) (k e b n:Nat) (m:Int→Bool):(eMb P k e b n m).loc:=fun W W' h hb=>by
 obtain ⟨D,⟨es,clock,h1,h2⟩,h3⟩:=hb
 exact ⟨D,⟨es,clock,(h b (by simp [eMb])).trans h1,h2⟩,h3⟩
theorem MapB.lt {P:Program} {k e b n:Nat} {m:Int→Bool} {W:World} (h:MapB P k e b n m W):b < W.heap.size:=by
 obtain ⟨D,hD, _⟩:=h
 exact hD.lt
theorem i64_wf {x:Int} (h: -9223372036854775808≤x∧x≤9223372036854775807):(Lit.int .i64 x).wf=true:=by
 show (decide (IntKind.i64.min≤x)&&decide (x≤IntKind.i64.max))=true
 have h1:IntKind.i64.min= -9223372036854775808:=by decide
 have h2:IntKind.i64.max=9223372036854775807:=by decide
 rw [h1,h2,decide_eq_true h.1,decide_eq_true h.2]; rfl
section
variable {P:Program} {o:Oper} {ρ:Operand→Value} {W:World} {k e b n:Nat} {m:Int→Bool}
theorem MapB.look {t:TypeId} {x:Int} (h:MapB P k e b n m W) (hk:P.underlying k=some (.int .i64)) (he:P.underlying e=some .bool) (ht:P.underlying t=some (.map k e)) (hz:∀ w,(zeroValue e).run P w= .ok (.bool false) w) (hx:(Lit.int .i64 x).wf=true):
  (Instr.lookup t (.map (some b)) (.int .i64 x) false).run P W= .ok (.bool (m x)) W:=by
 obtain ⟨D,hD, _,hm⟩:=h
 obtain ⟨v,ps,hrun,hv⟩:=hD.lookup (int_keyed hk) ht (hz W) (plainElem_bool he false) (keyOf_int_mk hk hx)
 rw [hm x hx] at hv
 have:v= .bool (m x):=by
  unfold plainElem at hv
  rw [he] at hv
  cases v<;>simp at hv
  rw [hv.1]
 rw [this] at hrun
 exact hrun
theorem run_lookMb {t:TypeId} {y z:Operand} {x:Int} (h:o.op= .lookup t y z false) (hy:ρ y= .map (some b)) (hz:ρ z= .int .i64 x) (hb:MapB P k e b n m W) (hk:P.underlying k=some (.int .i64):=by kernel_rfl) (he:P.underlying e=some .bool:=by kernel_rfl) (ht:P.underlying t=some (.map k e):=by kernel_rfl) (h0:∀ w,(zeroValue e).run P w= .ok (.bool false) w) (hx: -9223372036854775808≤x∧x≤9223372036854775807):
  (execOp ρ o).run P W= .ok (.value (.bool (m x))) W:=by
 have hrun:=hb.look hk he ht h0 (i64_wf hx)
 unfold execOp
 rw [h]
 simp [hy,hz,hrun]
theorem MapB.set {t:TypeId} {x:Int} {v:Bool} (h:MapB P k e b n m W) (hk:P.underlying k=some (.int .i64)) (he:P.underlying e=some .bool) (ht:P.underlying t=some (.map k e)) (hn:n < 1000000) (hx:(Lit.int .i64 x).wf=true):
  ∃ W',(Instr.mapUpdate t (.map (some b)) (.int .i64 x) (.bool v)).run P W= .ok () W'∧MapB P k e b (n+1) (fun y=>if y=x then v else m y) W'∧Upd [b] W W':=by
 obtain ⟨D,hD,hI,hm⟩:=h
 obtain ⟨W',hrun,hown,hg⟩:=hD.update (int_keyed hk) ht (by simp only [maxLen]; omega) (keyOf_int_mk hk hx) (plainElem_bool he v)
 refine ⟨W',hrun,⟨_,hown,hown.isMap,fun y hy=>?_⟩,⟨hg.os,hg.tape,hg.output,hg.size,fun i hi hn=>hg.block i hi (fun e'=>hn (by cases e'; simp))⟩⟩
 by_cases e':y=x
 ·subst e'
  show _=DataW.lit (Lit.bool (if y=y then v else m y))
  rw [if_pos rfl]
  exact atKey_put_same hI (by trivial) _ _
 ·show _=DataW.lit (Lit.bool (if y=x then v else m y))
  rw [if_neg e',atKey_put_other (by simpa using e')]
  exact hm y hy
theorem run_setMb {t:TypeId} {y z u:Operand} {x:Int} {v:Bool} (h:o.op= .mapUpdate t y z u∨o.op= .insert t y z u) (hy:ρ y= .map (some b)) (hz:ρ z= .int .i64 x) (hu:ρ u= .bool v) (hb:MapB P k e b n m W) (hn:n < 1000000) (hx: -9223372036854775808≤x∧x≤9223372036854775807)
  (hk:P.underlying k=some (.int .i64):=by kernel_rfl) (he:P.underlying e=some .bool:=by kernel_rfl) (ht:P.underlying t=some (.map k e):=by kernel_rfl):
  ∃ W',(execOp ρ o).run P W= .ok .skip W'∧MapB P k e b (n+1) (fun y=>if y=x then v else m y) W'∧Upd [b] W W':=by
 obtain ⟨W',hrun,h1,h2⟩:=hb.set (v:=v) hk he ht hn (i64_wf hx)
 refine ⟨W',?_,h1,h2⟩
 unfold execOp
 rcases h with h | h<;>rw [h]<;>simp [hy,hz,hu,hrun]
theorem MapB.made:MapB P k e W.heap.size 0 (fun _=>false) (W.alloc (.map #[] 0)):=⟨.map [],World.ownsMap_made W P k (plainElem P e),⟨_,rfl⟩,fun x hx=>rfl⟩
end
def pbm:Value→Nat
 | .map (some b)=>b
 | _=>0
section
variable {P:Program} {ops:Array Oper} {L:List Nat} {a0:Act} {w0:World} {bor:List Nat} {X0:List Ent} {us cr kl:List (List Nat)}
 {D:Nat→(Tmp→Value)→(Tmp→Value)→(Nat→Ent)→Prop} {i:Nat} {o:Oper} {ρ:Operand→Value} {β:Tmp→Value} {W:World} {X:Nat→Ent}
theorem CtxV.mb {q k e b n:Nat} {m:Int→Bool} (cx:CtxV ops L a0 w0 bor X0 us D i ρ β W X) (hX:X q=eMb P k e b n m) (hu:(atV us i).contains q=true):MapB P k e b n m W:=by
 have h:=(cx.ok q hu).holds
 rw [hX] at h; exact h
theorem dv_makeMb {t d k e q:Nat} (h:o.op= .makeMap t none) (hd:o.dst=some d) (hc:atV cr i=[q]) (hk:atV kl i=[])
  (hD:∀ (σ β':Tmp→Value) (X':Nat→Ent),(∀ t,t≠d→σ t=ρ (.tmp t))→(∀ t,t≠d→β' t=β t)→σ d= .map (some (pbm (β' d)))→X' q=eMb P k e (pbm (β' d)) 0 (fun _=>false)→D i σ β' X'):DoesU P o ρ W (PostV cr kl D i o.dst ρ β W X):=by
 refine DoesU.value (v:= .map (some W.heap.size)) (w':=W.alloc (.map #[] 0)) (by unfold execOp; rw [h]; rfl) ?_
 refine post_call [eMb P k e W.heap.size 0 (fun _=>false)] hk (by rw [hc]; rfl) ((Ext.refl W).alloc _) (one_new ⟨MapB.made,eMb_loc _ _ _ _ _ _,fun k' hk'=>?_⟩) (List.pairwise_singleton _ _) (fun σ β' X' hs hb hv hN=>?_)
 ·have:k'=W.heap.size:=by simpa [eMb] using hk'
  subst this
  exact ⟨Nat.le_refl _,by simp⟩
 ·have hv1:=(hv d hd).1; have hv2:=(hv d hd).2
  rw [hc] at hN
  refine hD σ β' X' (fun t ht=>hs t (by rw [hd]; simpa using ht.symm)) (fun t ht=>hb t (by rw [hd]; simpa using ht.symm)) ?_ ?_
  ·rw [hv1,hv2]; rfl
  ·rw [hv2]; exact (List.cons.inj hN).1
theorem dv_setMb {t k e b n q q':Nat} {m:Int→Bool} {y z u:Operand} {x:Int} {v:Bool} (h:o.op= .mapUpdate t y z u∨o.op= .insert t y z u) (hy:ρ y= .map (some b)) (hz:ρ z= .int .i64 x) (hu:ρ u= .bool v)
  (cx:CtxV ops L a0 w0 bor X0 us D i ρ β W X) (hX:X q=eMb P k e b n m) (hq:(atV us i).contains q=true) (hn:n < 1000000) (hx: -9223372036854775808≤x∧x≤9223372036854775807) (hd:o.dst=none) (hc:atV cr i=[q']) (hkl:atV kl i=[q])
  (hD:∀ (σ β':Tmp→Value) (X':Nat→Ent),(∀ t,σ t=ρ (.tmp t))→(∀ t,β' t=β t)→X' q'=eMb P k e b (n+1) (fun y=>if y=x then v else m y)→D i σ β' X')
  (hk:P.underlying k=some (.int .i64):=by kernel_rfl) (he:P.underlying e=some .bool:=by kernel_rfl) (ht:P.underlying t=some (.map k e):=by kernel_rfl):DoesU P o ρ W (PostV cr kl D i o.dst ρ β W X):=by
 obtain ⟨W',hrun,h1,h2⟩:=run_setMb (v:=v) h hy hz hu (cx.mb hX hq) hn hx hk he ht
 refine DoesU.skip hrun ⟨[eMb P k e b (n+1) (fun y=>if y=x then v else m y)],by rw [hc]; rfl,⟨?_,fun e' he'=>?_,List.pairwise_singleton _ _⟩,fun σ β' X' hs hv hb' hbv hx' hN=>hD σ β' X' (fun t=>hs t (by rw [hd]; simp)) (fun t=>hb' t (by rw [hd]; simp)) ?_⟩
 ·rw [hkl]
  simp only [List.flatMap_cons,List.flatMap_nil,List.append_nil,hX]
  exact h2
 ·rw [List.mem_singleton] at he'
  subst he'
  refine ⟨h1,eMb_loc _ _ _ _ _ _,fun k' hk'=>?_⟩
  have hkb:k'=b:=by simpa [eMb] using hk'
  subst hkb
  refine ⟨.inl ?_,h1.lt⟩
  rw [hkl]
  simp [hX,eMb]
 ·rw [hc] at hN
  exact (List.cons.inj hN).1
end
end
section
open Go.RowKit
/-- a page, its items in new memory -/
def PgOne (k l:Int) (ss:List ByteArray) (w:World) (e:Ending) (w':World):Prop:=
 ∃ A c,e= .returned (.agg #[.int .i64 k, .int .i64 l, .slice A ss.length c])∧w'.ownsRow w.heap.size 9 1 (.slice A ss.length c) ss.length (ss.map Value.string)∧Ext w w'
theorem after_lit {w w5:World} {k l:Int} {A:Option Addr} {n c:Nat}
  (hg:(((w.alloc (.cells #[.int .i64 k, .int .i64 l, .slice A n c] 64)).alloc (.cells #[.int .i64 0, .int .i64 0, .slice none 0 0] 64)).alloc (.cells #[] 9)).drew.grownBy w5 (Value.ownBlock (.slice (some ⟨w.heap.size+2,0,none⟩) 0 0))):
  Ext ((w.alloc (.cells #[.int .i64 k, .int .i64 l, .slice A n c] 64)).alloc (.cells #[.int .i64 0, .int .i64 0, .slice none 0 0] 64)) w5:=
 (((Ext.refl _).alloc _).drew).grown hg (by intro k hk; simp [Value.ownBlock] at hk; subst hk; simp)
theorem At.take_map {w:World} {A:Option Addr} {α:Type} {f:α→Value} {xs:List α} (h:At w A (xs.map f)) (n:Nat):At w A ((xs.take n).map f):=by
 rw [List.map_take]; exact h.take n
theorem rplain_end {w w5:World} {k l:Int} {ss:List ByteArray} {A:Option Addr} {m c:Nat} {x y z:Value} (ht:m=trimN ss ss.length)
  (h:w5.ownsRow (w.heap.size+2) 9 1 (.slice A m c) m ((ss.take m).map Value.string)) (hx:Ext w w5):
  PgOne k l (plainL ss) w (.returned (.agg #[.int .i64 k, .int .i64 l, .slice A m c])) (((w5.setCell ⟨w.heap.size+1,0,none⟩ x).setCell ⟨w.heap.size+1,1,none⟩ y).setCell ⟨w.heap.size+1,2,none⟩ z):=by
 have hl:(plainL ss).length=m:=by rw [plainL_len,ht]
 refine ⟨A,c,by rw [hl],?_,?_⟩
 ·rw [hl]
  have e:plainL ss=ss.take m:=by rw [plainL,ht]
  rw [e]
  exact own_mono (ownsRow_setCell_below (ownsRow_setCell_below (ownsRow_setCell_below h (by simp) _) (by simp) _) (by simp) _) (by omega)
 ·exact ((hx.set (by simp) _).set (by simp) _).set (by simp) _
theorem rplain_any (k l:Int) (A:Option Addr) (c:Nat) (ss:List ByteArray) (w:World) (h:At w A (ss.map Value.string)) (hl:ss.length≤100000) (hc:ss.length≤c):
  Calls Tryz.prog 240 #[.agg #[.int .i64 k, .int .i64 l, .slice A ss.length c]] w (PgOne k l (plainL ss) w):=by
 obtain ⟨i0,hi0,hz0,hz1,hz2⟩:=info_parts Tryz.infoStr
 have H:=Lib.hid h; clear h
 have X0:=Lib.hid (((Ext.refl w).alloc (.cells #[.int .i64 k, .int .i64 l, .slice A ss.length c] 64)).alloc (.cells #[.int .i64 0, .int .i64 0, .slice none 0 0] 64))
 go_enter Tryz.func240,Tryz.ntmps240
 go_wp2
 go_loop [3] (fun i=>∃ j:Nat,j≤ss.length∧i= .int .i64 j∧trimN ss j=trimN ss ss.length) (fun i=>(intOf i).toNat)
 case atStart=>exact ⟨_,Nat.le_refl _,rfl,rfl⟩
 case round=>
  obtain ⟨j,hj,rfl,ht⟩:=hrel
  have Ht:=Lib.hid ht; clear ht
  rcases j with _ | j
  ·go_wp2
   go_region_held3 (fun W=>W.cell? ⟨w.heap.size,0,none⟩=some (.int .i64 k)∧W.cell? ⟨w.heap.size,1,none⟩=some (.int .i64 l)∧W.cell? ⟨w.heap.size,2,none⟩=some (.slice A ss.length c))
    (first | go_keep | exact ⟨p0,p1,p2⟩)
    ((refine stp_append _ (by rfl) (.tmp 24) (.tmp 28) _ (by rfl) (w.heap.size+2) 9 i0 _ 16 Tryz.underlying62 hi0 hz0 hz1 hz2 rfl _ 0 [] (by rfl) (own_lit0 (by simp) (by simp)) _ 0 _ [] (by rfl) (by rfl) (At.nil _ _) (by simp) (by simp [maxLen]) (by simp) (by simp) ?_; intro v5 w5 hown5 hg5 _; simp only [Nat.add_zero,List.nil_append] at hown5; obtain ⟨A5,c5,rfl, _⟩:=own_form hown5; have X5:=Lib.hid (after_lit (w:=w) (k:=k) (l:=l) (A:=A) (n:=ss.length) (c:=c) hg5); obtain ⟨p0,p1,q0,q1,q2,f0,f1,f2⟩:=put_held X5.out; have p2:w5.cell? ⟨w.heap.size,2,none⟩= _:=X5.out.two0.1 2; have Hown5:=Lib.hid hown5; clear hown5 hg5))
   go_wp2
   refine bodyPost_ret (v:= .agg #[.int .i64 k, .int .i64 l, .slice A5 0 c5]) (by simp [results,Tryz.results240,go_sem,q0,q1,q2]) rfl ?_
   exact rplain_end (m:=0) Ht.out Hown5.out (X0.out.trans X5.out)
  ·have hs:(ss.map Value.string)[j]? =some (.string (ss.getD j ByteArray.empty)):=by simp [List.getD,List.getElem?_eq_getElem (show j < ss.length by omega)]
   obtain ⟨ad,rfl,hb,hcell⟩:=(H.out.ext X0.out) _ _ hs
   clear hs
   obtain ⟨s,hs⟩:∃ s,s=ss.getD j ByteArray.empty:=⟨_,rfl⟩
   rw [← hs] at hcell
   have Hs:=Lib.hid hs; clear hs
   rcases he:s.toList.isEmpty with _ | _
   ·have He:=Lib.hid (show trimN ss ss.length=j+1 by rw [← Ht.out,trimN_succ,← Hs.out,he]; rfl)
    have hc0:¬ c=0:=by omega
    have hj1:(0:Int)≤(j:Int)+1:=by omega
    have hj2:(j:Int)+1≤(c:Int):=by omega
    go_wp2
    go_region_held3 (fun W=>W.cell? ⟨w.heap.size,0,none⟩=some (.int .i64 k)∧W.cell? ⟨w.heap.size,1,none⟩=some (.int .i64 l)∧W.cell? ⟨w.heap.size,2,none⟩=some (.slice (some ad) ss.length c))
     (first | go_keep | exact ⟨p0,p1,p2⟩)
     ((refine stp_append _ (by rfl) (.tmp 24) (.tmp 28) _ (by rfl) (w.heap.size+2) 9 i0 _ 16 Tryz.underlying62 hi0 hz0 hz1 hz2 rfl _ 0 [] (by rfl) (own_lit0 (by simp) (by simp)) (some ad) (j+1) _ ((ss.take (j+1)).map Value.string) (by rfl) (by simp; omega) (by exact (At.take_map (H.out.ext X0.out) (j+1)).ext ((Ext.refl _).alloc _).drew) (str_one _) (by simp only [maxLen]; omega) (by omega) (by simp) ?_; intro v5 w5 hown5 hg5 _; simp only [Nat.zero_add,List.nil_append] at hown5; obtain ⟨A5,c5,rfl, _⟩:=own_form hown5; have X5:=Lib.hid (after_lit (w:=w) (k:=k) (l:=l) (A:=some ad) (n:=ss.length) (c:=c) hg5); obtain ⟨p0,p1,q0,q1,q2,f0,f1,f2⟩:=put_held X5.out; have p2:w5.cell? ⟨w.heap.size,2,none⟩= _:=X5.out.two0.1 2; have Hown5:=Lib.hid hown5; clear hown5 hg5))
    go_wp2
    refine bodyPost_ret (v:= .agg #[.int .i64 k, .int .i64 l, .slice A5 (j+1) c5]) (by simp [results,Tryz.results240,go_sem,q0,q1,q2]) rfl ?_
    exact rplain_end (m:=j+1) He.out.symm Hown5.out (X0.out.trans X5.out)
   ·go_wp2
    go_round
    case rel=>exact ⟨j,by omega,rfl,by rw [← Ht.out,trimN_succ,← Hs.out,if_pos he]⟩
    case measure=>simp [intOf]
theorem own_cap {w:World} {base:Nat} {e:TypeId} {A:Option Addr} {n m c:Nat} {xs:List Value} (h:w.ownsRow base e 1 (.slice A n c) m xs):n≤c:=by
 rcases h.2 with ⟨hv, _⟩ | ⟨g,cap,cur,hv,hb,hg,hc, _⟩
 ·injection hv with _ h2 h3; omega
 ·injection hv with _ h2 h3; omega
theorem rsize_any (k l:Int) (A:Option Addr) (n c:Nat) (ss:List ByteArray) (w:World) (hn:n=ss.length) (h:At w A (ss.map Value.string)) (hs:Small ss) (hc:n≤c):
  Calls Tryz.prog 196 #[.agg #[.int .i64 k, .int .i64 l, .slice A n c]] w fun e w'=>e= .returned (.int .i64 (sizeL ss))∧Ext w w':=by
 subst hn
 have H:=Lib.hid h; clear h
 have hl:=hs.1
 have HS:=Lib.hid hs; clear hs
 have X0:=Lib.hid ((Ext.refl w).alloc (.cells #[.int .i64 k, .int .i64 l, .slice A ss.length c] 64))
 go_enter Tryz.func196,Tryz.ntmps196
 go_wp2_with (go_at_call 240; refine (rplain_any _ _ _ _ _ _ (H.out.ext X0.out) hl hc).mono ?_; rintro e w1 ⟨A1,c1,rfl,hown,hx⟩; have Hown:=Lib.hid hown; have X1:=Lib.hid (X0.out.trans hx); clear hown hx)
 have hsm:=Small.plain HS.out
 have hpl:(plainL ss).length≤100000:=hsm.1
 have Hp:=Lib.hid hsm; clear hsm
 obtain ⟨ps,hps⟩:∃ ps,ps=plainL ss:=⟨_,rfl⟩
 rw [← hps] at Hown Hp hpl ⊢
 have Hps:=Lib.hid hps; clear hps
 have HA:=Lib.hid ((At.of_own Hown.out).ext ((Ext.refl w1).alloc (.cells #[.int .i64 k, .int .i64 l, .slice A1 ps.length c1] 64)))
 go_loop [3,5] (fun n i=>∃ j:Nat,j≤ps.length∧i= .int .i64 j∧n= .int .i64 ((14+sizeT (ps.take j):Nat):Int)) (fun _ i=>ps.length - (intOf i).toNat)
 case atStart=>exact ⟨0,Nat.zero_le _,rfl,rfl⟩
 case round=>
  obtain ⟨j,hj,rfl,rfl⟩:=hrel
  have hb:=Small.take Hp.out j
  rcases Nat.lt_or_ge j ps.length with hlt | hge
  ·obtain ⟨ad,rfl, _,hcell⟩:=HA.out.get (k:=j) (by simpa using hlt)
   rw [List.getElem_map] at hcell
   have hsz:(ps[j]).size≤1000000:=Hp.out.2 _ (List.getElem_mem hlt)
   have Hn:=Lib.hid (sizeT_take_succ ps j hlt)
   obtain ⟨s,hs⟩:∃ s,s=ps[j]:=⟨_,rfl⟩
   rw [← hs] at hsz Hn hcell
   clear hs
   obtain ⟨t,ht⟩:∃ t,t=sizeT (ps.take j):=⟨_,rfl⟩
   rw [← ht] at Hn hb ⊢
   clear ht
   go_wp2
   go_round
   case rel=>exact ⟨j+1,by omega,by go_num,by rw [Hn.out]; go_num⟩
   case measure=>simp [intOf]; omega
  ·obtain rfl:j=ps.length:=by omega
   go_wp2
   go_ret
   exact ⟨ret_int (by rw [sizeL,← Hps.out]; omega),X1.out.alloc _⟩
end
section
open Go.RowKit
theorem rright_any (k l:Int) (A:Option Addr) (n c:Nat) (ss:List ByteArray) (w:World) (hn:n=ss.length) (h:At w A (ss.map Value.string)) (hs:Small ss) (hc:n≤c):
  Calls Tryz.prog 194 #[.agg #[.int .i64 k, .int .i64 l, .slice A n c]] w (Ret1 (.bool (rightB k l ss)) w):=by
 subst hn
 have H:=Lib.hid h; clear h
 have hl:=hs.1
 have HS:=Lib.hid hs; clear hs
 have X0:=Lib.hid ((Ext.refl w).alloc (.cells #[.int .i64 k, .int .i64 l, .slice A ss.length c] 64))
 by_cases h1:0≤k
 ·by_cases h2:k≤2
  ·by_cases h3:0≤l
   ·by_cases h4:l≤2147483647
    ·by_cases h5:ss.length≤24
     ·have h5':(ss.length:Int)≤24:=by omega
      obtain ⟨z,hz⟩:∃ z,z=sizeL ss:=⟨_,rfl⟩
      have Hz:=Lib.hid hz
      clear hz
      by_cases h7:512 < z
      ·have h7':512 < (z:Int):=by omega
       go_enter Tryz.func194,Tryz.ntmps194
       go_wp2_with (go_at_call 196; refine (rsize_any _ _ _ _ _ _ _ rfl (H.out.ext X0.out) HS.out hc).mono ?_; rw [← Hz.out]; rintro e w1 ⟨rfl,hx⟩; have X1:=Lib.hid (X0.out.trans hx); clear hx)
       go_ret
       exact Ret1.bool (by simp [rightB,← Hz.out]; intros; omega) X1.out
      ·have h7':(z:Int)≤512:=by omega
       go_enter Tryz.func194,Tryz.ntmps194
       go_wp2_with (go_at_call 196; refine (rsize_any _ _ _ _ _ _ _ rfl (H.out.ext X0.out) HS.out hc).mono ?_; rw [← Hz.out]; rintro e w1 ⟨rfl,hx⟩; have X1:=Lib.hid (X0.out.trans hx); have p2:w1.cell? ⟨w.heap.size,2,none⟩=some (.slice A ss.length c):=hx.cell_new 2; clear hx)
       go_loop [3] (fun i=>∃ j:Nat,j≤ss.length∧i= .int .i64 j∧longB (ss.take j)=false) (fun i=>ss.length - (intOf i).toNat)
       case atStart=>exact ⟨0,Nat.zero_le _,rfl,rfl⟩
       case round=>
        obtain ⟨j,hj,rfl,ht⟩:=hrel
        have Ht:=Lib.hid ht; clear ht
        rcases Nat.lt_or_ge j ss.length with hlt | hge
        ·obtain ⟨ad,rfl, _,hcell⟩:=(H.out.ext X1.out).get (k:=j) (by simpa using hlt)
         rw [List.getElem_map] at hcell
         have hsz:(ss[j]).size≤1000000:=HS.out.2 _ (List.getElem_mem hlt)
         obtain ⟨s,hs⟩:∃ s,s=ss[j]:=⟨_,rfl⟩
         rw [← hs] at hcell hsz
         have Hs:=Lib.hid hs; clear hs
         rcases Nat.lt_or_ge 400 s.size with h8 | h8
         ·go_wp2
          go_ret
          have hL:=longB_of ss j hlt (by rw [← Hs.out]; exact h8)
          exact Ret1.bool (by simp [rightB,hL]) X1.out
         ·have hn:longB (ss.take (j+1))=false:=by rw [longB_take_succ ss j hlt,Ht.out,← Hs.out]; simpa using h8
          have Hn:=Lib.hid hn; clear hn
          go_wp2
          go_round
          case rel=>exact ⟨j+1,by omega,by go_num,Hn.out⟩
          case measure=>simp [intOf]; omega
        ·obtain rfl:j=ss.length:=by omega
         rw [List.take_length] at Ht
         go_wp2
         go_ret
         exact Ret1.bool (by simp [rightB,h1,h2,h3,h4,h5,Ht.out,← Hz.out]; omega) X1.out
     ·have h5':¬ (ss.length:Int)≤24:=by omega
      go_enter Tryz.func194,Tryz.ntmps194
      go_wp2
      go_ret
      exact Ret1.bool (by simp [rightB,h5]) X0.out
    ·go_enter Tryz.func194,Tryz.ntmps194
     go_wp2
     go_ret
     exact Ret1.bool (by simp [rightB]; intros; omega) X0.out
   ·go_enter Tryz.func194,Tryz.ntmps194
    go_wp2
    go_ret
    exact Ret1.bool (by simp [rightB]; intros; omega) X0.out
  ·go_enter Tryz.func194,Tryz.ntmps194
   go_wp2
   go_ret
   exact Ret1.bool (by simp [rightB]; intros; omega) X0.out
 ·go_enter Tryz.func194,Tryz.ntmps194
  go_wp2
  go_ret
  exact Ret1.bool (by simp [rightB]; intros; omega) X0.out
def itemF (ss:List ByteArray) (i:Int):ByteArray:=if i < 0 then ByteArray.empty else ss.getD i.toNat ByteArray.empty
end
section
open Go.RowKit
theorem rplain_n (k l:Int) (A:Option Addr) (n c:Nat) (ss:List ByteArray) (w:World) (hn:n=ss.length) (h:At w A (ss.map Value.string)) (hl:ss.length≤100000) (hc:n≤c):
  Calls Tryz.prog 240 #[.agg #[.int .i64 k, .int .i64 l, .slice A n c]] w (PgOne k l (plainL ss) w):=by
 subst hn; exact rplain_any k l A c ss w h hl hc
def WithRel (pl:List ByteArray) (K:Nat) (k l:Int) (B base:Nat) (W0 wr:World):Prop:=
 ∃ m A c,Blk wr B 64 #[.int .i64 k, .int .i64 l, .slice A m c]∧pl.length≤m∧(m≤pl.length∨m≤K+1)∧
   wr.ownsRow base 9 1 (.slice A m c) m ((pl++List.replicate (m - pl.length) ByteArray.empty).map Value.string)∧Ext W0 wr
def padLeft (w:World) (B K:Nat):Nat:=match w.cell? ⟨B,2,none⟩ with | some (.slice _ n _)=>K+1 - n | _=>0
theorem rwith_any (k l:Int) (A:Option Addr) (n c:Nat) (ss:List ByteArray) (K:Nat) (s:ByteArray) (w:World) (hn:n=ss.length) (h:At w A (ss.map Value.string)) (hs:Small ss) (hc:n≤c) (hK:K < 24):
  Calls Tryz.prog 195 #[.agg #[.int .i64 k, .int .i64 l, .slice A n c], .int .i64 K, .string s] w (PgOne k l (plainL (withL ss K s)) w):=by
 subst hn
 have H:=Lib.hid h; clear h
 have hp24:=(Small.plain hs).1
 have hl:=hs.1
 have HS:=Lib.hid hs; clear hs
 obtain ⟨i0,hi0,hz0,hz1,hz2⟩:=info_parts Tryz.infoStr
 have X0:=Lib.hid (((Ext.refl w).alloc (.cells #[.int .i64 k, .int .i64 l, .slice A ss.length c] 64)).alloc (.cells #[.int .i64 0, .int .i64 0, .slice none 0 0] 64))
 go_enter Tryz.func195,Tryz.ntmps195
 go_wp2_with (go_at_call 240; refine (rplain_any _ _ _ _ _ _ (H.out.ext X0.out) hl hc).mono ?_; rintro e w1 ⟨A1,c1,rfl,hown,hx⟩; have Hown:=Lib.hid hown; have X1:=Lib.hid hx; have hzz:=hx.two.2.2; clear hown hx)
 go_loopw [15] (fun _ wr=>WithRel (plainL ss) K k l w1.heap.size (w.heap.size+2) ((w.alloc (.cells #[.int .i64 k, .int .i64 l, .slice A ss.length c] 64)).alloc (.cells #[.int .i64 0, .int .i64 0, .slice none 0 0] 64)) wr) (fun _ wr=>padLeft wr w1.heap.size K)
 case atStart=>exact ⟨_,A1,c1,Blk.new _ _ _,Nat.le_refl _, .inl (Nat.le_refl _),by simpa using (own_mono (base':=w.heap.size+2) Hown.out (by simp)).alloc _,X1.out.alloc _⟩
 case round=>
  obtain ⟨m,A',c',hblk,hm1,hm2,hown,hx⟩:=hrel
  have Hw:=Lib.hid hown
  have XR:=Lib.hid hx
  have HB:=Lib.hid hblk
  have b0:wr.cell? ⟨w1.heap.size,0,none⟩=some (.int .i64 k):=hblk.cell 0
  have b1:wr.cell? ⟨w1.heap.size,1,none⟩=some (.int .i64 l):=hblk.cell 1
  have b2:wr.cell? ⟨w1.heap.size,2,none⟩=some (.slice A' m c'):=hblk.cell 2
  have e2:=hblk.frozen 2
  have hbz:=hblk.lt
  clear hown hx hblk
  rcases Nat.lt_or_ge K m with hlt | hge
  ·obtain ⟨g,rfl,hg1,hg2⟩:=own_pos Hw.out (by omega)
   have hme:m=(withL ss K s).length:=by simp [withL,padTo]; omega
   have ho:=(At.of_own Hw.out).get0 (k:=K) (by simp; omega)
   have hfz:=Hw.out.frozenAt (xs:=(plainL ss++List.replicate (m - (plainL ss).length) ByteArray.empty).map Value.string) K
   have hwl:(withL ss K s).length≤100000:=by omega
   have hst:=with_stored (s:=s) Hw.out hm1 hm2 hlt
   generalize ((plainL ss++List.replicate (m - (plainL ss).length) ByteArray.empty).map Value.string)[K]'(by simp; omega)=ov at ho
   obtain ⟨cur,hcur, _⟩:=own_blk Hw.out
   have hne:=hcur.ne_ HB.out (by decide)
   have HB2:=Lib.hid (HB.out.far (p:=⟨g,K,none⟩) hne.symm (.string s))
   have Hst:=Lib.hid hst
   have Hme:=Lib.hid hme
   have Hcap:=Lib.hid (own_cap Hw.out)
   clear hst hme hcur
   go_wp2_with (go_at_call 240; refine (rplain_n _ _ _ _ _ _ _ Hme.out (At.of_own Hst.out) hwl Hcap.out).mono ?_; rintro e w3 ⟨A3,c3,rfl,hown,hx⟩; have hx3:=(XR.out.set (p:=⟨g,K,none⟩) (by simpa only [World.size_alloc] using hg1) (.string s)).trans hx; have X3:=Lib.hid hx3; obtain ⟨_, _,q0,q1,q2,f0,f1,f2⟩:=put_held hx3; have Hown3:=Lib.hid hown; clear hown hx hx3)
   refine bodyPost_ret (v:= .agg #[.int .i64 k, .int .i64 l, .slice A3 (plainL (withL ss K s)).length c3]) (by simp [results,Tryz.results195,go_sem,q0,q1,q2]) rfl ?_
   refine ⟨A3,c3,rfl,?_,((((X0.out.trans X3.out).set (by simp) _).set (by simp) _).set (by simp) _)⟩
   have hz:w.heap.size+1 < (wr.setCell ⟨g,K,none⟩ (.string s)).heap.size:=by have:=XR.out.size2; simp only [World.setCell,Array.size_modify]; omega
   exact own_mono (ownsRow_setCell_below (ownsRow_setCell_below (ownsRow_setCell_below Hown3.out hz _) hz _) hz _) (by omega)
  ·go_wp2_with (at_builtin; go_must (refine wpl_append _ rfl (.tmp 16) (.tmp 17) 62 rfl (w.heap.size+2) 9 i0 _ 16 Tryz.underlying62 hi0 hz0 hz1 hz2 rfl _ _ _ rfl (Hw.out.alloc _) (some ⟨wr.heap.size,0,none⟩) 1 1 [.string ⟨#[]⟩] rfl rfl (At.one_new _ _ _) (by intro u hu; simp at hu; subst hu; rfl) (by simp only [maxLen]; omega) (by omega) (by have:=XR.out.size2; simp only [World.size_alloc]; omega) ?_; intro v' w4 hown' hg' _; obtain ⟨A4,c4,rfl, _⟩:=own_form hown'; have hn4:=own_ne (Hw.out.alloc (.cells #[.string ⟨#[]⟩] 9)) (HB.out.alloc (.cells #[.string ⟨#[]⟩] 9)) (by decide); have hb4:=(HB.out.alloc (.cells #[.string ⟨#[]⟩] 9)).grown hg' hn4; have r2:w4.cell? ⟨w1.heap.size,2,none⟩=some (.slice A' m c'):=hb4.cell 2; have g2:=hb4.frozen 2; have HO:=Lib.hid hown'; have HG:=Lib.hid hg'; have HB4:=Lib.hid hb4; clear hown' hg' hb4 hn4))
   go_roundw
   case rel=>exact ⟨m+1,A4,c4,HB4.out.set_ 2 _,by omega, .inr (by omega),own_set (pad_step rfl HO.out hm1) (own_ne HO.out HB4.out (by decide)) 2 _,((XR.out.alloc _).grown HG.out (fun k hk=>by have:=own_block Hw.out k hk; simpa only [World.size_alloc] using this)).set (by have:=X1.out.size2; simp only [World.size_alloc]; omega) _⟩
   case measure=>
    have r3:(w4.setCell ⟨w1.heap.size,2,none⟩ (.slice A4 (m+1) c4)).cell? ⟨w1.heap.size,2,none⟩=some (.slice A4 (m+1) c4):=(HB4.out.set_ 2 _).cell 2
    simp only [padLeft,r3,b2]
    omega
end
section
open Go.RowKit
/-- the reference's answer: a page and an error, in one struct -/
def GotPost (k l:Int) (ss:List ByteArray) (err:Int) (w:World) (e:Ending) (w':World):Prop:=
 ∃ A c,e= .returned (.agg #[.int .i64 k, .int .i64 l, .slice A ss.length c, .int .i64 err])∧
   w'.ownsRow w.heap.size 9 1 (.slice A ss.length c) ss.length (ss.map Value.string)∧Ext w w'
def RPutPost (k l:Int) (ss:List ByteArray) (slot:Int) (s:ByteArray) (w:World):Ending→World→Prop:=
 if putErr k l ss slot s=0 then GotPost k l (plainL (withL ss slot.toNat s)) 0 w else GotPost 0 0 [] (putErr k l ss slot s) w
theorem GotPost.zero {err:Int} {w w':World} (h:Ext w w'):GotPost 0 0 [] err w (.returned (.agg #[.int .i64 0, .int .i64 0, .slice none 0 0, .int .i64 err])) w':=
 ⟨none,0,rfl,World.ownsRow_nil _ _ _ _,h⟩
theorem got_held {w W:World} {k l:Int} {A:Option Addr} {n c:Nat}
  (h:Ext ((w.alloc (.cells #[.int .i64 k, .int .i64 l, .slice A n c] 64)).alloc (.cells #[.int .i64 0, .int .i64 0, .slice none 0 0, .int .i64 0] 224)) W):
  (W.cell? ⟨w.heap.size,0,none⟩=some (.int .i64 k)∧W.cell? ⟨w.heap.size,1,none⟩=some (.int .i64 l)∧W.cell? ⟨w.heap.size,2,none⟩=some (.slice A n c))∧
  (W.cell? ⟨w.heap.size+1,0,none⟩=some (.int .i64 0)∧W.cell? ⟨w.heap.size+1,1,none⟩=some (.int .i64 0)∧W.cell? ⟨w.heap.size+1,2,none⟩=some (.slice none 0 0)∧W.cell? ⟨w.heap.size+1,3,none⟩=some (.int .i64 0))∧
  (W.frozen? ⟨w.heap.size+1,0,none⟩=false∧W.frozen? ⟨w.heap.size+1,1,none⟩=false∧W.frozen? ⟨w.heap.size+1,2,none⟩=false∧W.frozen? ⟨w.heap.size+1,3,none⟩=false)∧w.heap.size+1 < W.heap.size:=
 ⟨⟨h.two0.1 0,h.two0.1 1,h.two0.1 2⟩,⟨h.two.1 0,h.two.1 1,h.two.1 2,h.two.1 3⟩,⟨h.two.2.1 0,h.two.2.1 1,h.two.2.1 2,h.two.2.1 3⟩,h.two.2.2⟩
theorem rput_not (k l:Int) (A:Option Addr) (c:Nat) (ss:List ByteArray) (slot:Int) (s:ByteArray) (w:World) (h:At w A (ss.map Value.string)) (hs:Small ss) (hc:ss.length≤c) (hr:rightB k l ss=false):
  Calls Tryz.prog 120 #[.agg #[.int .i64 k, .int .i64 l, .slice A ss.length c], .int .i64 slot, .string s] w (GotPost 0 0 [] 22 w):=by
 have H:=Lib.hid h; clear h
 have HR:=Lib.hid hr; clear hr
 have HS:=Lib.hid hs; clear hs
 have X0:=Lib.hid (((Ext.refl w).alloc (.cells #[.int .i64 k, .int .i64 l, .slice A ss.length c] 64)).alloc (.cells #[.int .i64 0, .int .i64 0, .slice none 0 0, .int .i64 0] 224))
 go_enter Tryz.func120,Tryz.ntmps120
 go_wp2_with (go_at_call 194; refine (rright_any _ _ _ _ _ _ _ rfl (H.out.ext X0.out) HS.out hc).mono ?_; rw [HR.out]; rintro e w1 ⟨rfl,hx⟩; have X1:=Lib.hid (X0.out.trans hx); obtain ⟨_,⟨q0,q1,q2,q3⟩,⟨f0,f1,f2,f3⟩,hzz⟩:=got_held hx; clear hx)
 refine bodyPost_ret (v:= .agg #[.int .i64 0, .int .i64 0, .slice none 0 0, .int .i64 22]) (by simp [results,Tryz.results120,go_sem,q0,q1,q2,q3]) rfl (GotPost.zero ?_)
 repeat (first | exact X1.out | refine Ext.set ?_ (by simp) _)
theorem rput_item (k l:Int) (A:Option Addr) (c:Nat) (ss:List ByteArray) (slot:Int) (s:ByteArray) (w:World) (h:At w A (ss.map Value.string)) (hs:Small ss) (hc:ss.length≤c) (hr:rightB k l ss=true)
  (hb:slot < 0∨24≤slot∨400 < s.size) (hss:s.size≤9223372036854775807):
  Calls Tryz.prog 120 #[.agg #[.int .i64 k, .int .i64 l, .slice A ss.length c], .int .i64 slot, .string s] w (GotPost 0 0 [] 21 w):=by
 have H:=Lib.hid h; clear h
 have HR:=Lib.hid hr; clear hr
 have HS:=Lib.hid hs; clear hs
 have X0:=Lib.hid (((Ext.refl w).alloc (.cells #[.int .i64 k, .int .i64 l, .slice A ss.length c] 64)).alloc (.cells #[.int .i64 0, .int .i64 0, .slice none 0 0, .int .i64 0] 224))
 have h3:slot < 0∨(0≤slot∧24≤slot)∨(0≤slot∧slot < 24∧400 < (s.size:Int)):=by omega
 clear hb
 rcases h3 with h1 | ⟨h0,h1⟩ | ⟨h0,h1,h2⟩
 all_goals
  go_enter Tryz.func120,Tryz.ntmps120
  go_wp2_with (go_at_call 194; refine (rright_any _ _ _ _ _ _ _ rfl (H.out.ext X0.out) HS.out hc).mono ?_; rw [HR.out]; rintro e w1 ⟨rfl,hx⟩; have X1:=Lib.hid (X0.out.trans hx); obtain ⟨_,⟨q0,q1,q2,q3⟩,⟨f0,f1,f2,f3⟩,hzz⟩:=got_held hx; clear hx)
  refine bodyPost_ret (v:= .agg #[.int .i64 0, .int .i64 0, .slice none 0 0, .int .i64 21]) (by simp [results,Tryz.results120,go_sem,q0,q1,q2,q3]) rfl (GotPost.zero ?_)
  repeat (first | exact X1.out | refine Ext.set ?_ (by simp) _)
theorem rput_20 {k l:Int} {ss:List ByteArray} {K:Nat} {s:ByteArray} {w:World} (hr:rightB k l ss=true) (hK:K < 24) (hs:s.size≤400) (hz:512 < sizeL (plainL (withL ss K s))) (hp:sizeL (plainL (withL ss K s))=sizeL (withL ss K s)):
  RPutPost k l ss K s w=GotPost 0 0 [] 20 w:=by
 have e:putErr k l ss K s=20:=by
  rw [putErr,hr,if_neg (by simp),if_neg (by omega),Int.toNat_natCast,if_pos (by omega)]
 rw [RPutPost,e,if_neg (by decide)]
theorem rput_0 {k l:Int} {ss:List ByteArray} {K:Nat} {s:ByteArray} {w:World} (hr:rightB k l ss=true) (hK:K < 24) (hs:s.size≤400) (hz:sizeL (plainL (withL ss K s))≤512) (hp:sizeL (plainL (withL ss K s))=sizeL (withL ss K s)):
  RPutPost k l ss K s w=GotPost k l (plainL (withL ss K s)) 0 w:=by
 have e:putErr k l ss K s=0:=by
  rw [putErr,hr,if_neg (by simp),if_neg (by omega),Int.toNat_natCast,if_neg (by omega)]
 rw [RPutPost,e,if_pos rfl,Int.toNat_natCast]
theorem trimN_take (ss:List ByteArray) (n:Nat) (h:n≤trimN ss n):∀ m,n≤m→trimN (ss.take m) n=n:=by
 intro m hm
 rcases n with _ | n
 ·rfl
 ·have h1:(ss.getD n ByteArray.empty).toList.isEmpty=false:=by
   rw [trimN_succ] at h
   split at h
   ·have:=trimN_le ss n; omega
   ·rename_i hne; exact Bool.eq_false_iff.2 hne
  rw [trimN_succ]
  have h2:(ss.take m).getD n ByteArray.empty=ss.getD n ByteArray.empty:=by
   simp only [List.getD,List.getElem?_take]
   rw [if_pos (by omega)]
  rw [h2,h1]
  rfl
theorem trimN_idem (ss:List ByteArray):∀ n,trimN ss (trimN ss n)=trimN ss n
 | 0=>rfl
 | n+1=>by
   rw [trimN_succ]
   split
   ·exact trimN_idem ss n
   ·rename_i h; rw [trimN_succ,if_neg h]
theorem plain_plain (ss:List ByteArray):plainL (plainL ss)=plainL ss:=by
 have h:=trimN_take ss (trimN ss ss.length) (by rw [trimN_idem]; exact Nat.le_refl _) (trimN ss ss.length) (Nat.le_refl _)
 have hl:=plainL_len ss
 unfold plainL at hl ⊢
 rw [hl,h,List.take_take,Nat.min_self]
theorem rput_main (k l:Int) (A:Option Addr) (c:Nat) (ss:List ByteArray) (K:Nat) (s:ByteArray) (w:World) (h:At w A (ss.map Value.string)) (hs:Small ss) (hc:ss.length≤c) (hr:rightB k l ss=true)
  (hK:K < 24) (hss:s.size≤400):
  Calls Tryz.prog 120 #[.agg #[.int .i64 k, .int .i64 l, .slice A ss.length c], .int .i64 K, .string s] w (RPutPost k l ss K s w):=by
 have H:=Lib.hid h; clear h
 have hv24:=(right_parts hr).2.2.1
 have HR:=Lib.hid hr; clear hr
 have HS:=Lib.hid hs; clear hs
 have HW:=Lib.hid (small_with hv24 K hK s hss)
 have hi1:¬ (K:Int) < 0:=by omega
 have hi2:(K:Int) < 24:=by omega
 have hi3:¬ 400 < (s.size:Int):=by omega
 have X0:=Lib.hid (((Ext.refl w).alloc (.cells #[.int .i64 k, .int .i64 l, .slice A ss.length c] 64)).alloc (.cells #[.int .i64 0, .int .i64 0, .slice none 0 0, .int .i64 0] 224))
 have Hpp:=Lib.hid (plain_plain (withL ss K s))
 obtain ⟨z,hz⟩:∃ z,z=sizeL (plainL (withL ss K s)):=⟨_,rfl⟩
 have Hz:=Lib.hid hz
 clear hz
 have Hpz:=Lib.hid (show sizeL (plainL (withL ss K s))=sizeL (withL ss K s) by rw [sizeL,Hpp.out,sizeL])
 rcases Nat.lt_or_ge 512 z with h5 | h5
 ·have h5':512 < (z:Int):=by omega
  go_enter Tryz.func120,Tryz.ntmps120
  go_wp2_with (first
   | (go_at_call 194; refine (rright_any _ _ _ _ _ _ _ rfl (H.out.ext X0.out) HS.out hc).mono ?_; rw [HR.out]; rintro e w1 ⟨rfl,hx⟩; have X1:=Lib.hid hx; obtain ⟨⟨p0,p1,p2⟩, _⟩:=got_held hx; clear hx)
   | (go_at_call 195; refine (rwith_any _ _ _ _ _ _ _ _ _ rfl (H.out.ext (X0.out.trans X1.out)) HS.out hc hK).mono ?_; rintro e w2 ⟨A2,c2,rfl,hown,hx⟩; have X2:=Lib.hid (X1.out.trans hx); have Hown:=Lib.hid hown; clear hown hx)
   | (go_at_call 196; refine (rsize_any _ _ _ _ _ _ _ rfl ((At.of_own Hown.out).ext ((Ext.refl w2).alloc _)) (Small.plain HW.out) (own_cap Hown.out)).mono ?_; rw [← Hz.out]; rintro e w3 ⟨rfl,hx⟩; have X3:=Lib.hid ((X2.out.alloc (.cells #[.int .i64 k, .int .i64 l, .slice A2 (plainL (withL ss K s)).length c2] 64)).trans hx); obtain ⟨_,⟨q0,q1,q2,q3⟩,⟨f0,f1,f2,f3⟩,hzz⟩:=got_held X3.out; clear hx))
  refine bodyPost_ret (v:= .agg #[.int .i64 0, .int .i64 0, .slice none 0 0, .int .i64 20]) (by simp [results,Tryz.results120,go_sem,q0,q1,q2,q3]) rfl ?_
  rw [rput_20 HR.out hK hss (by rw [← Hz.out]; exact h5) Hpz.out]
  refine GotPost.zero ?_
  have X4:=X0.out.trans X3.out
  repeat (first | exact X4 | refine Ext.set ?_ (by simp) _)
 ·have h5':(z:Int)≤512:=by omega
  go_enter Tryz.func120,Tryz.ntmps120
  go_wp2_with (first
   | (go_at_call 194; refine (rright_any _ _ _ _ _ _ _ rfl (H.out.ext X0.out) HS.out hc).mono ?_; rw [HR.out]; rintro e w1 ⟨rfl,hx⟩; have X1:=Lib.hid hx; obtain ⟨⟨p0,p1,p2⟩, _⟩:=got_held hx; clear hx)
   | (go_at_call 195; refine (rwith_any _ _ _ _ _ _ _ _ _ rfl (H.out.ext (X0.out.trans X1.out)) HS.out hc hK).mono ?_; rintro e w2 ⟨A2,c2,rfl,hown,hx⟩; have X2:=Lib.hid (X1.out.trans hx); have Hown:=Lib.hid hown; clear hown hx)
   | (go_at_call 196; refine (rsize_any _ _ _ _ _ _ _ rfl ((At.of_own Hown.out).ext ((Ext.refl w2).alloc _)) (Small.plain HW.out) (own_cap Hown.out)).mono ?_; rw [← Hz.out]; rintro e w3 ⟨rfl,hx⟩; have X3:=Lib.hid ((X2.out.alloc (.cells #[.int .i64 k, .int .i64 l, .slice A2 (plainL (withL ss K s)).length c2] 64)).trans hx); obtain ⟨_,⟨q0,q1,q2,q3⟩,⟨f0,f1,f2,f3⟩,hzz⟩:=got_held X3.out; have r0:w3.cell? ⟨w2.heap.size,0,none⟩=some (.int .i64 k):=hx.cell_new 0; have r1:w3.cell? ⟨w2.heap.size,1,none⟩=some (.int .i64 l):=hx.cell_new 1; have r2:w3.cell? ⟨w2.heap.size,2,none⟩=some (.slice A2 (plainL (withL ss K s)).length c2):=hx.cell_new 2; have Hown3:=Lib.hid (own_ext (own_mono (base':=w.heap.size+2) Hown.out (by have:=X1.out.size2; exact this)) (((Ext.refl w2).alloc _).trans hx)); clear hx))
  refine bodyPost_ret (v:= .agg #[.int .i64 k, .int .i64 l, .slice A2 (plainL (withL ss K s)).length c2, .int .i64 0]) (by simp [results,Tryz.results120,go_sem,q0,q1,q2,q3]) rfl ?_
  rw [rput_0 HR.out hK hss (by rw [← Hz.out]; exact h5) Hpz.out]
  have X4:=X0.out.trans X3.out
  refine ⟨A2,c2,rfl,own_mono (base:=w.heap.size+2) ?_ (by omega),?_⟩
  ·repeat (first | exact Hown3.out | refine ownsRow_setCell_below ?_ (by simp) _)
  ·repeat (first | exact X4 | refine Ext.set ?_ (by simp) _)
theorem rput_any (k l:Int) (A:Option Addr) (n c:Nat) (ss:List ByteArray) (slot:Int) (s:ByteArray) (w:World) (hn:n=ss.length) (h:At w A (ss.map Value.string)) (hs:Small ss) (hc:n≤c) (hss:s.size≤9223372036854775807):
  Calls Tryz.prog 120 #[.agg #[.int .i64 k, .int .i64 l, .slice A n c], .int .i64 slot, .string s] w (RPutPost k l ss slot s w):=by
 subst hn
 rcases hr:rightB k l ss with _ | _
 ·have e:putErr k l ss slot s=22:=by rw [putErr,if_pos hr]
  rw [RPutPost,e,if_neg (by decide)]
  exact rput_not k l A c ss slot s w h hs hc hr
 ·by_cases hb:slot < 0∨24≤slot∨400 < s.size
  ·have e:putErr k l ss slot s=21:=by rw [putErr,hr,if_neg (by simp),if_pos hb]
   rw [RPutPost,e,if_neg (by decide)]
   exact rput_item k l A c ss slot s w h hs hc hr hb hss
  ·obtain ⟨K,rfl⟩:=Int.eq_ofNat_of_zero_le (show 0≤slot by omega)
   exact rput_main k l A c ss K s w h hs hc hr (by omega) (by omega)
end
section
open Go.RowKit
theorem rto_any (x:Int) (w:World) (hx:0≤x∧x < 256):
  Calls Tryz.prog 78 #[.int .i64 x] w (Ret (.string (strOfNums [0,x])) w):=by
 go_enter Tryz.func78,Tryz.ntmps78
 have hst0:=St.start w
 refine wp_seq (sqr (sqp [.k 2 (.string ⟨#[]⟩)] ?_))
 refine then_normal (wp_seq (sqr (sqp [.m 3 0,sW 4 .u8 x x (IntWalk.u8_in _ (by omega))] ?_)))
 refine sqn1 (fun x_=>sA x_) (fun A5_4=> .slice A5_4 2 2) (fun A5_4=>eO 5 1 (.slice A5_4 2 2) 2 ([.int .u8 0, .int .u8 x])) hst0 (by
   refine svA fun ρ β W X cx=>?_
   have fF4:ρ (.tmp 4)= .int .u8 x:=(cx.ou 4)
   exact dv_lit (e:=5) (xs:=[.int .u8 0, .int .u8 x]) rfl (by simp [go_sem,fF4,cx.sees.const]) rfl (by decide) rfl rfl (fun σ β' X' hs hb hv hx=>⟨hv,hx⟩)) fun A5_4 W4 hst4=>?_
 refine sql (.string (strOfNums ([0,x]))) hst4 (fun cx=>run_convB (e:=5) rfl (by kernel_rfl) (by kernel_rfl) (by kernel_rfl) (cx.ou 5) (cx.ri 0 rfl)) ?_
 refine sqp [.m 2 6] ?_
 refine then_normal (wp_ret ?_)
 refine bpr (.string (strOfNums ([0,x]))) (results_1 Tryz.results78 rpt) ?_
 exact Ret.of rfl hst4.ext
theorem withL_mem' {ss:List ByteArray} {K:Nat} {s x:ByteArray} (h:x∈withL ss K s):x=s∨x∈ss∨x=ByteArray.empty:=by
 rcases List.mem_or_eq_of_mem_set h with h | h
 ·rcases List.mem_append.1 h with h1 | h1
  ·exact .inr (.inl (List.mem_of_mem_take h1))
  ·exact .inr (.inr (List.mem_replicate.1 h1).2)
 ·exact .inl h
theorem withL_desc {ss:List ByteArray} {K:Nat} {s:ByteArray} (h:∀ x∈ss,∃ o,Desc x o) (hs:∃ o,Desc s o):∀ x∈plainL (withL ss K s),∃ o,Desc x o:=by
 intro x hx
 rcases withL_mem' (List.mem_of_mem_take hx) with rfl | h1 | rfl
 ·exact hs
 ·exact h x h1
 ·exact ⟨none,by show ByteArray.empty.size < 8; decide⟩
theorem its_of {ss:List ByteArray} (h:∀ x∈ss,∃ o,Desc x o):∃ its:List Itm,its.map Prod.fst=ss∧∀ i∈its,Desc i.1 i.2:=by
 induction ss with
 | nil=>exact ⟨[],rfl,fun i hi=>by cases hi⟩
 | cons s ss ih=>
   obtain ⟨o,ho⟩:=h s (by simp)
   obtain ⟨its,h1,h2⟩:=ih (fun x hx=>h x (by simp [hx]))
   exact ⟨(s,o)::its,by simp [h1],fun i hi=>by
    rcases List.mem_cons.1 hi with rfl | hi
    ·exact ho
    ·exact h2 i hi⟩
end
section
open Go.RowKit
theorem digA_size:∀ (f:Nat) (m:Int) (s:ByteArray),(digA f m s).size≤f+s.size
 | 0, _,s=>by rw [digA]; omega
 | f+1,m,s=>by
   rw [digA]
   split
   ·omega
   ·have:=digA_size f (m / 10) (oneS (48+m % 10)++s)
    rw [ByteArray.size_append,oneS_size] at this
    omega
theorem digF_size (n:Int):(digF n).size≤6:=by
 rw [digF,digG]
 simp only [if_true]
 have:=digA_size 5 (n / 10) (oneS (48+n % 10)++⟨#[]⟩)
 rw [ByteArray.size_append,oneS_size] at this
 have h0:(⟨#[]⟩:ByteArray).size=0:=rfl
 omega
theorem valF_ok {x:Int} (h:0≤x):vrightF (valF x)=true∧plainV (valF x)=valF x∧ -9223372036854775808≤(valF x).2.1∧(valF x).2.1≤9223372036854775807:=by
 unfold valF
 split
 ·exact ⟨by decide,rfl,by decide,by decide⟩
 ·split
  ·have hs:((⟨#[97,98,99]⟩:ByteArray).extract 0 (x / 5 % 4).toNat).size≤40:=by
    rw [ByteArray.size_extract]
    have:(⟨#[97,98,99]⟩:ByteArray).size=3:=rfl
    omega
   refine ⟨?_,rfl,by show (-9223372036854775808:Int)≤0; decide,by show (0:Int)≤ _; decide⟩
   simp only [vrightF,knownF]
   simpa using hs
  ·split
   ·have hs:=digF_size (x / 5)
    refine ⟨?_,rfl,by show (-9223372036854775808:Int)≤0; decide,by show (0:Int)≤ _; decide⟩
    simp only [vrightF,knownF]
    have:(digF (x / 5)).size≤40:=by omega
    simpa using this
   ·refine ⟨rfl,rfl,?_,?_⟩
    ·show _≤x / 5 % 9 - 2; omega
    ·show x / 5 % 9 - 2≤ _; omega
theorem madeR_mem {k:Nat} {l:List Int} {v:Val} (h:v∈madeR k l):∃ x:Int,0≤x∧v=valF x:=by
 simp only [madeR,List.mem_map,List.mem_range] at h
 obtain ⟨i, _,rfl⟩:=h
 exact ⟨_,by omega,rfl⟩
theorem made_plain (l:List Int):plainR (vrowF l)=vrowF l:=by
 rw [plainR,vrowF]
 have:∀ rs:List Val,(∀ v∈rs,plainV v=v)→rs.map plainV=rs:=fun rs h=>by
  induction rs with
  | nil=>rfl
  | cons a rs ih=>rw [List.map_cons,h a (List.mem_cons_self ..),ih fun v hv=>h v (List.mem_cons_of_mem _ hv)]
 exact this _ fun v hv=>by obtain ⟨x,hx,rfl⟩:=madeR_mem hv; exact (valF_ok hx).2.1
theorem made_ns (l:List Int):NsOk (vrowF l):=fun v hv _=>by
 rw [vrowF] at hv
 obtain ⟨x,hx,rfl⟩:=madeR_mem hv
 exact (valF_ok hx).2.2
theorem made_rright (l:List Int):rrightF (vrowF l)=true:=by
 rw [rrightF,Bool.and_eq_true,decide_eq_true_eq,List.all_eq_true]
 refine ⟨fun v hv=>?_,?_⟩
 ·rw [vrowF] at hv
  obtain ⟨x,hx,rfl⟩:=madeR_mem hv
  exact (valF_ok hx).1
 ·rw [vrowF,madeR_len]; omega
theorem made_right (l:List Int):trightF (vminF l) (vmaxF l) (vpgF l) (vslF l) (vrowF l)=true:=by
 rw [trightF,made_rright,Bool.and_true,Bool.and_eq_true,Bool.and_eq_true]
 refine ⟨⟨?_,?_⟩,?_⟩
 ·simp only [onF,Bool.or_eq_true,Bool.and_eq_true,beq_iff_eq,decide_eq_true_eq]; rw [vminF]; omega
 ·simp only [onZ,onF,Bool.or_eq_true,Bool.and_eq_true,beq_iff_eq,decide_eq_true_eq]; rw [vmaxF]; split<;>omega
 ·simp only [tnextF,Bool.or_eq_true,Bool.and_eq_true,beq_iff_eq,decide_eq_true_eq]; rw [vpgF,vslF]; split<;>omega
theorem withL_len (ss:List ByteArray) (K:Nat) (s:ByteArray):(withL ss K s).length=max (plainL ss).length (K+1):=by
 simp only [withL,padTo,List.length_set,List.length_append,List.length_replicate]; omega
theorem put_right {k l:Int} {ss:List ByteArray} {slot:Int} {s:ByteArray} (h:rightB k l ss=true) (hp:putErr k l ss slot s=0):rightB k l (plainL (withL ss slot.toNat s))=true:=by
 obtain ⟨hk,hl,⟨h24,hsz⟩, _⟩:=right_parts h
 unfold putErr at hp
 rw [h,if_neg (by simp)] at hp
 split at hp
 ·cases hp
 ·rename_i hb
  split at hp
  ·cases hp
  ·rename_i hz
   have hpl:=plainL_len (withL ss slot.toNat s)
   have htr:=trimN_le (withL ss slot.toNat s) (withL ss slot.toNat s).length
   have hwl:=withL_len ss slot.toNat s
   have hpl2:=plainL_len ss
   have htr2:=trimN_le ss ss.length
   have hz2:sizeL (plainL (withL ss slot.toNat s))=sizeL (withL ss slot.toNat s):=by rw [sizeL,plain_plain,sizeL]
   have hlong:longB (plainL (withL ss slot.toNat s))=false:=by
    rw [longB,List.any_eq_false]
    intro x hx
    have hx':=withL_mem' (List.mem_of_mem_take hx)
    rcases hx' with rfl | hx' | rfl
    ·simp; omega
    ·have:=hsz x hx'; simp; omega
    ·simp
   simp only [rightB,Bool.and_eq_true,decide_eq_true_eq,hlong,Bool.not_false,hz2,true_and]
   exact ⟨hk.1,hk.2,hl.1,hl.2,by omega,by omega⟩
/-- the numbers of page n, the first k filled in -/
def mdC (s:List Int) (n k:Nat):List Int:=(List.range 40).map fun i=>if i < k then s.getD (40*n+i) 0 % 65536 else 0
def mdV (s:List Int) (n:Nat):List Int:=mdC s n 40
theorem mdC_len (s:List Int) (n k:Nat):(mdC s n k).length=40:=by simp [mdC]
theorem mdC_get (s:List Int) (n k i:Nat) (h:i < 40):(mdC s n k).getD i 0=if i < k then s.getD (40*n+i) 0 % 65536 else 0:=by simp [mdC,h]
theorem mdC_0 (s:List Int) (n:Nat):mdC s n 0=List.replicate 40 0:=by
 apply List.ext_getElem
 ·simp [mdC]
 ·intro i h1 h2
  simp only [mdC,List.getElem_map,List.getElem_range,List.getElem_replicate,Nat.not_lt_zero,if_false]
theorem mdC_set (s:List Int) (n k:Nat) (h:k < 40):(mdC s n k).set k (s.getD (40*n+k) 0 % 65536)=mdC s n (k+1):=by
 apply List.ext_getElem
 ·simp [mdC]
 ·intro i h1 h2
  simp only [mdC,List.length_set,List.length_map,List.length_range] at h1
  rw [List.getElem_set]
  simp only [mdC,List.getElem_map,List.getElem_range]
  by_cases e:k=i
  ·subst e; simp
  ·rw [if_neg e]
   by_cases h3:i < k
   ·rw [if_pos h3,if_pos (by omega)]
   ·rw [if_neg h3,if_neg (by omega)]
theorem mdC_no (s:List Int) (n k:Nat) (h:s.length≤40*n+k):mdC s n k=mdC s n (k+1):=by
 apply List.ext_getElem
 ·simp [mdC]
 ·intro i h1 h2
  simp only [mdC,List.length_map,List.length_range] at h1
  simp only [mdC,List.getElem_map,List.getElem_range]
  by_cases h3:i < k
  ·rw [if_pos h3,if_pos (by omega)]
  ·rw [if_neg h3]
   by_cases h4:i < k+1
   ·have h5:s.getD (40*n+i) 0=0:=by simp [show s.length≤40*n+i by omega]
    rw [if_pos h4,h5]; rfl
   ·rw [if_neg h4]
theorem mdC_bd (s:List Int) (n k i:Nat):0≤(mdC s n k).getD i 0∧(mdC s n k).getD i 0≤65535:=by
 rcases Nat.lt_or_ge i 40 with h | h
 ·rw [mdC_get s n k i h]; split<;>omega
 ·have e:(mdC s n k).getD i 0=0:=by simp [mdC,h]
  rw [e]; omega
theorem mdV_bd (s:List Int) (n i:Nat):0≤(mdV s n).getD i 0∧(mdV s n).getD i 0≤65535:=mdC_bd s n 40 i
theorem mdV_len (s:List Int) (n:Nat):(mdV s n).length=40:=mdC_len s n 40
/-- the version that three numbers give, and the item -/
def mdL (x y z:Int):List Int:=[x,y,z,x % 2,y,x]
def itV (n:Nat) (x y z:Int):VerD:=(2+x % 59,if 0 < vmaxF (mdL x y z) then 3+y % 58 else vmaxF (mdL x y z),if 0 < y % 3 then (n:Int) else vpgF (mdL x y z),if 0 < y % 3 then 1+x % 12 else vslF (mdL x y z),vhotF (mdL x y z),vrowF (mdL x y z))
theorem vmax_0 (l:List Int):0≤vmaxF l∧vmaxF l < 128:=by rw [vmaxF]; have:=mk8_bd l 1; split<;>omega
theorem itV_ok (n:Nat) (x y z:Int) (hn:n < 400):okD (itV n x y z):=by
 refine ⟨?_,made_ns _,made_plain _⟩
 have h:=made_right (mdL x y z)
 rw [trightF,made_rright,Bool.and_true,Bool.and_eq_true,Bool.and_eq_true] at h
 have hv:=vmax_0 (mdL x y z)
 rw [trightF,itV]
 dsimp only
 rw [made_rright,Bool.and_true,Bool.and_eq_true,Bool.and_eq_true]
 refine ⟨⟨?_,?_⟩,?_⟩
 ·simp only [onF,Bool.or_eq_true,Bool.and_eq_true,beq_iff_eq,decide_eq_true_eq]; omega
 ·simp only [onZ,onF,Bool.or_eq_true,Bool.and_eq_true,beq_iff_eq,decide_eq_true_eq]; split<;>omega
 ·split
  ·simp only [tnextF,Bool.or_eq_true,Bool.and_eq_true,beq_iff_eq,decide_eq_true_eq]; omega
  ·exact h.2
def it1 (x:Int) (b:ByteArray):ByteArray:=if x % 13=3 then ByteArray.empty else b
def it2 (x:Int) (b:ByteArray):ByteArray:=if x % 17=5 then ⟨#[111,100,100]⟩ else b
def it3 (x y:Int) (b:ByteArray):ByteArray:=if x % 10=7 then strOfNums [0,y % 13] else b
def itS (n:Nat) (x y z:Int):ByteArray:=it3 x y (it2 x (it1 x (txD (itV n x y z))))
theorem itS_desc (n:Nat) (x y z:Int) (hn:n < 400):∃ o,Desc (itS n x y z) o:=by
 rw [itS,it3]
 split
 ·exact ⟨none,by rw [Desc,strOfNums_size]; show 2 < 8; decide⟩
 ·rw [it2]
  split
  ·exact ⟨none,by show 3 < 8; decide⟩
  ·rw [it1]
   split
   ·exact ⟨none,by show 0 < 8; decide⟩
   ·exact ⟨some _,itV_ok n x y z hn,rfl⟩
/-- kind and header of a page -/
def mdK (V:List Int):Int:=if V.getD 2 0 % 9=4 then V.getD 3 0 % 3 else 1
def mdH (V:List Int):ByteArray:=if V.getD 2 0 % 11=5 then ⟨#[120]⟩ else putS (1+V.getD 1 0 % 2) 2
theorem mdK_bd (V:List Int):0≤mdK V∧mdK V≤2:=by rw [mdK]; split<;>omega
theorem mdH_size (V:List Int):(mdH V).size≤2:=by
 rw [mdH]
 split
 ·show 1≤2; decide
 ·rw [putS_size _ 2 (by omega)]; omega
def mdI (V:List Int) (n i:Nat):ByteArray:=itS n (V.getD (3*i) 0) (V.getD (3*i+1) 0) (V.getD (3*i+2) 0)
/-- the items when number i is at hand -/
def mdSs (V:List Int) (n:Nat):Nat→List ByteArray
 | 0=>[mdH V]
 | i+1=>if i=0 then [mdH V] else
    if putErr (mdK V) (V.getD 0 0) (mdSs V n i) i (mdI V n i)=0 then plainL (withL (mdSs V n i) i (mdI V n i)) else mdSs V n i
theorem mdSs_yes {V:List Int} {n i:Nat} (h0:1≤i) (h:putErr (mdK V) (V.getD 0 0) (mdSs V n i) i (mdI V n i)=0):mdSs V n (i+1)=plainL (withL (mdSs V n i) i (mdI V n i)):=by rw [mdSs,if_neg (by omega),if_pos h]
theorem mdSs_no {V:List Int} {n i:Nat} (h0:1≤i) (h:putErr (mdK V) (V.getD 0 0) (mdSs V n i) i (mdI V n i)≠0):mdSs V n (i+1)=mdSs V n i:=by rw [mdSs,if_neg (by omega),if_neg h]
theorem sizeT_one (s:ByteArray):sizeT (plainL [s])≤2+s.size:=by
 rw [plainL]
 have h:=trimN_le [s] [s].length
 simp only [List.length_singleton] at h ⊢
 rcases (by omega:trimN [s] 1=0∨trimN [s] 1=1) with e | e<;>rw [e]<;>simp [sizeT]
theorem mdSs_right (s:List Int) (n i:Nat):rightB (mdK (mdV s n)) ((mdV s n).getD 0 0) (mdSs (mdV s n) n i)=true:=by
 have hb:=mdV_bd s n 0
 have hk:=mdK_bd (mdV s n)
 have hh:=mdH_size (mdV s n)
 have h1:rightB (mdK (mdV s n)) ((mdV s n).getD 0 0) [mdH (mdV s n)]=true:=by
  have:=sizeT_one (mdH (mdV s n))
  simp only [rightB,Bool.and_eq_true,decide_eq_true_eq,sizeL,longB,List.any_cons,List.any_nil,Bool.or_false,Bool.not_eq_true',decide_eq_false_iff_not,List.length_singleton]
  exact ⟨hk.1,hk.2,hb.1,by omega,by omega,by omega,decide_eq_true (by omega)⟩
 induction i with
 | zero=>exact h1
 | succ i ih=>
   rw [mdSs]
   split
   ·exact h1
   ·split
    ·rename_i hp
     exact put_right (slot:=((i:Nat):Int)) ih hp
    ·exact ih
theorem mdSs_desc (s:List Int) (n i:Nat) (hn:n < 400):∀ x∈mdSs (mdV s n) n i,∃ o,Desc x o:=by
 have h1:∀ x∈[mdH (mdV s n)],∃ o,Desc x o:=fun x hx=>by
  rw [List.mem_singleton] at hx
  subst hx
  have:=mdH_size (mdV s n)
  exact ⟨none,by rw [Desc]; omega⟩
 induction i with
 | zero=>exact h1
 | succ i ih=>
   rw [mdSs]
   split
   ·exact h1
   ·split
    ·exact withL_desc ih (itS_desc _ _ _ _ hn)
    ·exact ih
/-- all of R as one entry -/
def eM (R:List Ent):Ent:=⟨R.flatMap (·.fp),fun W=>∀ e∈R,e.holds W∧e.loc⟩
theorem eM_loc (R:List Ent):(eM R).loc:=fun W W' hk h e he=>
 ⟨(h e he).2 W W' (fun k hk'=>hk k (List.mem_flatMap.2 ⟨e,he,hk'⟩)) (h e he).1,(h e he).2⟩
theorem St.emNil {w0 W:World} {bor:List Nat} {L:List Ent} (h:St w0 bor L W):St w0 bor (L++[eM []]) W:=by
 refine ⟨h.upd,fun x hx=>?_,?_⟩
 ·rcases List.mem_append.1 hx with hx | hx
  ·exact h.ok x hx
  ·rw [List.mem_singleton] at hx
   subst hx
   exact ⟨fun e he=>(by cases he),eM_loc _,fun k hk=>(by cases hk)⟩
 ·rw [List.pairwise_append]
  refine ⟨h.apart,List.pairwise_singleton _ _,fun a _ b hb=>?_⟩
  rw [List.mem_singleton] at hb
  subst hb
  exact fun k _ hk=>by cases hk
/-- the last entry joins the many -/
theorem St.merge {w0 W:World} {bor:List Nat} {L R:List Ent} {e:Ent} (h:St w0 bor (L++[eM R,e]) W):St w0 bor (L++[eM (R++[e])]) W:=by
 have hM:=h.ok (eM R) (by simp)
 have hE:=h.ok e (by simp)
 have hfp:∀ k,k∈(eM (R++[e])).fp↔k∈(eM R).fp∨k∈e.fp:=fun k=>by simp [eM]
 refine ⟨h.upd,fun x hx=>?_,?_⟩
 ·rcases List.mem_append.1 hx with hx | hx
  ·exact h.ok x (by simp [hx])
  ·rw [List.mem_singleton] at hx
   subst hx
   refine ⟨fun x hx=>?_,eM_loc _,fun k hk=>?_⟩
   ·rcases List.mem_append.1 hx with hx | hx
    ·exact hM.holds x hx
    ·rw [List.mem_singleton] at hx
     subst hx
     exact ⟨hE.holds,hE.loc⟩
   ·rcases (hfp k).1 hk with hk | hk
    ·exact hM.own k hk
    ·exact hE.own k hk
 ·have ha:=h.apart
  rw [List.pairwise_append] at ha ⊢
  refine ⟨ha.1,List.pairwise_singleton _ _,fun a ha' b hb=>?_⟩
  rw [List.mem_singleton] at hb
  subst hb
  intro k hk hkb
  rcases (hfp k).1 hkb with hkb | hkb
  ·exact ha.2.2 a ha' (eM R) (by simp) k hk hkb
  ·exact ha.2.2 a ha' e (by simp) k hk hkb
/-- a page's items as an entry; the pages of Made as one entry -/
def entP (p:PgD):Ent:=eO 9 1 (.slice p.A p.its.length p.c) p.its.length (strs p.its)
def ePs (Ps:List PgD):Ent:=eM (Ps.map entP)
def MdOk (s:List Int) (n:Nat) (p:PgD):Prop:=p.k=mdK (mdV s n)∧p.l=(mdV s n).getD 0 0∧p.its.map Prod.fst=mdSs (mdV s n) n 12∧(∀ i∈p.its,Desc i.1 i.2)
def eMd (s:List Int) (A:Option Addr) (fp:List Nat):Ent:=⟨fp,fun W=>∃ (c:Nat) (Ps:List PgD),Ps.length=5∧(∀ n,n < 5→MdOk s n (Ps.getD n p0))∧fp=(eM (Ps.map entP++[eO 64 3 (.slice A 5 c) 5 (Ps.flatMap pgC)])).fp∧(eM (Ps.map entP++[eO 64 3 (.slice A 5 c) 5 (Ps.flatMap pgC)])).holds W⟩
theorem eMd_loc (s:List Int) (A:Option Addr) (fp:List Nat):(eMd s A fp).loc:=fun W W' hk h=>by
 obtain ⟨c,Ps,h1,h2,h3,h4⟩:=h
 exact ⟨c,Ps,h1,h2,h3,eM_loc _ W W' (fun k hk'=>hk k (by rw [eMd,h3]; exact hk')) h4⟩
theorem eMd_at {s:List Int} {A:Option Addr} {fp:List Nat} {W:World} (h:(eMd s A fp).holds W):∃ Ps,Ps.length=5∧(∀ n,n < 5→MdOk s n (Ps.getD n p0))∧PgsAt W A Ps:=by
 obtain ⟨c,Ps,h1,h2,h3,h4⟩:=h
 refine ⟨Ps,h1,h2,?_,by omega,fun p hp=>?_⟩
 ·have h5:=(h4 _ (List.mem_append_right _ (List.mem_singleton.2 rfl))).1
  exact At.of_ownN h5
 ·obtain ⟨i,hi,rfl⟩:=List.getElem_of_mem hp
  have h6:=h2 i (by omega)
  rw [List.getD_eq_getElem?_getD,List.getElem?_eq_getElem hi,Option.getD_some] at h6
  have h5:=(h4 (entP Ps[i]) (List.mem_append_left _ (List.mem_map.2 ⟨_,hp,rfl⟩))).1
  have h7:=congrArg List.length h6.2.2.1
  rw [List.length_map] at h7
  have h8:=(right_parts (mdSs_right s i 12)).2.2.1.1
  exact ⟨At.of_own h5,by omega,eown_cap h5,h6.2.2.2⟩
def MadePost (s:List Int) (w:World) (e:Ending) (w':World):Prop:=∃ A c fp,e= .returned (.agg #[.slice A 5 c])∧St w [] [eMd s A fp] w'
theorem St.made {w0 W:World} {s:List Int} {A:Option Addr} {c n:Nat} {Ps:List PgD} (hn:n=5) (hl:Ps.length=n) (hM:∀ i,i < n→MdOk s i (Ps.getD i p0)) (h:St w0 [] [ePs Ps,eO 64 3 (.slice A n c) n (Ps.flatMap pgC)] W):MadePost s w0 (.returned (.agg #[.slice A n c])) W:=by
 subst hn
 have h2:=St.merge (L:=[]) h
 refine ⟨A,c, _,rfl,St.repl (L1:=[]) (L2:=[]) h2 rfl (fun hh=>⟨c,Ps,hl,hM,rfl,hh⟩) (eMd_loc _ _ _)⟩
theorem St.mergeP {w0 W:World} {bor:List Nat} {L:List Ent} {Ps:List PgD} {p:PgD} (h:St w0 bor (L++[ePs Ps,entP p]) W):St w0 bor (L++[ePs (Ps++[p])]) W:=by
 have h2:=h.merge
 have e:Ps.map entP++[entP p]=(Ps++[p]).map entP:=by simp
 rw [e] at h2
 exact h2
theorem md_snoc {s:List Int} {n:Nat} {Ps:List PgD} {p:PgD} (hl:Ps.length=n) (h:∀ i,i < n→MdOk s i (Ps.getD i p0)) (hp:MdOk s n p):∀ i,i < n+1→MdOk s i ((Ps++[p]).getD i p0):=fun i hi=>by
 subst hl
 rcases Nat.lt_or_ge i Ps.length with g | g
 ·have e:(Ps++[p]).getD i p0=Ps.getD i p0:=by rw [List.getD_eq_getElem?_getD,List.getD_eq_getElem?_getD,List.getElem?_append_left g]
  rw [e]; exact h i g
 ·have e:i=Ps.length:=by omega
  subst e
  have e2:(Ps++[p]).getD Ps.length p0=p:=by simp
  rw [e2]; exact hp
theorem pgs_snoc (Ps:List PgD) (p:PgD):Ps.flatMap pgC++pgC p=(Ps++[p]).flatMap pgC:=by simp
end
section
open Go.RowKit
def entF (k:FK):Ent:=eO 45 3 (.slice k.2.1 k.1.2.2.2.2.2.2.length k.2.2) k.1.2.2.2.2.2.2.length (flatR k.1.2.2.2.2.2.2)
def eFR (ks:List FK):Ent:=eM (ks.map entF)
theorem St.mergeF {w0 W:World} {bor:List Nat} {L:List Ent} {ks:List FK} {s:Nat} {v:VerD} {A:Option Addr} {c:Nat} (h:St w0 bor (L++[eFR ks,eO 45 3 (.slice A v.2.2.2.2.2.length c) v.2.2.2.2.2.length (flatR v.2.2.2.2.2)]) W):St w0 bor (L++[eFR (ks++[((s,v),A,c)])]) W:=by
 have h2:=h.merge
 have e:ks.map entF++[eO 45 3 (.slice A v.2.2.2.2.2.length c) v.2.2.2.2.2.length (flatR v.2.2.2.2.2)]=(ks++[((s,v),A,c)]).map entF:=by simp [entF]
 rw [e] at h2
 exact h2
/-- found versions l of page n in the row v, with their own rows -/
def eFk (t:TypeId) (v:Value) (l:List (Nat×VerD)) (n:Int) (fp:List Nat):Ent:=⟨fp,fun W=>∃ ks:List FK,ks.map Prod.fst=l∧fp=(eM (ks.map entF++[eO t 8 v l.length (ks.flatMap (cellsF n))])).fp∧(eM (ks.map entF++[eO t 8 v l.length (ks.flatMap (cellsF n))])).holds W⟩
theorem eFk_loc (t:TypeId) (v:Value) (l:List (Nat×VerD)) (n:Int) (fp:List Nat):(eFk t v l n fp).loc:=fun W W' hk h=>by
 obtain ⟨ks,h1,h3,h4⟩:=h
 exact ⟨ks,h1,h3,eM_loc _ W W' (fun k hk'=>hk k (by rw [eFk,h3]; exact hk')) h4⟩
theorem eFk_self {e:Ent} {t:TypeId} {v:Value} {l:List (Nat×VerD)} {n:Int} {fp:List Nat} (h:e=eFk t v l n fp):e=eFk t v l n e.fp:=by subst h; rfl
theorem eFk_open {t:TypeId} {A:Option Addr} {m c:Nat} {l:List (Nat×VerD)} {n:Int} {fp:List Nat} {W:World} (h:(eFk t (.slice A m c) l n fp).holds W):
  ∃ ks:List FK,ks.map Prod.fst=l∧W.ownsRow 0 t 8 (.slice A m c) l.length (ks.flatMap (cellsF n))∧At W A (ks.flatMap (cellsF n))∧∀ k∈ks,At W k.2.1 (flatR k.1.2.2.2.2.2.2):=by
 obtain ⟨ks,h1,h3,h4⟩:=h
 have h5:=(h4 _ (List.mem_append_right _ (List.mem_singleton.2 rfl))).1
 exact ⟨ks,h1,h5,At.of_ownN h5,fun k hk=>At.of_ownN (h4 (entF k) (List.mem_append_left _ (List.mem_map.2 ⟨k,hk,rfl⟩))).1⟩
def StkPost (t:TypeId) (l:List (Nat×VerD)) (n:Int) (w:World) (e:Ending) (w':World):Prop:=∃ A c fp,e= .returned (.slice A l.length c)∧St w [] [eFk t (.slice A l.length c) l n fp] w'
theorem St.fk {w W:World} {t:TypeId} {ks:List FK} {l:List (Nat×VerD)} {n:Int} {A:Option Addr} {m c:Nat} (hk:ks.map Prod.fst=l) (hm:m=l.length) (h:St w [] [eFR ks,eO t 8 (.slice A m c) m (ks.flatMap (cellsF n))] W):StkPost t l n w (.returned (.slice A m c)) W:=by
 subst hm
 have h2:=St.merge (L:=[]) h
 exact ⟨A,c, _,rfl,St.repl (L1:=[]) (L2:=[]) h2 rfl (fun hh=>⟨ks,hk,rfl,hh⟩) (eFk_loc _ _ _ _ _)⟩
theorem StkPost.weak {w w':World} {t:TypeId} {l:List (Nat×VerD)} {n:Int} {e:Ending} (h:StkPost t l n w e w'):∃ A c,∃ ks:List FK,ks.map Prod.fst=l∧e= .returned (.slice A l.length c)∧w'.ownsRow w.heap.size t 8 (.slice A l.length c) l.length (ks.flatMap (cellsF n))∧Ext w w':=by
 obtain ⟨A,c,fp,he,hst⟩:=h
 have hE:=hst.ok _ (List.mem_singleton.2 rfl)
 obtain ⟨ks,h1,h3,h4⟩:=hE.holds
 have h5:=(h4 _ (List.mem_append_right _ (List.mem_singleton.2 rfl))).1
 have hst2:St w [] [eO t 8 (.slice A l.length c) l.length (ks.flatMap (cellsF n))] w':=by
  refine ⟨hst.upd,fun x hx=>?_,List.pairwise_singleton _ _⟩
  rw [List.mem_singleton] at hx; subst hx
  refine ⟨h5,eO_loc _ _ _ _ _,fun k hk=>hE.own k ?_⟩
  show k∈fp
  rw [h3]
  simp only [eM,List.flatMap_append,List.mem_append,List.flatMap_cons,List.flatMap_nil,List.append_nil]
  exact .inr hk
 exact ⟨A,c,ks,h1,he,hst2.own' 0 rfl,hst.ext⟩
end
section
open Go.RowKit
section
variable {P:Program} {o:Oper} {ρ:Operand→Value} {W:World}
theorem run_indexS {t:TypeId} {x y:Operand} {s:ByteArray} {k:IntKind} {j:Int} {m:Nat} (h:o.op= .index t x y) (ht:P.underlying t=some .string) (hx:ρ x= .string s) (hy:ρ y= .int k j) (hj:j=(m:Int)) (hm:m < s.size):
  (execOp ρ o).run P W= .ok (.value (.int .u8 (byteI (bl s) m))) W:=by
 have e:s=strL (bl s):=strL_bl s
 rw [e] at hx
 exact run_indexStr h ht hx hy hj (by rw [bl_len]; exact hm)
end
/-- the slot that a redirect leads to, or -1 -/
def rdF (v:PV) (j:Int):Int:=if hdF v=true∧1≤j∧j < v.its.length∧(v.its.getD j.toNat it0).1.size=2∧byteI (bl (v.its.getD j.toNat it0).1) 0=0 then byteI (bl (v.its.getD j.toNat it0).1) 1 else -1
def inS:List Int→Int→Bool
 | []=>fun _=>false
 | s::l=>fun y=>if y=s then true else inS l y
theorem inS_mem {l:List Int} {x:Int}:inS l x=true↔x∈l:=by
 induction l with
 | nil=>simp [inS]
 | cons a l ih=>
   rw [inS]
   by_cases h:x=a
   ·simp [h]
   ·show (if x=a then true else inS l x)=true↔ _
    rw [if_neg h,ih,List.mem_cons]
    simp [h]
def chStop (hot:Bool) (m:Nat) (o:Option VerD):Bool:=!(o.isSome)||((hot||decide (0 < (m:Int)))&&!((vD o).2.2.2.2.1))
def chR (v:PV) (n:Int) (hot:Bool):Nat→List Int→Int→Int→List (Nat×VerD)
 | 0, _, _, _=>[]
 | f+1,seen,pg,sl=>if ((pg==n)&&!(inS seen sl))=true then (if chStop hot seen.length (atF v sl)=true then [] else (sl.toNat,vD (atF v sl))::chR v n hot f (sl::seen) (vD (atF v sl)).2.2.1 (vD (atF v sl)).2.2.2.1) else []
def chF (v:PV) (n j:Int):List (Nat×VerD):=chR v n (decide (0≤rdF v j)) 24 [] n (if 0≤rdF v j then rdF v j else j)
theorem chR_no {v:PV} {n:Int} {hot:Bool} {f:Nat} {seen:List Int} {pg sl:Int} (h:((pg==n)&&!(inS seen sl))=false):chR v n hot f seen pg sl=[]:=by
 cases f with
 | zero=>rfl
 | succ f=>rw [chR,if_neg (by rw [h]; decide)]
theorem chR_stop {v:PV} {n:Int} {hot:Bool} {f:Nat} {seen:List Int} {pg sl:Int} (h:chStop hot seen.length (atF v sl)=true):chR v n hot f seen pg sl=[]:=by
 cases f with
 | zero=>rfl
 | succ f=>rw [chR]; split<;>simp [h]
theorem chR_go {v:PV} {n:Int} {hot:Bool} {f:Nat} {seen:List Int} {pg sl:Int} (hf:0 < f) (h1:((pg==n)&&!(inS seen sl))=true) (h:chStop hot seen.length (atF v sl)=false):
  chR v n hot f seen pg sl=(sl.toNat,vD (atF v sl))::chR v n hot (f - 1) (sl::seen) (vD (atF v sl)).2.2.1 (vD (atF v sl)).2.2.2.1:=by
 obtain ⟨f,rfl⟩:∃ g,f=g+1:=⟨f - 1,by omega⟩
 rw [chR,if_pos h1,if_neg (by rw [h]; decide)]
 rfl
theorem nodup_len:∀ (n:Nat) (l:List Int),l.Nodup→(∀ x∈l,1≤x∧x < (n:Int)+1)→l.length≤n
 | 0,l, _,h=>by
   cases l with
   | nil=>exact Nat.le_refl _
   | cons a l=>have:=h a (by simp); omega
 | n+1,l,hn,h=>by
   have h1:(l.erase ((n:Int)+1)).length≤n:=nodup_len n _ (hn.erase _) fun x hx=>by
    have h2:=(List.Nodup.mem_erase_iff hn).1 hx
    have h3:=h x h2.2
    have h4:=h2.1
    omega
   have h2:=List.length_erase (a:=(n:Int)+1) (l:=l)
   split at h2<;>omega
theorem atF_some {v:PV} (h:v.wf) {j:Int} (hs:(atF v j).isSome=true):1≤j∧j < 24:=by
 rw [atF] at hs
 split at hs
 ·have:=h.1; omega
 ·cases hs
theorem atF_next {v:PV} (h:v.wf) (j:Int): -1≤(vD (atF v j)).2.2.1∧(vD (atF v j)).2.2.1 < 400∧0≤(vD (atF v j)).2.2.2.1∧(vD (atF v j)).2.2.2.1 < 24:=by
 obtain ⟨s,hs⟩:=atF_desc h j
 have:=hs.bd
 exact ⟨this.2.2.2.2.1,this.2.2.2.2.2.1,this.2.2.2.2.2.2.1,this.2.2.2.2.2.2.2.1⟩
theorem rdF_bd (v:PV) (j:Int): -1≤rdF v j∧rdF v j < 256:=by
 rw [rdF]
 split
 ·have:=byte_lt (bl (v.its.getD j.toNat it0).1) 1
  exact ⟨by have:=this.1; rw [byteI]; omega,by have:=this.2; exact this⟩
 ·omega
def LPost (t:TypeId) (l:List (Nat×VerD)) (n:Int) (w:World) (e:Ending) (w':World):Prop:=∃ A c,∃ ks:List FK,ks.map Prod.fst=l∧e= .returned (.slice A l.length c)∧w'.ownsRow w.heap.size t 8 (.slice A l.length c) l.length (ks.flatMap (cellsF n))∧Ext w w'
theorem hredirect_any (tt:TypeId) (tv:Value) (pv:Int→PV) (n j:Int) (w:World) (hS:PgsOk w tt tv pv):
  Calls Tryz.prog 87 #[.iface tt (tv), .agg #[.int .i64 n, .int .i64 j]] w (Ret (.int .i64 (rdF (pv n) j)) w):=by
 obtain ⟨f0,rv,hM,hC,hG⟩:=hS.ex
 have hwf:=hS.wf n
 have hwl:=hwf.1
 have hb0:=byte_lt (bl ((pv n).its.getD j.toNat it0).1) 0
 have hb1:=byte_lt (bl ((pv n).its.getD j.toNat it0).1) 1
 have hb0':0≤byteI (bl ((pv n).its.getD (j).toNat it0).1) 0∧byteI (bl ((pv n).its.getD (j).toNat it0).1) 0 < 256:=hb0
 have hb1':0≤byteI (bl ((pv n).its.getD (j).toNat it0).1) 1∧byteI (bl ((pv n).its.getD (j).toNat it0).1) 1 < 256:=hb1
 go_enter Tryz.func87,Tryz.ntmps87
 have hst0:=St.start w
 refine wp_seq (sqr ?_)
 refine sqbx #[vi n,vi j] hst0 fun B3_1 W1 hst1=>?_
 refine sqp [.k 4 (vi 0)] ?_
 refine then_normal (wp_seq (wp_seq (sqr (sqp [.m 10 0, .k 11 (vp B3_1)] ?_))))
 refine sqld 0 hst1 ?_
 refine sqk (.tuple #[vi ((ofF (pv n))), .bool ((hdF (pv n)))]) hst1 (fun cx=>⟨_,of_any _ _ pv n _ (hS.ext cx.upd.to_ext),(map2 (cx.ou 10) (cx.ou 12))⟩) fun W6 hst6=>?_
 refine sqp [.m 9 13, .k 14 (vi ((ofF (pv n)))), .k 15 (.bool ((hdF (pv n)))), .m 5 14, .m 6 15] ?_
 refine then_normal (wp_seq (sqr (sqp [.m 16 6, .k 17 (.bool (!((hdF (pv n))))), .m 18 17] ?_)))
 refine sqw' 18 [19,20,21] ?_ rfl (fun hq=>?_) ?_
 rotate_left
 ·refine sqp [.k 19 (.pointer (some ⟨B3_1,1,none⟩))] ?_
  refine sqld 0 hst6 ?_
  refine sqp [.k 21 (.bool (decide (j < 1)))] ?_
  exact sqe
 refine sqwx ?_
 refine sqp [sPo 22 (!((hdF (pv n)))) (decide (j < 1))] ?_
 refine then_normal (wbs (fun hs19=>?_) fun hs19=>?_)
 ·have hs19p:=hs19
  simp only [zB] at hs19p
  refine wp_seq (sqr (sqp [.k 4 (vi (-1))] ?_))
  refine then_normal (wp_ret (then_ret ?_))
  refine bpr (vi (-1)) (results_1 Tryz.results87 rpt) ?_
  have hrd:rdF (pv n) j= -1:=by rw [rdF,if_neg (by rintro ⟨a_,b_,c_,d_,e_⟩; simp_all; try omega)]
  rw [hrd]
  exact Ret.of rfl hst6.ext
 have hs19p:=hs19
 simp only [zB] at hs19p
 obtain ⟨hs19p1,hs19p2⟩:=hs19p
 refine wp_skip (then_normal (wp_seq (sqr (sqp [.m 24 0, .k 25 (vp B3_1)] ?_))))
 refine sqld 0 hst6 ?_
 refine sqn2 (fun x_=>sA (tg (tg x_ 0) 2)) (fun x_=>sC (tg (tg x_ 0) 2)) (fun A27_24 c27_24=> .tuple #[.agg #[vi ((pv n).k),vi ((pv n).l), .slice A27_24 ((pv n).its.length) c27_24], .bool ((pv n).ok)]) (fun A27_24 c27_24=>eO 9 1 (.slice A27_24 ((pv n).its.length) c27_24) ((pv n).its.length) (strs (pv n).its)) hst6 (by
   refine svA fun ρ β W X cx=>?_
   refine DoesU.call (run_invoke (args:=#[vi n]) (args':=#[rv,vi n]) rfl rfl (cx.ou 24) hM hC (map1 (cx.ou 26)) rfl) ?_
   refine (hG _ n cx.upd.to_ext).mono ?_
   rintro e W1 ⟨A4,c4,rfl,ho,hx⟩
   refine ⟨_,rfl,post_call [eO 9 1 (.slice A4 (pv n).its.length c4) (pv n).its.length (strs (pv n).its)] rfl rfl hx (one_new (eO_new ho)) (List.pairwise_singleton _ _) (fun σ β' X' hs hb hv hN=>?_)⟩
   have hv1:=(hv 27 rfl).1; have hv2:=(hv 27 rfl).2
   exact ⟨hv1.trans (by rw [hv2]; rfl),(by rw [hv2]; exact (List.cons.inj hN).1)⟩) fun A27_24 c27_24 W24 hst24=>?_
 refine sqp [.m 23 27, .k 28 (.agg #[vi ((pv n).k),vi ((pv n).l), .slice A27_24 ((pv n).its.length) c27_24]), .k 29 (.bool ((pv n).ok))] ?_
 refine sqal #[vi 0,vi 0, .slice none 0 0] hst24 fun B7_28 W28 hst28=>?_
 refine sqst (n:=3) 2 #[vi ((pv n).k),vi ((pv n).l), .slice A27_24 ((pv n).its.length) c27_24] hst28 fun W29 hst29=>?_
 refine sqp [.m 8 29] ?_
 refine then_normal (wp_seq (wp_seq (sqr (sqp [.k 30 (.pointer (some ⟨B3_1,1,none⟩))] ?_))))
 refine sqld 0 hst29 ?_
 refine sqp [.k 32 (.pointer (some ⟨B7_28,2,none⟩))] ?_
 refine sqld 2 hst29 ?_
 refine sqp [.k 34 (vi (((pv n).its.length:Int))), .k 35 (.bool (decide (((pv n).its.length:Int)≤j))), .m 36 35] ?_
 refine sqw' 36 [37,38,39,40,41,42,43,44] ?_ rfl (fun hq=>?_) ?_
 rotate_left
 ·have hq_:=of_decide_eq_false hq
  refine sqp [.k 37 (.pointer (some ⟨B7_28,2,none⟩))] ?_
  refine sqld 2 hst29 ?_
  refine sqp [.k 39 (.pointer (some ⟨B3_1,1,none⟩))] ?_
  refine sqld 0 hst29 ?_
  refine sql (.pointer (some ((ad A27_24).add ((j).toNat)))) hst29 (fun cx=>run_indexSl (e:=9) (m:=(j).toNat) rfl (by kernel_rfl) (by kernel_rfl) (cx.ou 38) (cx.ou 40) (by omega) (by omega) (At.of_own (cx.ri 1 rfl)) (strs_len _)) ?_
  refine sql (.string (((pv n).its.getD (j).toNat it0).1)) hst29 (fun cx=>run_load1 rfl (by kernel_rfl) (cx.ou 41) (At.cellAd (At.of_own (cx.ri 1 rfl)) (getD_strs (by omega)))) ?_
  refine sqp [.k 43 (vi (((((pv n).its.getD (j).toNat it0).1).size:Int))), .k 44 (.bool (((((pv n).its.getD (j).toNat it0).1).size:Int) != 2))] ?_
  exact sqe
 refine sqwx ?_
 refine sqp [sPo 45 (decide (((pv n).its.length:Int)≤j)) (((((pv n).its.getD (j).toNat it0).1).size:Int) != 2), .m 46 45] ?_
 refine sqw' 46 [47,48,49,50,51,52,53,54] ?_ rfl (fun hq=>?_) ?_
 rotate_left
 ·have hq_:=hq
  try simp only [zB] at hq_
  refine sqp [.k 47 (.pointer (some ⟨B7_28,2,none⟩))] ?_
  refine sqld 2 hst29 ?_
  refine sqp [.k 49 (.pointer (some ⟨B3_1,1,none⟩))] ?_
  refine sqld 0 hst29 ?_
  refine sql (.pointer (some ((ad A27_24).add ((j).toNat)))) hst29 (fun cx=>run_indexSl (e:=9) (m:=(j).toNat) rfl (by kernel_rfl) (by kernel_rfl) (cx.ou 48) (cx.ou 50) (by omega) (by omega) (At.of_own (cx.ri 1 rfl)) (strs_len _)) ?_
  refine sql (.string (((pv n).its.getD (j).toNat it0).1)) hst29 (fun cx=>run_load1 rfl (by kernel_rfl) (cx.ou 51) (At.cellAd (At.of_own (cx.ri 1 rfl)) (getD_strs (by omega)))) ?_
  refine sql (.int .u8 (byteI (bl (((pv n).its.getD (j).toNat it0).1)) 0)) hst29 (fun cx=>run_indexS (m:=0) rfl (by kernel_rfl) (cx.ou 52) (cx.co _) (by omega) (by omega)) ?_
  refine sqp [.k 54 (.bool ((byteI (bl (((pv n).its.getD (j).toNat it0).1)) 0) != 0))] ?_
  exact sqe
 refine sqwx ?_
 refine sqp [sPo 55 ((decide (((pv n).its.length:Int)≤j))||(((((pv n).its.getD (j).toNat it0).1).size:Int) != 2)) ((byteI (bl (((pv n).its.getD (j).toNat it0).1)) 0) != 0)] ?_
 refine then_normal (wbs (fun hs57=>?_) fun hs57=>?_)
 ·have hs57p:=hs57
  simp only [zB] at hs57p
  refine wp_seq (sqr (sqp [.k 4 (vi (-1))] ?_))
  refine then_normal (wp_ret (then_ret ?_))
  refine bpr (vi (-1)) (results_1 Tryz.results87 rpt) ?_
  have hrd:rdF (pv n) j= -1:=by rw [rdF,if_neg (by rintro ⟨a_,b_,c_,d_,e_⟩; simp_all; try omega)]
  rw [hrd]
  exact Ret.of rfl hst29.ext
 have hs57p:=hs57
 simp only [zB] at hs57p
 obtain ⟨⟨hs57p1,hs57p2⟩,hs57p3⟩:=hs57p
 refine wp_skip (then_normal (wp_seq (sqr (sqp [.k 56 (.pointer (some ⟨B7_28,2,none⟩))] ?_))))
 refine sqld 2 hst29 ?_
 refine sqp [.k 58 (.pointer (some ⟨B3_1,1,none⟩))] ?_
 refine sqld 0 hst29 ?_
 refine sql (.pointer (some ((ad A27_24).add ((j).toNat)))) hst29 (fun cx=>run_indexSl (e:=9) (m:=(j).toNat) rfl (by kernel_rfl) (by kernel_rfl) (cx.ou 57) (cx.ou 59) (by omega) (by omega) (At.of_own (cx.ri 1 rfl)) (strs_len _)) ?_
 refine sql (.string (((pv n).its.getD (j).toNat it0).1)) hst29 (fun cx=>run_load1 rfl (by kernel_rfl) (cx.ou 60) (At.cellAd (At.of_own (cx.ri 1 rfl)) (getD_strs (by omega)))) ?_
 refine sql (.int .u8 (byteI (bl (((pv n).its.getD (j).toNat it0).1)) 1)) hst29 (fun cx=>run_indexS (m:=1) rfl (by kernel_rfl) (cx.ou 61) (cx.co _) (by omega) (by omega)) ?_
 refine sqp [sW 63 .i64 (byteI (bl (((pv n).its.getD (j).toNat it0).1)) 1) (byteI (bl (((pv n).its.getD (j).toNat it0).1)) 1) (IntWalk.i64_in _ (by omega)), .m 4 63] ?_
 refine then_normal (wp_ret ?_)
 refine bpr (vi (byteI (bl (((pv n).its.getD (j).toNat it0).1)) 1)) (results_1 Tryz.results87 rpt) ?_
 have hrd:rdF (pv n) j=byteI (bl ((pv n).its.getD (j).toNat it0).1) 1:=by rw [rdF,if_pos (by refine ⟨by simp_all,by omega,by omega,by omega,by omega⟩)]
 rw [hrd]
 exact Ret.of rfl hst29.ext
theorem hchainR_any (tt:TypeId) (tv:Value) (pv:Int→PV) (n j:Int) (w:World) (hS:PgsOk w tt tv pv) (hN:NoneAt w) (hj: -9223372036854775808≤j∧j≤9223372036854775807):
  Calls Tryz.prog 33 #[.iface tt (tv), .agg #[.int .i64 n, .int .i64 j]] w (StkPost 43 (chF (pv n) n j) n w):=by
 have hwf:=hS.wf n
 go_enter Tryz.func33,Tryz.ntmps33
 have hst0:=St.start w
 refine wp_seq (sqr ?_)
 refine sqbx #[vi n,vi j] hst0 fun B3_1 W1 hst1=>?_
 refine sqp [.k 4 (.slice none 0 0)] ?_
 refine then_normal (wp_seq (sqr ?_))
 refine sqn1 (fun x_=>pbm x_) (fun M11_3=> .map (some M11_3)) (fun M11_3=>eMb Tryz.prog 3 4 M11_3 0 (fun _=>false)) hst1 (by
   refine svA fun ρ β W X cx=>?_
   exact dv_makeMb rfl rfl rfl rfl (fun σ β' X' hs hb hv hx=>⟨hv,hx⟩)) fun M11_3 W3 hst3=>?_
 refine sqp [.m 5 11] ?_
 refine then_normal (wp_seq (sqr ?_))
 refine sqlb 0 2 hst3 ?_
 refine sqal #[vi 0,vi 0] hst3 fun B6_6 W6 hst6=>?_
 refine sqst (n:=2) 2 #[vi n,vi j] hst6 fun W7 hst7=>?_
 refine sqp [.k 7 (.bool false)] ?_
 refine then_normal ?_
 refine wp_cutT (fun t_ az W=>∃ sl0:Int,∃ hot:Bool,sl0=(if 0≤rdF (pv n) j then rdF (pv n) j else j)∧hot=decide (0≤rdF (pv n) j)∧az=⟨(ovr (jv az) [(7,7,0,[.bool hot]),(0,8,1,[]),(4,13,7,[])] t_).toArray,[]⟩∧St w [] [eB B3_1 24 #[vi n,vi j],eMb Tryz.prog 3 4 M11_3 0 (fun _=>false),eB B6_6 24 #[vi n,vi sl0]] W) ?_ ?_
 ·refine wp_seq (sqr (sqp [.m 13 0] ?_))
  refine sqlb 0 2 hst7 ?_
  refine sqk (vi ((rdF (pv n) j))) hst7 (fun cx=>⟨_,hredirect_any _ _ pv n j _ (hS.ext cx.upd.to_ext),(map2 (cx.ou 13) (cx.ou 14))⟩) fun W12 hst12=>?_
  refine sqp [.m 8 15] ?_
  refine then_normal (wp_seq (sqr (sqp [.m 16 8, .k 17 (.bool (decide (0≤(rdF (pv n) j))))] ?_)))
  refine then_normal (wds (fun hs16 hs16p=>?_) fun hs16 hs16p=>?_)
  ·refine sqr (sqp [.m 18 8, .k 19 (.pointer (some ⟨B6_6,1,none⟩))] ?_)
   refine sqst (n:=1) 2 #[vi n,vi ((rdF (pv n) j))] hst12 fun W19 hst19=>?_
   refine sqp [.k 7 (.bool true)] ?_
   refine then_normal ?_
   exact ⟨(rdF (pv n) j),true,by rw [if_pos (by omega)],(decide_eq_true (by omega)).symm,(by kernel_rfl),hst19.pk [0,1,2]⟩
  refine wp_skip (then_normal ?_)
  exact ⟨j,false,by rw [if_neg (by omega)],(decide_eq_false (by omega)).symm,(by kernel_rfl),hst12.pk [0,1,2]⟩
 rintro a9 W9 ⟨sl0,hot,hsl0,hh0,hj_,hst9⟩
 refine ovz hj_ fun u9_=>?_
 obtain ⟨T,hT⟩:∃ T,chF (pv n) n j=T:=⟨_,rfl⟩
 rw [hT]
 rw [chF,← hsl0,← hh0] at hT
 have hrb:=rdF_bd (pv n) j
 refine wp_seq (wp_block ?_)
 have hn21:=nilrowN hst9 43 8
 simp only [List.cons_append,List.nil_append] at hn21
 have hsF_:St _ _ (_++[eFR []]) _:=St.emNil hn21
 simp only [List.cons_append,List.nil_append] at hsF_
 have hslr: -9223372036854775808≤sl0∧sl0≤9223372036854775807:=by rw [hsl0]; split<;>omega
 refine wp_loopT (fun t_ mz az W=>∃ seen:List Int,∃ m:Nat,∃ pg:Int,∃ sl:Int,∃ FA:Option Addr,∃ FC:Nat,∃ ks:List FK,seen.length=m∧ks.length=m∧seen.Nodup∧(∀ x∈seen,1≤x∧x < ((23:Nat):Int)+1)∧ks.map Prod.fst++chR (pv n) n hot (24 - m) seen pg sl=T∧(-9223372036854775808≤sl∧sl≤9223372036854775807)∧mz=24 - m∧az=⟨(ovr (jv az) [(4,4,0,[.slice FA m FC]),(4,9,2,[]),(9,20,44,[])] t_).toArray,[]⟩∧St w [] [eB B3_1 24 #[vi n,vi j],eB B6_6 24 #[vi pg,vi sl],eMb Tryz.prog 3 4 M11_3 m (inS seen),eO 43 8 (.slice FA m FC) m (ks.flatMap (cellsF n)),eFR ks] W) (24 - 0) ?_ ?_
 · -- the loop begins
   exact ⟨[],0,n,sl0,none,0,[],rfl,rfl,List.nodup_nil,(fun x hx=>by cases hx),hT,hslr,rfl,(by kernel_rfl),hsF_.pk [0,2,1,3,4]⟩
 rintro n22 a22 W22 ⟨seen,m,pg,sl,FA,FC,ks,hsm,hkm,hsn,hsr,hch,hsl,rfl,hj_,hst22⟩
 refine ovz hj_ fun u22_=>?_
 have hm23:m≤23:=by rw [← hsm]; exact nodup_len 23 seen hsn hsr
 refine wp_seq (wp_seq (sqr (sqp [.k 20 (vp B6_6)] ?_)))
 refine sqld 1 hst22 ?_
 refine sqp [.k 22 (vp B3_1)] ?_
 refine sqld 0 hst22 ?_
 refine sqp [.k 24 (.bool (pg==n)), .m 25 24] ?_
 refine sqw' 25 [26,27,28,29,30] ?_ rfl (fun hq=>?_) ?_
 rotate_left
 ·have hq_:=hq
  try simp only [zB] at hq_
  refine sqp [.m 26 5, .k 27 (.pointer (some ⟨B6_6,1,none⟩))] ?_
  refine sqld 1 hst22 ?_
  refine sql (.bool ((inS seen) sl)) hst22 (fun cx=>run_lookMb (k:=3) (e:=4) rfl (cx.ou 26) (cx.ou 28) (CtxV.mb cx (cx.init 2 _ rfl) rfl) (h0:=fun w=>by rfl) (hx:=by omega)) ?_
  refine sqp [.k 30 (.bool (!((inS seen) sl)))] ?_
  exact sqe
 refine sqwx ?_
 refine sqp [sPa 31 (pg==n) (!((inS seen) sl))] ?_
 refine then_normal (wbs (fun hs35=>?_) fun hs35=>?_)
 ·have hs35p:=hs35
  simp only [zB] at hs35p
  obtain ⟨hs35p1,hs35p2⟩:=hs35p
  refine wp_skip (then_normal (wp_block (wp_seq ?_)))
  obtain rfl:n=pg:=by omega
  refine sqr (sqp [.m 33 0] ?_)
  refine sqlb 1 2 hst22 ?_
  refine sqk2 (fun A35_38 c35_38=> .tuple #[.agg #[vi ((vD (atF (pv n) sl)).1),vi ((vD (atF (pv n) sl)).2.1),vi ((vD (atF (pv n) sl)).2.2.1),vi ((vD (atF (pv n) sl)).2.2.2.1), .bool ((vD (atF (pv n) sl)).2.2.2.2.1), .slice A35_38 ((vD (atF (pv n) sl)).2.2.2.2.2.length) c35_38], .bool ((atF (pv n) sl).isSome)]) (fun A35_38 c35_38=>eO 45 3 (.slice A35_38 ((vD (atF (pv n) sl)).2.2.2.2.2.length) c35_38) ((vD (atF (pv n) sl)).2.2.2.2.2.length) (flatR (vD (atF (pv n) sl)).2.2.2.2.2)) hst22 (fun cx=>⟨_,(hget_any _ _ pv n sl _ (hS.ext cx.upd.to_ext) (hN.ext cx.upd.to_ext)).mono (by rintro e W1 ⟨A4,c4,rfl,ho,hx⟩; exact ⟨_, _,rfl,St.one hx (eO_new ho)⟩),(map2 (cx.ou 33) (cx.ou 34))⟩) fun A35_38 c35_38 W38 hst38=>?_
  refine sqp [.m 32 35, .k 36 (.agg #[vi ((vD (atF (pv n) sl)).1),vi ((vD (atF (pv n) sl)).2.1),vi ((vD (atF (pv n) sl)).2.2.1),vi ((vD (atF (pv n) sl)).2.2.2.1), .bool ((vD (atF (pv n) sl)).2.2.2.2.1), .slice A35_38 ((vD (atF (pv n) sl)).2.2.2.2.2.length) c35_38]), .k 37 (.bool ((atF (pv n) sl).isSome))] ?_
  refine sqal #[vi 0,vi 0,vi 0,vi 0, .bool false, .slice none 0 0] hst38 fun B9_42 W42 hst42=>?_
  refine sqst (n:=6) 6 #[vi ((vD (atF (pv n) sl)).1),vi ((vD (atF (pv n) sl)).2.1),vi ((vD (atF (pv n) sl)).2.2.1),vi ((vD (atF (pv n) sl)).2.2.2.1), .bool ((vD (atF (pv n) sl)).2.2.2.2.1), .slice A35_38 ((vD (atF (pv n) sl)).2.2.2.2.2.length) c35_38] hst42 fun W43 hst43=>?_
  refine sqp [.m 10 37] ?_
  refine then_normal (wp_seq (wp_seq (sqr (sqp [.m 38 10, .k 39 (.bool (!((atF (pv n) sl).isSome))), .m 40 39] ?_))))
  refine sqw' 40 [41,42,43,44,45,46,47,48,49,50,51] ?_ rfl (fun hq=>?_) ?_
  rotate_left
  ·refine sqp [.m 41 7, .m 42 41] ?_
   refine sqw 42 [43,44,45] rfl (fun _=>sqp [.m 43 4, .k 44 (vi ((m:Int))), .k 45 (.bool (decide (0 < (m:Int))))] sqe) ?_
   refine sqp [sPo 46 hot (decide (0 < (m:Int))), .m 47 46] ?_
   refine sqw' 47 [48,49,50] ?_ rfl (fun hq=>?_) ?_
   rotate_left
   ·refine sqp [.k 48 (.pointer (some ⟨B9_42,4,none⟩))] ?_
    refine sqld 6 hst43 ?_
    refine sqp [.k 50 (.bool (!((vD (atF (pv n) sl)).2.2.2.2.1)))] ?_
    exact sqe
   refine sqwx ?_
   refine sqp [sPa 51 (hot||(decide (0 < (m:Int)))) (!((vD (atF (pv n) sl)).2.2.2.2.1))] ?_
   exact sqe
  refine sqwx ?_
  refine sqp [sPo 52 (!((atF (pv n) sl).isSome)) ((hot||(decide (0 < (m:Int))))&&(!((vD (atF (pv n) sl)).2.2.2.2.1)))] ?_
  refine then_normal (wbs (fun hs60=>?_) fun hs60=>?_)
  ·have hs60p:=hs60
   simp only [zB] at hs60p
   refine wp_exit (then_exit (blk_ne (by decide) (then_exit (blk_eq (then_normal (wp_seq (sqr (sqp [.m 64 4, .m 4 64] ?_))))))))
   refine then_normal (wp_ret ?_)
   refine bpr (.slice FA m FC) (results_1 Tryz.results33 rpt) ?_
   rw [chR_stop (by rw [hsm]; exact hs60),List.append_nil] at hch
   have hlm:m=T.length:=by rw [← hch,List.length_map,hkm]
   exact St.fk hch hlm (hst43.pick [4,3] (by decide) rfl)
  have hs60p:=hs60
  simp only [zB] at hs60p
  obtain ⟨hs60p1,hs60p2⟩:=hs60p
  refine wp_skip (then_normal (wp_seq ?_))
  have hso:(atF (pv n) sl).isSome=true:=by have h_:=hs60; cases h9_:(atF (pv n) sl).isSome with | true=>rfl | false=>rw [h9_] at h_; simp at h_
  have hsb:=atF_some hwf hso
  have hnb:=atF_next hwf sl
  obtain ⟨S,rfl⟩:∃ S:Nat,sl=(S:Int):=⟨sl.toNat,by omega⟩
  have hns:(S:Int)∉seen:=by intro h_; have h2_:=inS_mem.2 h_; have h3_:=hs35; rw [h2_] at h3_; simp at h3_
  have hsr2:∀ x∈(S:Int)::seen,1≤x∧x < ((23:Nat):Int)+1:=fun x hx=>by
   rcases List.mem_cons.1 hx with rfl | h_
   ·omega
   ·exact hsr x h_
  have hmm:m+1≤23:=by rw [← hsm]; exact nodup_len 23 ((S:Int)::seen) (List.nodup_cons.2 ⟨hns,hsn⟩) hsr2
  refine sqr (sqp [.m 53 5, .k 54 (.pointer (some ⟨B6_6,1,none⟩))] ?_)
  refine sqld 1 hst43 ?_
  refine sqc (eMb Tryz.prog 3 4 M11_3 (m+1) (inS ((S:Int)::seen))) 2 hst43 (by
    refine svA fun ρ β W X cx=>?_
    exact dv_setMb (.inl rfl) (cx.ou 53) (cx.ou 55) (cx.co _) cx (cx.init 2 _ rfl) rfl (by omega) (by omega) rfl rfl rfl (fun σ β' X' hs hb hx=>hx)) fun W66 hst66=>?_
  refine then_normal (wp_seq (sqr (sqp [.m 56 4] ?_)))
  refine sqlb 1 2 hst66 ?_
  refine sqlb 6 6 hst66 ?_
  refine sqp [.k 59 (.agg #[vi n,vi (S:Int),vi ((vD (atF (pv n) (S:Int))).1),vi ((vD (atF (pv n) (S:Int))).2.1),vi ((vD (atF (pv n) (S:Int))).2.2.1),vi ((vD (atF (pv n) (S:Int))).2.2.2.1), .bool ((vD (atF (pv n) (S:Int))).2.2.2.2.1), .slice A35_38 ((vD (atF (pv n) (S:Int))).2.2.2.2.2.length) c35_38])] ?_
  refine sqli 43 8 1 (cellsF n ((S,vD (atF (pv n) (S:Int))),A35_38,c35_38)) hst66 (@fun ρ β W X cx=>by have fF59:ρ (.tmp 59)= .agg #[vi n,vi (S:Int),vi ((vD (atF (pv n) (S:Int))).1),vi ((vD (atF (pv n) (S:Int))).2.1),vi ((vD (atF (pv n) (S:Int))).2.2.1),vi ((vD (atF (pv n) (S:Int))).2.2.2.1), .bool ((vD (atF (pv n) (S:Int))).2.2.2.2.1), .slice A35_38 ((vD (atF (pv n) (S:Int))).2.2.2.2.2.length) c35_38]:=(cx.ou 59); simp [go_sem,fF59,cellsF]) fun B60_71 W71 hst71=>?_
  refine sqap (m+1) ((ks++[((S,vD (atF (pv n) (S:Int))),A35_38,c35_38)]).flatMap (cellsF n)) 3 hst71 Tryz.infoFnd (fun cx=>(At.of_ownN (cx.ri 7 rfl))) (h1:=by simp [cellsF,Value.oneCell']) (hxs:=found_snoc _ _ _) fun A61_72 c61_72 W72 hst72=>?_
  refine sqp [.m 4 61] ?_
  refine then_normal (sqr (sqp [.k 62 (.pointer (some ⟨B9_42,2,none⟩))] ?_))
  refine sqlb 6 2 hst72 ?_
  refine sqst (n:=2) 1 #[vi ((vD (atF (pv n) (S:Int))).2.2.1),vi ((vD (atF (pv n) (S:Int))).2.2.2.1)] hst72 fun W76 hst76=>?_
  refine blk_normal (then_normal ?_)
  have hmF77:=St.mergeF (s:=S) (v:=vD (atF (pv n) (S:Int))) (A:=A35_38) (c:=c35_38) (ks:=ks) (L:=[eB B3_1 24 #[vi n,vi j],eB B6_6 24 #[vi ((vD (atF (pv n) (S:Int))).2.2.1),vi ((vD (atF (pv n) (S:Int))).2.2.2.1)],eMb Tryz.prog 3 4 M11_3 (m+1) (inS ((S:Int)::seen)),eO 43 8 (.slice A61_72 (m+1) c61_72) (m+1) ((ks++[((S,vD (atF (pv n) (S:Int))),A35_38,c35_38)]).flatMap (cellsF n)),eB B9_42 41 #[vi ((vD (atF (pv n) (S:Int))).1),vi ((vD (atF (pv n) (S:Int))).2.1),vi ((vD (atF (pv n) (S:Int))).2.2.1),vi ((vD (atF (pv n) (S:Int))).2.2.2.1), .bool ((vD (atF (pv n) (S:Int))).2.2.2.2.1), .slice A35_38 ((vD (atF (pv n) (S:Int))).2.2.2.2.2.length) c35_38],eO 43 8 (.slice ((some ⟨B60_71,0,none⟩)) 1 1) 1 (cellsF n ((S,vD (atF (pv n) (S:Int))),A35_38,c35_38))]) (hst76.pick [0,1,2,3,6,7,4,5] (by decide) rfl)
  simp only [List.cons_append,List.nil_append] at hmF77
  refine ⟨24 - ((m+1)),by omega,?_⟩
  exact ⟨((S:Int)::seen),(m+1),(vD (atF (pv n) (S:Int))).2.2.1,(vD (atF (pv n) (S:Int))).2.2.2.1,A61_72,c61_72,(ks++[((S,vD (atF (pv n) (S:Int))),A35_38,c35_38)]),by rw [List.length_cons,hsm],by rw [List.length_append,hkm]; rfl,List.nodup_cons.2 ⟨hns,hsn⟩,hsr2,by rw [← hch,chR_go (by omega) hs35 (by rw [hsm]; exact hs60),List.map_append,List.append_assoc,show 24 - m - 1=24 - (m+1) by omega]; rfl,⟨by omega,by omega⟩,rfl,(by kernel_rfl),hmF77.pk [0,1,2,3,6]⟩
 have hs35p:=hs35
 simp only [zB] at hs35p
 refine wp_exit (then_exit (then_exit (blk_eq (then_normal (wp_seq (sqr (sqp [.m 64 4, .m 4 64] ?_)))))))
 refine then_normal (wp_ret ?_)
 refine bpr (.slice FA m FC) (results_1 Tryz.results33 rpt) ?_
 rw [chR_no hs35,List.append_nil] at hch
 have hlm:m=T.length:=by rw [← hch,List.length_map,hkm]
 exact St.fk hch hlm (hst22.pick [4,3] (by decide) rfl)
theorem hchain_any (tt:TypeId) (tv:Value) (pv:Int→PV) (n j:Int) (w:World) (hS:PgsOk w tt tv pv) (hN:NoneAt w) (hj: -9223372036854775808≤j∧j≤9223372036854775807):
  Calls Tryz.prog 33 #[.iface tt (tv), .agg #[.int .i64 n, .int .i64 j]] w (LPost 43 (chF (pv n) n j) n w):=
 (hchainR_any tt tv pv n j w hS hN hj).mono fun e w2 h=>h.weak
end
section
open Go.RowKit
/-- is the slot a root? -/
def rootB (v:PV) (j:Nat):Bool:=((atF v j).isSome&&!((vD (atF v j)).2.2.2.2.1))||decide (0≤rdF v j)
def rtL (v:PV) (j:Nat):List Nat:=(List.range j).filter fun i=>decide (0 < i)&&rootB v i
def cellsR (n:Int) (j:Nat):List Value:=[.int .i64 n, .int .i64 (j:Int)]
theorem cellsR_len (n:Int) (j:Nat):(cellsR n j).length=2:=rfl
theorem rt_hit {v:PV} {j:Nat} (h0:0 < j) (h:rootB v j=true):rtL v (j+1)=rtL v j++[j]:=by
 rw [rtL,List.range_succ,List.filter_append,List.filter_cons_of_pos (by rw [h,decide_eq_true h0]; rfl)]; rfl
theorem rt_miss {v:PV} {j:Nat} (h:rootB v j=false):rtL v (j+1)=rtL v j:=by
 rw [rtL,List.range_succ,List.filter_append,List.filter_cons_of_neg (by rw [h,Bool.and_false]; decide),List.filter_nil,List.append_nil]; rfl
theorem rt_le (v:PV) (j:Nat):(rtL v j).length≤j:=Nat.le_trans (List.length_filter_le _ _) (by rw [List.length_range]; exact Nat.le_refl _)
theorem rt_mem {v:PV} {j i:Nat} (h:i∈rtL v j):0 < i∧i < j∧rootB v i=true:=by
 rw [rtL,List.mem_filter,List.mem_range,Bool.and_eq_true,decide_eq_true_eq] at h
 exact ⟨h.2.1,h.1,h.2.2⟩
def RtPost (l:List Nat) (n:Int) (w:World) (e:Ending) (w':World):Prop:=∃ A c,e= .returned (.slice A l.length c)∧w'.ownsRow w.heap.size 24 2 (.slice A l.length c) l.length (l.flatMap (cellsR n))∧Ext w w'
theorem rt_snoc (l:List Nat) (n:Int) (j:Nat):l.flatMap (cellsR n)++cellsR n j=(l++[j]).flatMap (cellsR n):=by simp
theorem infoTIDr:(Tryz.prog.info? 24).map (fun i=>(i.zero,i.size,i.bytes))=some (some (.agg #[.int .i64 0, .int .i64 0]),2,16):=by kernel_rfl
theorem hlead_any (x:Int) (w:World) (hx:0≤x∧x < 256):
  Calls Tryz.prog 137 #[.int .i64 x] w (Ret (.string (strOfNums [0,x])) w):=by
 go_enter Tryz.func137,Tryz.ntmps137
 have hst0:=St.start w
 refine wp_seq (sqr (sqp [.k 2 (.string ⟨#[]⟩)] ?_))
 refine then_normal (wp_seq (sqr (sqp [.m 3 0,sW 4 .u8 x x (IntWalk.u8_in _ (by omega))] ?_)))
 refine sqn1 (fun x_=>sA x_) (fun A5_4=> .slice A5_4 2 2) (fun A5_4=>eO 5 1 (.slice A5_4 2 2) 2 ([.int .u8 0, .int .u8 x])) hst0 (by
   refine svA fun ρ β W X cx=>?_
   have fF4:ρ (.tmp 4)= .int .u8 x:=(cx.ou 4)
   exact dv_lit (e:=5) (xs:=[.int .u8 0, .int .u8 x]) rfl (by simp [go_sem,fF4,cx.sees.const]) rfl (by decide) rfl rfl (fun σ β' X' hs hb hv hx=>⟨hv,hx⟩)) fun A5_4 W4 hst4=>?_
 refine sql (.string (strOfNums ([0,x]))) hst4 (fun cx=>run_convB (e:=5) rfl (by kernel_rfl) (by kernel_rfl) (by kernel_rfl) (cx.ou 5) (cx.ri 0 rfl)) ?_
 refine sqp [.m 2 6] ?_
 refine then_normal (wp_ret ?_)
 refine bpr (.string (strOfNums ([0,x]))) (results_1 Tryz.results137 rpt) ?_
 exact Ret.of rfl hst4.ext
theorem hroots_any (tt:TypeId) (tv:Value) (pv:Int→PV) (n:Int) (w:World) (hS:PgsOk w tt tv pv) (hN:NoneAt w):
  Calls Tryz.prog 63 #[.iface tt (tv), .int .i64 n] w (RtPost (rtL (pv n) 24) n w):=by
 go_enter Tryz.func63,Tryz.ntmps63
 have hst0:=St.start w
 refine wp_seq (sqr (sqp [.k 4 (.slice none 0 0)] ?_))
 refine then_normal (wp_seq (wp_seq (sqr (sqp [.k 5 (vi 1)] ?_))))
 refine then_normal (wp_block ?_)
 have hn3:=nilrowN hst0 24 2
 simp only [List.cons_append,List.nil_append] at hn3
 refine wp_loopT (fun t_ mz az W=>∃ j:Nat,∃ m:Nat,∃ TA:Option Addr,∃ TC:Nat,(1≤j∧j≤24)∧m=(rtL (pv n) j).length∧mz=24 - j∧az=⟨(ovr (jv az) [(4,4,0,[.slice TA m TC,vi ((j:Int))]),(0,6,32,[])] t_).toArray,[]⟩∧St w [] [eO 24 2 (.slice TA m TC) m ((rtL (pv n) j).flatMap (cellsR n))] W) (24 - 1) ?_ ?_
 · -- the loop begins
   exact ⟨1,0,none,0,by decide,rfl,rfl,(by kernel_rfl),hn3.pk [0]⟩
 rintro n4 a4 W4 ⟨j,m,TA,TC,hj,hm,rfl,hj_,hst4⟩
 refine ovz hj_ fun u4_=>?_
 have hml:=rt_le (pv n) j
 rw [← hm] at hml
 refine wp_seq (wp_seq (sqr (sqp [.m 9 5, .k 10 (.bool (decide ((j:Int) < 24)))] ?_)))
 refine then_normal (wds (fun hs7 hs7p=>?_) fun hs7 hs7p=>?_)
 ·refine wp_skip (then_normal (wp_seq (wp_block (wp_seq (sqr (sqp [.m 13 1, .m 14 5, .k 15 (.agg #[vi n,vi ((j:Int))])] ?_))))))
  refine sqal #[vi 0,vi 0] hst4 fun B6_11 W11 hst11=>?_
  refine sqst (n:=2) 1 #[vi n,vi ((j:Int))] hst11 fun W12 hst12=>?_
  refine then_normal (wp_seq (sqr (sqp [.m 17 0] ?_)))
  refine sqlb 1 2 hst12 ?_
  refine sqk2 (fun A19_15 c19_15=> .tuple #[.agg #[vi ((vD (atF (pv n) (j:Int))).1),vi ((vD (atF (pv n) (j:Int))).2.1),vi ((vD (atF (pv n) (j:Int))).2.2.1),vi ((vD (atF (pv n) (j:Int))).2.2.2.1), .bool ((vD (atF (pv n) (j:Int))).2.2.2.2.1), .slice A19_15 ((vD (atF (pv n) (j:Int))).2.2.2.2.2.length) c19_15], .bool ((atF (pv n) (j:Int)).isSome)]) (fun A19_15 c19_15=>eO 45 3 (.slice A19_15 ((vD (atF (pv n) (j:Int))).2.2.2.2.2.length) c19_15) ((vD (atF (pv n) (j:Int))).2.2.2.2.2.length) (flatR (vD (atF (pv n) (j:Int))).2.2.2.2.2)) hst12 (fun cx=>⟨_,(hget_any _ _ pv n (j:Int) _ (hS.ext cx.upd.to_ext) (hN.ext cx.upd.to_ext)).mono (by rintro e W1 ⟨A4,c4,rfl,ho,hx⟩; exact ⟨_, _,rfl,St.one hx (eO_new ho)⟩),(map2 (cx.ou 17) (cx.ou 18))⟩) fun A19_15 c19_15 W15 hst15=>?_
  refine sqp [.m 16 19, .k 20 (.agg #[vi ((vD (atF (pv n) (j:Int))).1),vi ((vD (atF (pv n) (j:Int))).2.1),vi ((vD (atF (pv n) (j:Int))).2.2.1),vi ((vD (atF (pv n) (j:Int))).2.2.2.1), .bool ((vD (atF (pv n) (j:Int))).2.2.2.2.1), .slice A19_15 ((vD (atF (pv n) (j:Int))).2.2.2.2.2.length) c19_15]), .k 21 (.bool ((atF (pv n) (j:Int)).isSome))] ?_
  refine sqal #[vi 0,vi 0,vi 0,vi 0, .bool false, .slice none 0 0] hst15 fun B7_19 W19 hst19=>?_
  refine sqst (n:=6) 3 #[vi ((vD (atF (pv n) (j:Int))).1),vi ((vD (atF (pv n) (j:Int))).2.1),vi ((vD (atF (pv n) (j:Int))).2.2.1),vi ((vD (atF (pv n) (j:Int))).2.2.2.1), .bool ((vD (atF (pv n) (j:Int))).2.2.2.2.1), .slice A19_15 ((vD (atF (pv n) (j:Int))).2.2.2.2.2.length) c19_15] hst19 fun W20 hst20=>?_
  refine sqp [.m 8 21] ?_
  refine then_normal (wp_seq (sqr (sqp [.m 22 8, .m 23 22] ?_)))
  refine sqw' 23 [24,25,26] ?_ rfl (fun hq=>?_) ?_
  rotate_left
  ·refine sqp [.k 24 (.pointer (some ⟨B7_19,4,none⟩))] ?_
   refine sqld 3 hst20 ?_
   refine sqp [.k 26 (.bool (!((vD (atF (pv n) (j:Int))).2.2.2.2.1)))] ?_
   exact sqe
  refine sqwx ?_
  refine sqp [sPa 27 ((atF (pv n) (j:Int)).isSome) (!((vD (atF (pv n) (j:Int))).2.2.2.2.1)), .m 28 27] ?_
  refine sqwW 28 [29,30,31,32] ?_ hst20 rfl (fun hq=>?_) fun W33 hst33=>?_
  rotate_left
  ·refine sqp [.m 29 0] ?_
   refine sqlb 1 2 hst20 ?_
   refine sqk (vi ((rdF (pv n) (j:Int)))) hst20 (fun cx=>⟨_,hredirect_any _ _ pv n (j:Int) _ (hS.ext cx.upd.to_ext),(map2 (cx.ou 29) (cx.ou 30))⟩) fun W31 hst31=>?_
   refine sqp [.k 32 (.bool (decide (0≤(rdF (pv n) (j:Int)))))] ?_
   exact sqE hst31
  refine sqwx ?_
  refine sqp [sPo 33 (((atF (pv n) (j:Int)).isSome)&&(!((vD (atF (pv n) (j:Int))).2.2.2.2.1))) (decide (0≤(rdF (pv n) (j:Int))))] ?_
  refine then_normal (wbs (fun hs35=>?_) fun hs35=>?_)
  ·have hs35p:=hs35
   simp only [zB] at hs35p
   refine sqr (sqp [.m 34 4] ?_)
   refine sqlb 1 2 hst33 ?_
   refine sqli 24 2 1 (cellsR n j) hst33 (@fun ρ β W X cx=>by have fF35:ρ (.tmp 35)= .agg #[vi n,vi ((j:Int))]:=(cx.ou 35); simp [go_sem,fF35,cellsR]) fun B36_38 W38 hst38=>?_
   refine sqap (m+1) ((rtL (pv n) j++[j]).flatMap (cellsR n)) 0 hst38 infoTIDr (fun cx=>(At.of_ownN (cx.ri 4 rfl))) (h1:=by simp [cellsR,Value.oneCell']) (hxs:=rt_snoc _ _ _) fun A37_39 c37_39 W39 hst39=>?_
   refine sqp [.m 4 37] ?_
   refine blk_normal (then_normal (sqr (sqp [.m 11 5,sI 12 ((j:Int)+1) (by omega), .m 5 12] ?_)))
   refine then_normal ?_
   rw [← rt_hit (by omega) (show rootB (pv n) j=true from hs35)] at hst39
   refine ⟨24 - ((j+1)),by omega,?_⟩
   exact ⟨(j+1),(m+1),A37_39,c37_39,by omega,by rw [rt_hit (by omega) hs35,List.length_append,hm]; rfl,rfl,(by kernel_rfl),hst39.pk [0]⟩
  have hs35p:=hs35
  simp only [zB] at hs35p
  obtain ⟨hs35p1,hs35p2⟩:=hs35p
  refine wp_skip (blk_normal (then_normal (sqr (sqp [.m 11 5,sI 12 ((j:Int)+1) (by omega), .m 5 12] ?_))))
  refine then_normal ?_
  rw [← rt_miss (show rootB (pv n) j=false from hs35)] at hst33
  refine ⟨24 - ((j+1)),by omega,?_⟩
  exact ⟨(j+1),m,TA,TC,by omega,by rw [rt_miss (show rootB (pv n) j=false from hs35)]; exact hm,rfl,(by kernel_rfl),hst33.pk [0]⟩
 refine wp_exit (then_exit (then_exit (blk_eq (then_normal (wp_seq (sqr (sqp [.m 38 4, .m 4 38] ?_)))))))
 refine then_normal (wp_ret ?_)
 refine bpr (.slice TA m TC) (results_1 Tryz.results63 rpt) ?_
 have hj24:j=24:=by omega
 subst hj24
 have ho_:=hst4.own' 0 rfl
 unfold RtPost
 rw [← hm]
 exact ⟨_, _,rfl,ho_,hst4.ext⟩
end
section
open Go.RowKit
def putL (xs:List Value) (off:Nat):List Value→List Value
 | []=>xs
 | v::l=>putL (xs.set off v) (off+1) l
theorem putL_mid:∀ (vs A B C:List Value),B.length=vs.length→putL (A++(B++C)) A.length vs=A++(vs++C)
 | [],A,B,C,h=>by
   obtain rfl:B=[]:=List.eq_nil_of_length_eq_zero h
   rfl
 | v::vs,A,[],C,h=>by simp at h
 | v::vs,A,b::B,C,h=>by
   rw [putL]
   have e:(A++(b::B++C)).set A.length v=(A++[v])++(B++C):=by simp
   have e2:A.length+1=(A++[v]).length:=by simp
   rw [e,e2,putL_mid vs (A++[v]) B C (by simpa using h)]
   simp
theorem putL_flat {T:Type} {f:T→List Value} {sz:Nat} (hf:∀ t,(f t).length=sz) {ts:List T} {m:Nat} (h:m < ts.length) (t:T):putL (ts.flatMap f) (m*sz) (f t)=(ts.set m t).flatMap f:=by
 have hl:∀ l:List T,(l.flatMap f).length=l.length*sz:=fun l=>by
  induction l with
  | nil=>simp
  | cons a l ih=>rw [List.flatMap_cons,List.length_append,ih,hf,List.length_cons,Nat.add_mul]; omega
 have e:ts=ts.take m++(ts[m]::ts.drop (m+1)):=by rw [← List.drop_eq_getElem_cons h,List.take_append_drop]
 have e2:ts.set m t=ts.take m++(t::ts.drop (m+1)):=by rw [List.set_eq_take_append_cons_drop,if_pos h]
 have e3:m*sz=((ts.take m).flatMap f).length:=by rw [hl,List.length_take,Nat.min_eq_left (by omega)]
 have e4:ts.flatMap f=(ts.take m).flatMap f++(f ts[m]++(ts.drop (m+1)).flatMap f):=by
  conv=>lhs; rw [e]
  rw [List.flatMap_append,List.flatMap_cons]
 rw [e2,e4,List.flatMap_append,List.flatMap_cons,e3,putL_mid _ _ _ _ (by rw [hf,hf])]
section
variable {P:Program} {ops:Array Oper} {L:List Nat} {a0:Act} {w0:World} {bor:List Nat} {X0:List Ent} {us cr kl:List (List Nat)}
 {D:Nat→(Tmp→Value)→(Tmp→Value)→(Nat→Ent)→Prop} {i:Nat} {o:Oper} {ρ:Operand→Value} {β:Tmp→Value} {W:World} {X:Nat→Ent}
theorem run_storeRowCells {g e sz n c:Nat}:∀ (vs:List Value) (m i:Nat) (xs:List Value) (W:World),W.ownsRow 0 e sz (.slice (some ⟨g,0,none⟩) n c) n xs→m+i+vs.length≤n*sz→(∀ v∈vs,v.oneCell'=true)→
  ∃ W',(storeCells ⟨g,m,none⟩ vs i).run P W= .ok () W'∧Upd [g] W W'∧W'.ownsRow 0 e sz (.slice (some ⟨g,0,none⟩) n c) n (putL xs (m+i) vs):=by
 intro vs
 induction vs with
 | nil=>intro m i xs W hb _ _; exact ⟨W,rfl,Upd.refl _ _,hb⟩
 | cons v vs ih=>
   intro m i xs W hown hle h1
   simp only [List.length_cons] at hle
   have hlen:xs.length=n*sz:=hown.1
   have hcell:W.cell? ⟨g,m+i,none⟩=some (xs[m+i]'(by omega)):=by
    rw [hown.cellAt (m+i) (by omega)]
    exact List.getElem?_eq_getElem (by omega)
   have hfz:=hown.frozenAt (m+i)
   have hst:=(hown.stored (m+i) v).1
   obtain ⟨W',h2,h3,h4⟩:=ih m (i+1) (xs.set (m+i) v) (W.setCell ⟨g,m+i,none⟩ v) hst (by omega) (fun x hx=>h1 x (by simp [hx]))
   refine ⟨W',?_,((Upd.refl [g] W).set (.inl (by simp)) v).trans h3,h4⟩
   unfold storeCells
   have hv:=h1 v (by simp)
   have hs1:(store ((⟨g,m,none⟩:Addr).add i) v).run P W= .ok () (W.setCell ⟨g,m+i,none⟩ v):=by
    rw [Addr.add_lit]
    unfold store
    cases v<;>first | (simp [Value.oneCell'] at hv; done) | (simp [Sem.run,hcell,hfz])
   simp only [Sem.run_bind,hs1,Result.andThen_ok,h2]
theorem dv_storeElt {t e sz k:Nat} {x y:Operand} {A:Option Addr} {n c m q q':Nat} {v:Value} {xs:List Value} (h:o.op= .store t x y) (hx:ρ x= .pointer (some ((ad A).add m))) (hy:ρ y=v) (hz:szP P t=some k) (hn:v.cells.size=k)
  (h1:v.cells.toList.all Value.oneCell'=true) (cx:CtxV ops L a0 w0 bor X0 us D i ρ β W X) (hX:X q=eO e sz (.slice A n c) n xs) (hu:(atV us i).contains q=true) (hm:m+k≤n*sz) (hk0:0 < k) (hd:o.dst=none) {xs':List Value} (hxs:putL xs m v.cells.toList=xs')
  (hc:atV cr i=[q']) (hk:atV kl i=[q]) (hD:∀ (σ β':Tmp→Value) (X':Nat→Ent),(∀ t,σ t=ρ (.tmp t))→(∀ t,β' t=β t)→X' q'=eO e sz (.slice A n c) n xs'→D i σ β' X'):DoesU P o ρ W (PostV cr kl D i o.dst ρ β W X):=by
 subst hxs
 have hok:=cx.ok q hu
 rw [hX] at hok
 have hown:W.ownsRow 0 e sz (.slice A n c) n xs:=hok.holds
 obtain ⟨g,rfl⟩:∃ g,A=some ⟨g,0,none⟩:=by
  rcases hown.2 with ⟨hv,hm0⟩ | ⟨g,cap,cur,hv, _⟩
  ·subst hm0; rw [Nat.zero_mul] at hm; omega
  ·injection hv with h1 h2 h3; exact ⟨g,h1⟩
 have hadd:(ad (some ⟨g,0,none⟩)).add m=⟨g,m,none⟩:=by rw [ad,Option.getD_some,Addr.add_lit,Nat.zero_add]
 obtain ⟨W',h2,h3,h4⟩:=run_storeRowCells (P:=P) v.cells.toList m 0 xs W hown (by simp [hn]; exact hm) (fun u hu=>List.all_eq_true.1 h1 u hu)
 have hrun:(execOp ρ o).run P W= .ok .skip W':=by
  unfold execOp; rw [h]
  simp only [hx,hy,hadd,Instr.storeAt,Instr.sureAddr,storeVar,Sem.run_bind,Sem.run_pure,Result.andThen_ok,run_size hz,hn,ne_eq,not_true_eq_false,if_false]
  rw [h2]
  rfl
 rw [Nat.add_zero] at h4
 refine DoesU.skip hrun ⟨[eO e sz (.slice (some ⟨g,0,none⟩) n c) n (putL xs m v.cells.toList)],by rw [hc]; rfl,⟨?_,fun e' he=>?_,List.pairwise_singleton _ _⟩,fun σ β' X' hs hv hb' hbv hx' hN=>hD σ β' X' (fun t=>hs t (by rw [hd]; simp)) (fun t=>hb' t (by rw [hd]; simp)) ?_⟩
 ·rw [hk]
  simp only [List.flatMap_cons,List.flatMap_nil,List.append_nil,hX]
  exact h3.mono (fun k _ hk'=>by simp at hk'; subst hk'; simp [eO,Value.ownBlock])
 ·rw [List.mem_singleton] at he
  subst he
  refine ⟨h4,eO_loc _ _ _ _ _,fun k hk'=>?_⟩
  have hkg:k=g:=by simpa [eO,Value.ownBlock] using hk'
  subst hkg
  refine ⟨.inl ?_,own0_block h4 k (by simp [Value.ownBlock])⟩
  rw [hk]
  simp [hX,eO,Value.ownBlock]
 ·rw [hc] at hN
  exact (List.cons.inj hN).1
end
end
section
open Go.RowKit
def eFnd (t:TypeId) (v:Value) (l:List (Nat×VerD)) (n:Int):Ent:=⟨v.ownBlock.toList,fun W=>∃ ks:List FK,ks.map Prod.fst=l∧W.ownsRow 0 t 8 v l.length (ks.flatMap (cellsF n))⟩
theorem eFnd_loc (t:TypeId) (v:Value) (l:List (Nat×VerD)) (n:Int):(eFnd t v l n).loc:=fun W W' hk h=>by
 obtain ⟨ks,h1,h2⟩:=h
 exact ⟨ks,h1,eO_loc t 8 v l.length (ks.flatMap (cellsF n)) W W' hk h2⟩
theorem eFnd_new {W W':World} {t:TypeId} {v:Value} {l:List (Nat×VerD)} {n:Int} {ks:List FK} (hk:ks.map Prod.fst=l) (h:W'.ownsRow W.heap.size t 8 v l.length (ks.flatMap (cellsF n))):
  (eFnd t v l n).holds W'∧(eFnd t v l n).loc∧∀ k∈(eFnd t v l n).fp,W.heap.size≤k∧k < W'.heap.size:=by
 have h2:=eO_new (W:=W) h
 exact ⟨⟨ks,hk,h2.1⟩,eFnd_loc _ _ _ _,h2.2.2⟩
end
section
open Go.RowKit
def idxP {α:Type} (p:α→Bool) (k:Int):List α→Int
 | []=> -1
 | x::l=>if p x then k else idxP p (k+1) l
theorem idxP_at {α:Type} {p:α→Bool} {l:List α} {x:α} {k:Nat} (h:l[k]? =some x):idxP p (k:Int) (l.drop k)=if p x then (k:Int) else idxP p ((k+1:Nat):Int) (l.drop (k+1)):=by
 obtain ⟨hk,rfl⟩:=List.getElem?_eq_some_iff.1 h
 rw [List.drop_eq_getElem_cons hk,idxP]; rfl
theorem idxP_any {α:Type} (p:α→Bool) (l:List α):∀ k:Int,0≤k→decide (0≤idxP p k l)=l.any p:=by
 induction l with
 | nil=>intro k _; rfl
 | cons x l ih=>
   intro k hk
   rw [idxP,List.any_cons]
   cases p x with
   | true=>rw [if_pos rfl,Bool.true_or]; exact decide_eq_true hk
   | false=>rw [if_neg (by decide),Bool.false_or]; exact ih (k+1) (by omega)
/-- where it is found, and that nothing ahead of it fits -/
theorem idxP_spec {α:Type} (p:α→Bool):∀ (l:List α) (k:Nat),(idxP p (k:Int) l= -1∧l.any p=false)∨∃ i:Nat,i < l.length∧idxP p (k:Int) l=((k+i:Nat):Int)∧(l.take i).any p=false∧∃ x,l[i]? =some x∧p x=true
 | [],k=> .inl ⟨rfl,rfl⟩
 | x::l,k=>by
   rw [idxP]
   cases hx:p x with
   | true=>exact .inr ⟨0,by simp,by rw [if_pos rfl]; simp,rfl,x,rfl,hx⟩
   | false=>
     rw [if_neg (by decide)]
     rcases idxP_spec p l (k+1) with ⟨h1,h2⟩ | ⟨i,h1,h2,h3,y,h4,h5⟩
     ·exact .inl ⟨by rw [show ((k:Int)+1)=((k+1:Nat):Int) by omega]; exact h1,by rw [List.any_cons,hx,h2]; rfl⟩
     ·refine .inr ⟨i+1,by simpa using h1,by rw [show ((k:Int)+1)=((k+1:Nat):Int) by omega,h2]; omega,by rw [List.take_succ_cons,List.any_cons,hx,h3]; rfl,y,by simpa using h4,h5⟩
theorem getF {ks:List FK} {k:Nat} (h:k < ks.length):∃ x a c,ks[k]? =some (x,a,c):=⟨ks[k].1,ks[k].2.1,ks[k].2.2,List.getElem?_eq_getElem h⟩
theorem gidx_any (FA:Option Addr) (fc:Nat) (n:Int) (ks:List FK) (f0:FuncId) (cap:Array Value) (p:FK→Bool) (w:World) (hF:At w FA (ks.flatMap (cellsF n))) (hl:ks.length≤100000) (hcf:callP Tryz.prog f0=true) (hf:∀ (W:World) (k:FK),Ext w W→Calls Tryz.prog f0 (#[.agg #[.int .i64 n, .int .i64 (k.1.1:Int), .int .i64 k.1.2.1, .int .i64 k.1.2.2.1, .int .i64 k.1.2.2.2.1, .int .i64 k.1.2.2.2.2.1, .bool k.1.2.2.2.2.2.1, .slice k.2.1 k.1.2.2.2.2.2.2.length k.2.2]]++cap) W (Ret (.bool (p k)) W)):
  Calls Tryz.prog 64 #[.slice FA ks.length fc, .func (.func f0) #[] cap] w (Ret (.int .i64 (idxP p 0 ks)) w):=by
 go_enter Tryz.func64,Tryz.ntmps64
 have hst0:=St.start w
 refine wp_seq (sqr (sqp [.k 4 (vi 0)] ?_))
 refine then_normal (wp_seq (wp_seq (sqr (sqp [.m 6 0, .k 7 (vi ((ks.length:Int))), .k 8 (vi 0)] ?_))))
 refine then_normal (wp_block ?_)
 refine wp_loopT (fun t_ mz az W=>∃ k:Nat,k≤ks.length∧idxP p 0 ks=idxP p (k:Int) (ks.drop k)∧mz=ks.length - k∧az=⟨(ovr (jv az) [(4,4,2,[]),(2,8,0,[vi ((k:Int))]),(0,9,10,[])] t_).toArray,[]⟩∧St w [] [] W) (ks.length - 0) ?_ ?_
 · -- the loop begins
   exact ⟨0,Nat.zero_le _,rfl,rfl,(by kernel_rfl),hst0.pk []⟩
 rintro n5 a5 W5 ⟨k,hk,hkr,rfl,hj_,hst5⟩
 refine ovz hj_ fun u5_=>?_
 refine wp_seq (sqr (sqp [.k 9 (.bool (decide ((k:Int) < (ks.length:Int))))] ?_))
 refine then_normal (wp_seq (wds (fun hs7 hs7p=>?_) fun hs7 hs7p=>?_))
 ·refine wp_skip (then_normal (wp_seq (wp_block (wp_seq (sqr (sqp [.m 10 8, .m 5 10] ?_))))))
  refine then_normal (wp_seq ?_)
  obtain ⟨fx,fA,fC,hkj⟩:=getF (ks:=ks) (k:=k) (by omega)
  refine sqr (sqp [.m 11 1, .m 12 0, .m 13 5] ?_)
  refine sql (.pointer (some ((ad FA).add (k*8)))) hst5 (fun cx=>run_indexSlM (e:=43) (m:=k) (sz:=8) rfl (by kernel_rfl) (by kernel_rfl) (cx.ou 12) (cx.ou 13) (by omega) (by omega) (hF.ext cx.upd.to_ext) (flatPos (sz:=8) (cellsF_len n) (by decide) (by omega))) ?_
  refine sql (.agg #[vi n,vi ((fx.1:Int)),vi fx.2.1,vi fx.2.2.1,vi fx.2.2.2.1,vi fx.2.2.2.2.1, .bool fx.2.2.2.2.2.1, .slice fA fx.2.2.2.2.2.2.length fC]) hst5 (fun cx=>run_loadElt (f:=(cellsF n)) (m:=k) (sz:=8) (off:=0) (n:=8) rfl (by kernel_rfl) (by kernel_rfl) (cx.ou 14) rfl (cellsF_len n) (hF.ext cx.upd.to_ext) hkj (fun k hk=>match k,hk with | 0, _=>rfl | 1, _=>rfl | 2, _=>rfl | 3, _=>rfl | 4, _=>rfl | 5, _=>rfl | 6, _=>rfl | 7, _=>rfl | k+8,hk=>absurd hk (by omega))) ?_
  refine sqv (.bool ((p (fx,fA,fC)))) hst5 (sv_call rfl rfl rfl rfl rfl (fun _ _ _ h=>h) fun ρ β W X cx=>⟨_, _,run_callV (f:=f0) (args:=#[.agg #[vi n,vi ((fx.1:Int)),vi fx.2.1,vi fx.2.2.1,vi fx.2.2.2.1,vi fx.2.2.2.2.1, .bool fx.2.2.2.2.2.1, .slice fA fx.2.2.2.2.2.2.length fC]]) (args':=#[.agg #[vi n,vi ((fx.1:Int)),vi fx.2.1,vi fx.2.2.1,vi fx.2.2.2.1,vi fx.2.2.2.2.1, .bool fx.2.2.2.2.2.1, .slice fA fx.2.2.2.2.2.2.length fC]]++cap) rfl rfl (cx.ou 11) hcf (map1 (cx.ou 15)) (by rw [Array.empty_append]),(by have h9:=hf W (fx,fA,fC) cx.upd.to_ext; dsimp only at h9; exact h9)⟩) fun W15 hst15=>?_
  refine then_normal (wbs (fun hs16=>?_) fun hs16=>?_)
  ·refine wp_seq (sqr (sqp [.m 17 5, .m 4 17] ?_))
   refine then_normal (wp_ret (blk_ret (then_ret (then_ret (blk_ret (then_ret ?_))))))
   refine bpr (vi ((k:Int))) (results_1 Tryz.results64 rpt) ?_
   exact Ret.of (by rw [hkr,idxP_at hkj,hs16]; rfl) hst15.ext
  refine wp_skip (blk_normal (then_normal (sqr (sqp [sI 18 ((k:Int)+1) (by omega), .m 8 18] ?_))))
  refine then_normal ?_
  refine ⟨ks.length - ((k+1)),by omega,?_⟩
  exact ⟨(k+1),by omega,by rw [hkr,idxP_at hkj,hs16]; rfl,rfl,(by kernel_rfl),hst15.pk []⟩
 refine wp_exit (then_exit (then_exit (blk_eq (then_normal (wp_seq (sqr (sqp [.k 4 (vi (-1))] ?_)))))))
 refine then_normal (wp_ret ?_)
 refine bpr (vi (-1)) (results_1 Tryz.results64 rpt) ?_
 exact Ret.of (by rw [hkr,List.drop_of_length_le (by omega)]; rfl) hst5.ext
theorem gcon_any (FA:Option Addr) (fc:Nat) (n:Int) (ks:List FK) (f0:FuncId) (cap:Array Value) (p:FK→Bool) (w:World) (hF:At w FA (ks.flatMap (cellsF n))) (hl:ks.length≤100000) (hcf:callP Tryz.prog f0=true) (hf:∀ (W:World) (k:FK),Ext w W→Calls Tryz.prog f0 (#[.agg #[.int .i64 n, .int .i64 (k.1.1:Int), .int .i64 k.1.2.1, .int .i64 k.1.2.2.1, .int .i64 k.1.2.2.2.1, .int .i64 k.1.2.2.2.2.1, .bool k.1.2.2.2.2.2.1, .slice k.2.1 k.1.2.2.2.2.2.2.length k.2.2]]++cap) W (Ret (.bool (p k)) W)):
  Calls Tryz.prog 85 #[.slice FA ks.length fc, .func (.func f0) #[] cap] w (Ret (.bool (ks.any p)) w):=by
 go_enter Tryz.func85,Tryz.ntmps85
 have hst0:=St.start w
 refine wp_seq (sqr (sqp [.k 4 (.bool false)] ?_))
 refine then_normal (wp_seq (sqr (sqp [.m 5 0, .m 6 1] ?_)))
 refine sqv (vi ((idxP p 0 ks))) hst0 (sv_call rfl rfl rfl rfl rfl (fun _ _ _ h=>h) fun ρ β W X cx=>⟨_, _,run_callF (args:=#[.slice FA ks.length fc, .func (.func f0) #[] cap]) rfl cx.sees rfl (by kernel_rfl) (map2 (cx.ou 5) (cx.ou 6)),gidx_any _ _ n ks _ _ p _ (hF.ext cx.upd.to_ext) hl hcf (fun W k hW=>hf W k (cx.upd.to_ext.trans hW))⟩) fun W4 hst4=>?_
 refine sqp [.k 8 (.bool (decide (0≤(idxP p 0 ks)))), .m 4 8] ?_
 refine then_normal (wp_ret ?_)
 refine bpr (.bool (decide (0≤(idxP p 0 ks)))) (results_1 Tryz.results85 rpt) ?_
 exact Ret.of (by rw [← idxP_any _ _ 0 (by omega)]) hst4.ext
end
section
open Go.RowKit
theorem putL_pre:∀ (vs pre post:List Value) (k:Nat),putL (pre++post) (pre.length+k) vs=pre++putL post k vs
 | [],pre,post,k=>rfl
 | v::vs,pre,post,k=>by
   rw [putL,putL,List.set_append_right _ _ (by omega),show pre.length+k - pre.length=k by omega,show pre.length+k+1=pre.length+(k+1) by omega]
   exact putL_pre vs pre (post.set k v) (k+1)
/-- block g: a row whose first cells are pre -/
def eCl (e sz g n c:Nat) (pre:List Value):Ent:=⟨[g],fun W=>∃ rest,W.ownsRow 0 e sz (.slice (some ⟨g,0,none⟩) n c) n (pre++rest)⟩
theorem eCl_loc {e sz g n c:Nat} {pre:List Value}:(eCl e sz g n c pre).loc:=fun W W' hk h=>by
 obtain ⟨rest,h1⟩:=h
 exact ⟨rest,eO_loc e sz (.slice (some ⟨g,0,none⟩) n c) n (pre++rest) W W' (fun k hk'=>hk k (by simpa [eO,Value.ownBlock,eCl] using hk')) h1⟩
theorem zc_size (zs:List Value) (k:Nat):(Builtin.zeroCells zs.toArray k).toList.length=k*zs.length:=by simp [Builtin.zeroCells]
theorem zc_one {zs:List Value} (h:zs.all Value.oneCell'=true) (k:Nat):∀ v∈(Builtin.zeroCells zs.toArray k).toList,Value.oneCell' v=true:=by
 intro v hv
 simp only [Builtin.zeroCells,Array.toList_map,List.mem_map,Array.toList_range,List.mem_range] at hv
 obtain ⟨i,hi,rfl⟩:=hv
 have hpos:0 < zs.length:=by
  rcases Nat.eq_zero_or_pos zs.length with e | e
  ·simp [e] at hi
  ·exact e
 have hlt:i % zs.length < zs.length:=Nat.mod_lt _ hpos
 have e:zs.toArray[i % zs.toArray.size]! =zs[i % zs.length]:=by simp [hlt]
 rw [e]
 exact List.all_eq_true.1 h _ (List.getElem_mem _)
section
variable {P:Program} {ops:Array Oper} {L:List Nat} {a0:Act} {w0:World} {bor:List Nat} {X0:List Ent} {us cr kl:List (List Nat)}
 {D:Nat→(Tmp→Value)→(Tmp→Value)→(Nat→Ent)→Prop} {i:Nat} {o:Oper} {ρ:Operand→Value} {β:Tmp→Value} {W:World} {X:Nat→Ent}
theorem run_sliceB_lo {t e:TypeId} {x y:Operand} {g n c l sz:Nat} {k:IntKind} {j:Int} (h:o.op= .slice t x (some y) none none) (ht:P.underlying t=some (.slice e)) (hz:szP P e=some sz)
  (hx:ρ x= .slice (some ⟨g,0,none⟩) n c) (hy:ρ y= .int k j) (hj:j=(l:Int)) (hl:l < n) (hc:n≤c):(execOp ρ o).run P W= .ok (.value (.slice (some ⟨g,l*sz,none⟩) (n - l) (c - l))) W:=by
 rw [run_sliceL_lo h ht hz hx hy hj (by omega),if_neg (by omega)]
 simp [Addr.add_lit]
theorem dv_clear {t e sz n c m k c2 g q q':Nat} {x:Operand} {zs pre post:List Value} (h:o.op= .call {callee:= .builtin .clear,args:=#[x],argTypes:=#[t]}) (hx:ρ x= .slice (some ⟨g,m,none⟩) k c2) (ht:P.underlying t=some (.slice e)) (hz:∀ W,(zeroValue e).run P W= .ok (.agg zs.toArray) W) (hzc:zs.length=sz)
  (h1:zs.all Value.oneCell'=true) (cx:CtxV ops L a0 w0 bor X0 us D i ρ β W X) (hX:X q=eO e sz (.slice (some ⟨g,0,none⟩) n c) n (pre++post)) (hu:(atV us i).contains q=true) (hpre:pre.length=m) (hm:m+k*sz≤n*sz) (hk0:0 < k) (hd:o.dst=none)
  (hc:atV cr i=[q']) (hk:atV kl i=[q]) (hD:∀ (σ β':Tmp→Value) (X':Nat→Ent),(∀ t,σ t=ρ (.tmp t))→(∀ t,β' t=β t)→X' q'=eCl e sz g n c pre→D i σ β' X'):DoesU P o ρ W (PostV cr kl D i o.dst ρ β W X):=by
 have hok:=cx.ok q hu
 rw [hX] at hok
 have hown:W.ownsRow 0 e sz (.slice (some ⟨g,0,none⟩) n c) n (pre++post):=hok.holds
 obtain ⟨W',h2,h3,h4⟩:=run_storeRowCells (P:=P) (Builtin.zeroCells zs.toArray k).toList m 0 _ W hown (by rw [zc_size,hzc]; omega) (zc_one h1 k)
 have hput:putL (pre++post) (m+0) (Builtin.zeroCells zs.toArray k).toList=pre++putL post 0 (Builtin.zeroCells zs.toArray k).toList:=by rw [← hpre]; exact putL_pre _ _ _ _
 rw [hput] at h4
 have hrun:(execOp ρ o).run P W= .ok (.value (.tuple #[])) W':=by
  have hn0:k≠0:=by omega
  unfold execOp; rw [h]
  obtain ⟨k',rfl⟩:∃ k',k=k'+1:=⟨k - 1,by omega⟩
  simp [go_sem,hx,Builtin.clear_,run_underlying ht,hz]
  have h2':=h2
  rw [h2']
  rfl
 refine DoesU.value hrun ⟨[eCl e sz g n c pre],by rw [hc]; rfl,⟨?_,fun e' he=>?_,List.pairwise_singleton _ _⟩,fun σ β' X' hs hv hb' hbv hx' hN=>hD σ β' X' (fun t=>hs t (by rw [hd]; simp)) (fun t=>hb' t (by rw [hd]; simp)) ?_⟩
 ·rw [hk]
  simp only [List.flatMap_cons,List.flatMap_nil,List.append_nil,hX]
  exact h3.mono (fun k _ hk'=>by simp at hk'; subst hk'; simp [eO,Value.ownBlock])
 ·rw [List.mem_singleton] at he
  subst he
  refine ⟨⟨_,h4⟩,eCl_loc,fun k hk'=>?_⟩
  have hkg:k=g:=by simpa [eCl] using hk'
  subst hkg
  refine ⟨.inl ?_,own0_block h4 k (by simp [Value.ownBlock])⟩
  rw [hk]
  simp [hX,eO,Value.ownBlock]
 ·rw [hc] at hN
  exact (List.cons.inj hN).1
end
end
section
open Go.RowKit
theorem Ext.to_upd {w W:World} (h:Ext w W):Upd [] w W:=⟨h.out.os,h.out.tape,h.out.output,h.size,fun k hk _=>h.out.block k hk⟩
theorem row_some {W:World} {e base sz n c:Nat} {A:Option Addr} {xs:List Value} (h:W.ownsRow base e sz (.slice A n c) n xs) (h0:0 < n):∃ g,A=some ⟨g,0,none⟩:=by
 rcases h.2 with ⟨hv,hm0⟩ | ⟨g,cap,cur,hv, _⟩
 ·omega
 ·injection hv with h1 h2 h3; exact ⟨g,h1⟩
theorem St.lentRow {W:World} {e sz n:Nat} {v:Value} {xs:List Value} (h:W.ownsRow 0 e sz v n xs):St W v.ownBlock.toList [eO e sz v n xs] W:=by
 refine ⟨Upd.refl _ _,fun x hx=>?_,List.pairwise_singleton _ _⟩
 rw [List.mem_singleton] at hx
 subst hx
 exact ⟨h,eO_loc _ _ _ _ _,fun k hk=>⟨.inl hk,own0_block h k (by simpa [eO] using hk)⟩⟩
theorem cellsF_one {n:Int} {k:FK}:∀ u∈cellsF n k,Value.oneCell' u=true:=by
 intro u hu
 simp only [cellsF,List.mem_cons,List.not_mem_nil,or_false] at hu
 rcases hu with rfl | rfl | rfl | rfl | rfl | rfl | rfl | rfl<;>rfl
theorem idxP_spec0 {α:Type} (p:α→Bool) (l:List α):(idxP p 0 l= -1∧l.any p=false)∨∃ i:Nat,i < l.length∧idxP p 0 l=(i:Int)∧(l.take i).any p=false∧∃ x,l[i]? =some x∧p x=true:=by
 rcases idxP_spec p l 0 with ⟨h1,h2⟩ | ⟨i,h1,h2,h3⟩
 ·exact .inl ⟨h1,h2⟩
 ·exact .inr ⟨i,h1,by rw [show ((0+i:Nat):Int)=(i:Int) by omega] at h2; exact h2,h3⟩
theorem filt_all {α:Type} {p:α→Bool} {l:List α} (h:l.any p=false):l.filter (fun x=>!p x)=l:=by
 rw [List.filter_eq_self]
 intro x hx
 have:=List.any_eq_false.1 h x hx
 simpa using this
theorem df_init {α:Type} {p:α→Bool} {l:List α} {i:Nat} {x:α} (h:(l.take i).any p=false) (hx:l[i]? =some x) (hp:p x=true):l.take i=(l.take (i+1)).filter fun x=>!p x:=by
 rw [List.take_add_one,hx,Option.toList,List.filter_append,filt_all h,List.filter_cons_of_neg (by rw [hp]; decide),List.filter_nil,List.append_nil]
theorem df_keep {α:Type} {p:α→Bool} {l zs:List α} {i j:Nat} {x:α} (h1:zs.take i=(l.take j).filter fun x=>!p x) (h2:zs.drop j=l.drop j) (hij:i < j) (hj:j < zs.length) (hx:zs[j]? =some x) (hp:(!(p x))=true):(zs.set i x).take (i+1)=(l.take (j+1)).filter fun x=>!p x:=by
 have hlx:l[j]? =some x:=by
  have:=congrArg (fun q:List α=>q[0]?) h2
  simp only [List.getElem?_drop,Nat.add_zero] at this
  rw [← this]; exact hx
 rw [List.take_add_one (l:=l),hlx,Option.toList,List.filter_append,List.filter_cons_of_pos (by exact hp),List.filter_nil,← h1,List.take_set,List.take_add_one,List.set_append_right _ _ (by rw [List.length_take]; omega)]
 rw [List.getElem?_eq_getElem (show i < zs.length by omega),Option.toList,List.length_take,Nat.min_eq_left (by omega),Nat.sub_self]; rfl
theorem df_drop {α:Type} {p:α→Bool} {l zs:List α} {i j:Nat} {x:α} (h1:zs.take i=(l.take j).filter fun x=>!p x) (h2:zs.drop j=l.drop j) (hx:zs[j]? =some x) (hp:(!(p x))=false):zs.take i=(l.take (j+1)).filter fun x=>!p x:=by
 have hlx:l[j]? =some x:=by
  have:=congrArg (fun q:List α=>q[0]?) h2
  simp only [List.getElem?_drop,Nat.add_zero] at this
  rw [← this]; exact hx
 rw [List.take_add_one,hlx,Option.toList,List.filter_append,List.filter_cons_of_neg (by rw [hp]; decide),List.filter_nil,List.append_nil]; exact h1
theorem df_tail {α:Type} {l zs:List α} {j:Nat} (h2:zs.drop j=l.drop j):zs.drop (j+1)=l.drop (j+1):=by
 rw [← List.drop_drop,h2,List.drop_drop]
theorem df_tail' {α:Type} {l zs:List α} {i j:Nat} {x:α} (hij:i < j) (h2:zs.drop j=l.drop j):(zs.set i x).drop (j+1)=l.drop (j+1):=by
 rw [List.drop_set_of_lt (by omega)]; exact df_tail h2
def ClPost (ks:List FK) (n:Int) (w:World) (e:Ending) (w':World):Prop:=∃ A c,e= .returned (.slice A ks.length c)∧w'.ownsRow w.heap.size 43 8 (.slice A ks.length c) ks.length (ks.flatMap (cellsF n))∧Ext w w'
def DfPost (A:Option Addr) (m c:Nat) (n:Int) (l:List FK) (w:World) (e:Ending) (w':World):Prop:=e= .returned (.slice A l.length c)∧(∃ rest,w'.ownsRow 0 43 8 (.slice A m c) m (l.flatMap (cellsF n)++rest))∧Upd (Value.ownBlock (.slice A m c)).toList w w'
theorem at_nil {w:World} {xs:List Value} (h:At w none xs):xs=[]:=by
 cases xs with
 | nil=>rfl
 | cons x l=>
   obtain ⟨ad,h1, _⟩:=h 0 x rfl
   cases h1
theorem fl_nil {ks:List FK} {n:Int} (h:ks.flatMap (cellsF n)=[]):ks=[]:=by
 cases ks with
 | nil=>rfl
 | cons k l=>simp [cellsF] at h
theorem gclone_any (FA:Option Addr) (fc:Nat) (n:Int) (ks:List FK) (w:World) (hF:At w FA (ks.flatMap (cellsF n))) (hl:ks.length≤100000):
  Calls Tryz.prog 136 #[.slice FA ks.length fc] w (ClPost ks n w):=by
 go_enter Tryz.func136,Tryz.ntmps136
 have hst0:=St.start w
 refine wp_seq (sqr (sqp [.k 2 (.slice none 0 0)] ?_))
 refine then_normal (wp_seq (wp_seq (sqr (sqp [.m 3 0, .k 4 (.bool FA.isNone)] ?_))))
 refine then_normal (wbs (fun hs4=>?_) fun hs4=>?_)
 ·refine wp_seq (sqr (sqp [.k 2 (.slice none 0 0)] ?_))
  refine then_normal (wp_ret (then_ret ?_))
  refine bpr (.slice none 0 0) (results_1 Tryz.results136 rpt) ?_
  obtain rfl:FA=none:=by simpa using hs4
  have hk0:=fl_nil (at_nil hF)
  subst hk0
  exact ⟨none,0,rfl,World.ownsRow_nil _ _ _ _,hst0.ext⟩
 refine wp_skip (then_normal (wp_seq ?_))
 obtain ⟨a,rfl⟩:∃ a,FA=some a:=by cases FA with | none=>simp at hs4 | some a=>exact ⟨a,rfl⟩
 refine sqr ?_
 refine sqli 43 8 0 [] hst0 (@fun ρ β W X cx=>by simp [go_sem]) fun B5_6 W6 hst6=>?_
 refine sqp [.m 6 0] ?_
 refine sqap ks.length (ks.flatMap (cellsF n)) 0 hst6 Tryz.infoFnd (fun cx=>(hF.ext cx.upd.to_ext)) (hl:=by rw [flatLen (cellsF_len n)]) (h1:=by intro u hu; obtain ⟨k, _,hk⟩:=List.mem_flatMap.1 hu; exact cellsF_one u hk) fun A7_8 c7_8 W8 hst8=>?_
 refine sqp [.m 2 7] ?_
 refine then_normal (wp_ret ?_)
 refine bpr (.slice A7_8 ks.length c7_8) (results_1 Tryz.results136 rpt) ?_
 exact ⟨_, _,rfl,hst8.own' 0 rfl,hst8.ext⟩
theorem gdel_any (FA:Option Addr) (fc:Nat) (n:Int) (ks:List FK) (f0:FuncId) (cap:Array Value) (p:FK→Bool) (w:World) (hO:w.ownsRow 0 43 8 (.slice FA ks.length fc) ks.length (ks.flatMap (cellsF n))) (hl:ks.length≤100000) (hcf:callP Tryz.prog f0=true) (hf:∀ (W:World) (k:FK),Upd (Value.ownBlock (.slice FA ks.length fc)).toList w W→Calls Tryz.prog f0 (#[.agg #[.int .i64 n, .int .i64 (k.1.1:Int), .int .i64 k.1.2.1, .int .i64 k.1.2.2.1, .int .i64 k.1.2.2.2.1, .int .i64 k.1.2.2.2.2.1, .bool k.1.2.2.2.2.2.1, .slice k.2.1 k.1.2.2.2.2.2.2.length k.2.2]]++cap) W (Ret (.bool (p k)) W)):
  Calls Tryz.prog 135 #[.slice FA ks.length fc, .func (.func f0) #[] cap] w (DfPost FA ks.length fc n (ks.filter (fun k=>!(p k))) w):=by
 have st0:=St.lentRow hO
 have hcap:=eown_capN hO
 go_enter Tryz.func135,Tryz.ntmps135
 have hst0:=st0
 refine wp_seq (sqr (sqp [.k 4 (.slice none 0 0)] ?_))
 refine then_normal (wp_seq (sqr (sqp [.m 8 0, .m 9 1] ?_)))
 refine sqv (vi ((idxP p 0 ks))) hst0 (sv_call rfl rfl rfl rfl rfl (fun _ _ _ h=>h) fun ρ β W X cx=>⟨_, _,run_callF (args:=#[.slice FA ks.length fc, .func (.func f0) #[] cap]) rfl cx.sees rfl (by kernel_rfl) (map2 (cx.ou 8) (cx.ou 9)),gidx_any _ _ n ks _ _ p _ (At.of_ownN (cx.ri 0 rfl)) hl hcf (fun W k hW=>hf W k (cx.upd.join hW.to_upd (fun i hi=>by cases hi)))⟩) fun W4 hst4=>?_
 refine sqp [.m 5 10] ?_
 refine then_normal (wp_seq (wp_seq ?_))
 obtain ⟨ix,hN_ix⟩:∃ z,(idxP p 0 ks)=z:=⟨_,rfl⟩
 rw [hN_ix]
 rcases idxP_spec0 p ks with ⟨hi1,hi2⟩ | ⟨i0,hi1,hi2,hi3,x0,hi4,hi5⟩
 ·rw [hN_ix] at hi1
  subst hi1
  refine sqr (sqp [.m 11 5, .k 12 (.bool true)] ?_)
  refine then_normal (wct rfl (wp_seq (sqr (sqp [.m 13 0, .m 4 13] ?_))))
  refine then_normal (wp_ret (then_ret ?_))
  refine bpr (.slice FA ks.length fc) (results_1 Tryz.results135 rpt) ?_
  rw [show ks.filter (fun k=>!(p k))=ks from filt_all hi2]; exact ⟨rfl,⟨[],by rw [List.append_nil]; exact (hst4.get 0 rfl).holds⟩,hst4.upd⟩
 ·rw [hN_ix] at hi2
  subst hi2
  obtain ⟨g,rfl⟩:=row_some hO (show 0 < ks.length by omega)
  refine sqr ?_
  have hd12:((i0:Int)==(-1))=false:=(by rw [beq_eq_false_iff_ne]; omega)
  refine sqp [.m 11 5, .e 12 (.bool ((i0:Int)==(-1))) (.bool false) (congrArg Value.bool hd12)] ?_
  refine then_normal (wcf rfl (wp_skip (then_normal (wp_seq (wp_seq (sqr (sqp [.m 14 5,sI 15 ((i0:Int)+1) (by omega), .m 6 15] ?_)))))))
  refine then_normal (wp_block ?_)
  refine wp_loopT (fun t_ mz az W=>∃ i:Nat,∃ j:Nat,∃ zs:List FK,(i < j∧j≤ks.length)∧zs.length=ks.length∧zs.take i=(ks.take j).filter (fun k=>!(p k))∧zs.drop j=ks.drop j∧mz=ks.length - j∧az=⟨(ovr (jv az) [(5,5,0,[vi ((i:Int)),vi ((j:Int))]),(0,7,1,[]),(8,16,20,[])] t_).toArray,[]⟩∧St w (Value.ownBlock (.slice (some ⟨g,0,none⟩) ks.length fc)).toList [eO 43 8 (.slice (some ⟨g,0,none⟩) ks.length fc) ks.length (zs.flatMap (cellsF n))] W) (ks.length - ((i0+1))) ?_ ?_
  · -- the loop begins
    exact ⟨i0,(i0+1),ks,⟨by omega,by omega⟩,rfl,df_init hi3 hi4 hi5,rfl,rfl,(by kernel_rfl),hst4.pk [0]⟩
  rintro n16 a16 W16 ⟨i,j,zs,hij,hzl,hz1,hz2,rfl,hj_,hst16⟩
  refine ovz hj_ fun u16_=>?_
  refine wp_seq (wp_seq (sqr (sqp [.m 16 6, .m 17 0, .k 18 (vi ((ks.length:Int))), .k 19 (.bool (decide ((j:Int) < (ks.length:Int))))] ?_)))
  refine then_normal (wds (fun hs21 hs21p=>?_) fun hs21 hs21p=>?_)
  ·refine wp_skip (then_normal (wp_seq (wp_block (wp_seq ?_))))
   obtain ⟨fx,fA,fC,hkj⟩:=getF (ks:=zs) (k:=j) (by omega)
   refine sqr (sqp [.m 22 0, .m 23 6] ?_)
   refine sql (.pointer (some ((ad ((some ⟨g,0,none⟩))).add (j*8)))) hst16 (fun cx=>run_indexSlM (e:=43) (m:=j) (sz:=8) rfl (by kernel_rfl) (by kernel_rfl) (cx.ou 22) (cx.ou 23) (by omega) (by omega) (At.of_ownN (cx.ri 0 rfl)) (flatPos (sz:=8) (cellsF_len n) (by decide) (by omega))) ?_
   refine sql (.agg #[vi n,vi ((fx.1:Int)),vi fx.2.1,vi fx.2.2.1,vi fx.2.2.2.1,vi fx.2.2.2.2.1, .bool fx.2.2.2.2.2.1, .slice fA fx.2.2.2.2.2.2.length fC]) hst16 (fun cx=>run_loadElt (f:=(cellsF n)) (m:=j) (sz:=8) (off:=0) (n:=8) rfl (by kernel_rfl) (by kernel_rfl) (cx.ou 24) rfl (cellsF_len n) (At.of_ownN (cx.ri 0 rfl)) hkj (fun k hk=>match k,hk with | 0, _=>rfl | 1, _=>rfl | 2, _=>rfl | 3, _=>rfl | 4, _=>rfl | 5, _=>rfl | 6, _=>rfl | 7, _=>rfl | k+8,hk=>absurd hk (by omega))) ?_
   refine sqal #[vi 0,vi 0,vi 0,vi 0,vi 0,vi 0, .bool false, .slice none 0 0] hst16 fun B7_26 W26 hst26=>?_
   refine sqst (n:=8) 1 #[vi n,vi ((fx.1:Int)),vi fx.2.1,vi fx.2.2.1,vi fx.2.2.2.1,vi fx.2.2.2.2.1, .bool fx.2.2.2.2.2.1, .slice fA fx.2.2.2.2.2.2.length fC] hst26 fun W27 hst27=>?_
   refine then_normal (wp_seq (sqr (sqp [.m 26 1] ?_)))
   refine sqlb 1 8 hst27 ?_
   refine sqv (.bool ((p (fx,fA,fC)))) hst27 (sv_call rfl rfl rfl rfl rfl (fun _ _ _ h=>h) fun ρ β W X cx=>⟨_, _,run_callV (f:=f0) (args:=#[.agg #[vi n,vi ((fx.1:Int)),vi fx.2.1,vi fx.2.2.1,vi fx.2.2.2.1,vi fx.2.2.2.2.1, .bool fx.2.2.2.2.2.1, .slice fA fx.2.2.2.2.2.2.length fC]]) (args':=#[.agg #[vi n,vi ((fx.1:Int)),vi fx.2.1,vi fx.2.2.1,vi fx.2.2.2.1,vi fx.2.2.2.2.1, .bool fx.2.2.2.2.2.1, .slice fA fx.2.2.2.2.2.2.length fC]]++cap) rfl rfl (cx.ou 26) hcf (map1 (cx.ou 27)) (by rw [Array.empty_append]),(by have h9:=hf W (fx,fA,fC) cx.upd; dsimp only at h9; exact h9)⟩) fun W30 hst30=>?_
   refine sqp [.k 29 (.bool (!((p (fx,fA,fC)))))] ?_
   refine then_normal ?_
   rcases Bool.eq_false_or_eq_true ((p (fx,fA,fC))) with hs32 | hs32
   ·refine wp_cond_false (show Act.eval _ _= .bool false from (congrArg Value.bool (by rw [hs32]; rfl))) (wp_skip (blk_normal (then_normal (sqr (sqp [.m 20 6,sI 21 ((j:Int)+1) (by omega), .m 6 21] ?_)))))
    refine then_normal ?_
    refine ⟨ks.length - ((j+1)),by omega,?_⟩
    exact ⟨i,(j+1),zs,⟨by omega,by omega⟩,hzl,df_drop hz1 hz2 hkj (by rw [hs32]; rfl),df_tail hz2,rfl,(by kernel_rfl),hst30.pk [0]⟩
   refine wp_cond_true (show Act.eval _ _= .bool true from (congrArg Value.bool (by rw [hs32]; rfl))) (wp_seq (sqr (sqp [.m 30 0, .m 31 5] ?_)))
   refine sqlb 1 8 hst30 ?_
   refine sql (.pointer (some ((ad ((some ⟨g,0,none⟩))).add (i*8)))) hst30 (fun cx=>run_indexSlM (e:=43) (m:=i) (sz:=8) rfl (by kernel_rfl) (by kernel_rfl) (cx.ou 30) (cx.ou 31) (by omega) (by omega) (At.of_ownN (cx.ri 0 rfl)) (flatPos (sz:=8) (cellsF_len n) (by decide) (by omega))) ?_
   refine sqc (eO 43 8 (.slice (some ⟨g,0,none⟩) ks.length fc) ks.length ((zs.set i (fx,fA,fC)).flatMap (cellsF n))) 0 hst30 (by
     refine svA fun ρ β W X cx=>?_
     exact dv_storeElt (m:=i*8) (n:=ks.length) (sz:=8) (k:=8) rfl (cx.ou 33) (show _=Value.agg #[vi n,vi ((fx.1:Int)),vi fx.2.1,vi fx.2.2.1,vi fx.2.2.2.1,vi fx.2.2.2.2.1, .bool fx.2.2.2.2.2.1, .slice fA fx.2.2.2.2.2.2.length fC] from (cx.ou 32)) (by kernel_rfl) (by kernel_rfl) (by kernel_rfl) cx (cx.init 0 _ rfl) rfl (by omega) (by decide) rfl (putL_flat (cellsF_len n) (ts:=zs) (m:=i) (by omega) (fx,fA,fC)) rfl rfl (fun σ β' X' hs hb hx=>hx)) fun W40 hst40=>?_
   refine then_normal (sqr (sqp [.m 34 5,sI 35 ((i:Int)+1) (by omega), .m 5 35] ?_))
   refine blk_normal (then_normal (sqr (sqp [.m 20 6,sI 21 ((j:Int)+1) (by omega), .m 6 21] ?_)))
   refine then_normal ?_
   refine ⟨ks.length - ((j+1)),by omega,?_⟩
   exact ⟨(i+1),(j+1),(zs.set i (fx,fA,fC)),⟨by omega,by omega⟩,by rw [List.length_set]; exact hzl,df_keep hz1 hz2 hij.1 (by omega) hkj (by rw [hs32]; rfl),df_tail' hij.1 hz2,rfl,(by kernel_rfl),hst40.pk [0]⟩
  refine wp_exit (then_exit (then_exit (blk_eq (then_normal (wp_seq ?_)))))
  rw [show zs.flatMap (cellsF n)=(zs.take i).flatMap (cellsF n)++(zs.drop i).flatMap (cellsF n) by rw [← List.flatMap_append,List.take_append_drop]] at hst16
  have hje:j=ks.length:=by omega
  have hfin:zs.take i=ks.filter (fun k=>!(p k)):=by rw [hz1,List.take_of_length_le (by omega)]
  have hfl:(ks.filter (fun k=>!(p k))).length=i:=by rw [← hfin,List.length_take]; omega
  refine sqr (sqp [.m 36 0, .m 37 5] ?_)
  refine sql (.slice ((some ⟨g,i*8,none⟩)) ((ks.length - i)) ((fc - i))) hst16 (fun cx=>run_sliceB_lo (e:=43) (sz:=8) (l:=i) rfl (by kernel_rfl) (by kernel_rfl) (cx.ou 36) (cx.ou 37) (by omega) (by omega) (by omega)) ?_
  refine sqc (eCl 43 8 g ks.length fc ((zs.take i).flatMap (cellsF n))) 0 hst16 (by
    refine svA fun ρ β W X cx=>?_
    exact dv_clear (sz:=8) (e:=43) (m:=i*8) (k:=(ks.length - i)) (zs:=[vi 0,vi 0,vi 0,vi 0,vi 0,vi 0, .bool false, .slice none 0 0]) rfl (cx.ou 38) (by kernel_rfl) (fun W=>by kernel_rfl) rfl (by decide) cx (cx.init 0 _ rfl) rfl (by rw [flatLen (cellsF_len n),List.length_take]; omega) (by omega) (by omega) rfl rfl rfl (fun σ β' X' hs hb hx=>hx)) fun W50 hst50=>?_
  refine then_normal (wp_seq (sqr (sqp [.m 39 0, .m 40 5] ?_)))
  refine sql (.slice ((some ⟨g,0,none⟩)) i fc) hst50 (fun cx=>run_sliceL_hi (e:=43) (sz:=8) (m:=i) rfl (by kernel_rfl) (by kernel_rfl) (cx.ou 39) (cx.ou 40) (by omega) (by omega)) ?_
  refine sqp [.m 4 41] ?_
  refine then_normal (wp_ret ?_)
  refine bpr (.slice ((some ⟨g,0,none⟩)) i fc) (results_1 Tryz.results135 rpt) ?_
  obtain ⟨rest,hown_⟩:=(hst50.get 0 rfl).holds
  rw [hfin] at hown_
  exact ⟨by rw [hfl],⟨rest,hown_⟩,hst50.upd⟩
end
section
open Go.RowKit
section
variable {o:Oper} {ρ:Operand→Value} {W:World}
theorem run_eqT {x y:Operand} {a b c d:Int} {r:Bool} (h:o.op= .binOp .eql 24 x y 24) (hx:ρ x= .agg #[.int .i64 a, .int .i64 b]) (hy:ρ y= .agg #[.int .i64 c, .int .i64 d]) (hr:(a==c&&b==d)=r):
  (execOp ρ o).run Tryz.prog W= .ok (.value (.bool r)) W:=by
 subst hr
 unfold execOp; rw [h]
 simp [go_sem,hx,hy]
 by_cases h1:a=c<;>by_cases h2:b=d<;>simp [h1,h2]
theorem run_neT {x y:Operand} {a b c d:Int} {r:Bool} (h:o.op= .binOp .neq 24 x y 24) (hx:ρ x= .agg #[.int .i64 a, .int .i64 b]) (hy:ρ y= .agg #[.int .i64 c, .int .i64 d]) (hr:(!(a==c&&b==d))=r):
  (execOp ρ o).run Tryz.prog W= .ok (.value (.bool r)) W:=by
 subst hr
 unfold execOp; rw [h]
 simp [go_sem,hx,hy]
 by_cases h1:a=c<;>by_cases h2:b=d<;>simp [h1,h2]
end
end
section
open Go.RowKit
/-- is (a, b) among the places found on page n? -/
def hasF (n:Int) (l:List (Nat×VerD)) (a b:Int):Bool:=l.any fun p=>n==a&&(p.1:Int)==b
theorem has_no {n a b:Int} {l:List (Nat×VerD)} {j:Nat} (h:hasF n (l.take j) a b=false) {p:Nat×VerD} (hp:l[j]? =some p) (hc:(n==a&&(p.1:Int)==b)=false):hasF n (l.take (j+1)) a b=false:=by
 rw [hasF,List.take_add_one,hp,Option.toList,List.any_append,List.any_cons,List.any_nil,Bool.or_false,hc,Bool.or_false]; exact h
theorem has_yes {n a b:Int} {l:List (Nat×VerD)} {j:Nat} {p:Nat×VerD} (hp:l[j]? =some p) (hc:(n==a&&(p.1:Int)==b)=true):hasF n l a b=true:=by
 rw [hasF,List.any_eq_true]
 exact ⟨p,List.mem_of_getElem? hp,hc⟩
theorem ks_get {ks:List FK} {l:List (Nat×VerD)} {j:Nat} (hk:ks.map Prod.fst=l) (h:j < l.length):∃ x a c,ks[j]? =some (x,a,c)∧l[j]? =some x:=by
 subst hk
 rw [List.length_map] at h
 refine ⟨ks[j].1,ks[j].2.1,ks[j].2.2,List.getElem?_eq_getElem h,?_⟩
 rw [List.getElem?_map,List.getElem?_eq_getElem h]; rfl
theorem rredirect_any (PA:Option Addr) (pc:Nat) (Ps:List PgD) (n j:Int) (w:World) (hP:PgsAt w PA Ps):
  Calls Tryz.prog 73 #[.agg #[.slice PA Ps.length pc], .agg #[.int .i64 n, .int .i64 j]] w (Ret (.int .i64 (rdF (pvF Ps n) j)) w):=by
 have hwf:=hP.wf n
 have hwl:=hwf.1
 have hb0':0≤byteI (bl ((pvF Ps n).its.getD (j).toNat it0).1) 0∧byteI (bl ((pvF Ps n).its.getD (j).toNat it0).1) 0 < 256:=byte_lt (bl ((pvF Ps n).its.getD (j).toNat it0).1) 0
 have hb1':0≤byteI (bl ((pvF Ps n).its.getD (j).toNat it0).1) 1∧byteI (bl ((pvF Ps n).its.getD (j).toNat it0).1) 1 < 256:=byte_lt (bl ((pvF Ps n).its.getD (j).toNat it0).1) 1
 go_enter Tryz.func73,Tryz.ntmps73
 have hst0:=St.start w
 refine wp_seq (sqr ?_)
 refine sqbx #[.slice PA Ps.length pc] hst0 fun B2_1 W1 hst1=>?_
 refine sqbx #[vi n,vi j] hst1 fun B3_2 W2 hst2=>?_
 refine sqp [.k 4 (vi 0)] ?_
 refine then_normal (wp_seq (wp_seq (sqr ?_)))
 refine sqlb 0 1 hst2 ?_
 refine sqp [.k 8 (vp B3_2)] ?_
 refine sqld 1 hst2 ?_
 refine sqk (vi ((tbF (pvF Ps n)))) hst2 (fun cx=>⟨_,rtable_any _ _ Ps n _ (hP.ext cx.upd.to_ext),(map2 (cx.ou 7) (cx.ou 9))⟩) fun W7 hst7=>?_
 refine sqp [.k 11 (.bool (decide ((tbF (pvF Ps n)) < 0))), .m 12 11] ?_
 refine sqw' 12 [13,14,15] ?_ rfl (fun hq=>?_) ?_
 rotate_left
 ·refine sqp [.k 13 (.pointer (some ⟨B3_2,1,none⟩))] ?_
  refine sqld 1 hst7 ?_
  refine sqp [.k 15 (.bool (decide (j < 1)))] ?_
  exact sqe
 refine sqwx ?_
 refine sqp [sPo 16 (decide ((tbF (pvF Ps n)) < 0)) (decide (j < 1))] ?_
 refine then_normal (wbs (fun hs14=>?_) fun hs14=>?_)
 ·have hs14p:=hs14
  simp only [zB] at hs14p
  refine wp_seq (sqr (sqp [.k 4 (vi (-1))] ?_))
  refine then_normal (wp_ret (then_ret ?_))
  refine bpr (vi (-1)) (results_1 Tryz.results73 rpt) ?_
  have hrd:rdF (pvF Ps n) j= -1:=by rw [rdF,if_neg (by rintro ⟨a_,b_,c_,d_,e_⟩; have htb:=(tbF_hd (pvF Ps n)); simp_all; try omega)]
  rw [hrd]
  exact Ret.of rfl hst7.ext
 have hs14p:=hs14
 simp only [zB] at hs14p
 obtain ⟨hs14p1,hs14p2⟩:=hs14p
 refine wp_skip (then_normal (wp_seq (sqr ?_)))
 refine sqlb 0 1 hst7 ?_
 refine sqp [.k 19 (vp B3_2)] ?_
 refine sqld 1 hst7 ?_
 refine sqk2 (fun A21_19 c21_19=> .tuple #[.agg #[vi ((pvF Ps n).k),vi ((pvF Ps n).l), .slice A21_19 ((pvF Ps n).its.length) c21_19], .bool ((pvF Ps n).ok)]) (fun A21_19 c21_19=>eO 9 1 (.slice A21_19 ((pvF Ps n).its.length) c21_19) ((pvF Ps n).its.length) (strs (pvF Ps n).its)) hst7 (fun cx=>⟨_,(rpage_any _ _ Ps n _ (hP.ext cx.upd.to_ext)).mono (by rintro e W1 ⟨A4,c4,rfl,ho,hx⟩; exact ⟨_, _,rfl,St.one hx (eO_new ho)⟩),(map2 (cx.ou 18) (cx.ou 20))⟩) fun A21_19 c21_19 W19 hst19=>?_
 refine sqp [.m 17 21, .k 22 (.agg #[vi ((pvF Ps n).k),vi ((pvF Ps n).l), .slice A21_19 ((pvF Ps n).its.length) c21_19]), .k 23 (.bool ((pvF Ps n).ok))] ?_
 refine sqal #[vi 0,vi 0, .slice none 0 0] hst19 fun B5_23 W23 hst23=>?_
 refine sqst (n:=3) 3 #[vi ((pvF Ps n).k),vi ((pvF Ps n).l), .slice A21_19 ((pvF Ps n).its.length) c21_19] hst23 fun W24 hst24=>?_
 refine sqp [.m 6 23] ?_
 refine then_normal (wp_seq (wp_seq (sqr (sqp [.k 24 (.pointer (some ⟨B3_2,1,none⟩))] ?_))))
 refine sqld 1 hst24 ?_
 refine sqp [.k 26 (.pointer (some ⟨B5_23,2,none⟩))] ?_
 refine sqld 3 hst24 ?_
 refine sqp [.k 28 (vi (((pvF Ps n).its.length:Int))), .k 29 (.bool (decide (((pvF Ps n).its.length:Int)≤j))), .m 30 29] ?_
 refine sqw' 30 [31,32,33,34,35,36,37,38] ?_ rfl (fun hq=>?_) ?_
 rotate_left
 ·have hq_:=of_decide_eq_false hq
  refine sqp [.k 31 (.pointer (some ⟨B5_23,2,none⟩))] ?_
  refine sqld 3 hst24 ?_
  refine sqp [.k 33 (.pointer (some ⟨B3_2,1,none⟩))] ?_
  refine sqld 1 hst24 ?_
  refine sql (.pointer (some ((ad A21_19).add ((j).toNat)))) hst24 (fun cx=>run_indexSl (e:=9) (m:=(j).toNat) rfl (by kernel_rfl) (by kernel_rfl) (cx.ou 32) (cx.ou 34) (by omega) (by omega) (At.of_own (cx.ri 2 rfl)) (strs_len _)) ?_
  refine sql (.string (((pvF Ps n).its.getD (j).toNat it0).1)) hst24 (fun cx=>run_load1 rfl (by kernel_rfl) (cx.ou 35) (At.cellAd (At.of_own (cx.ri 2 rfl)) (getD_strs (by omega)))) ?_
  refine sqp [.k 37 (vi (((((pvF Ps n).its.getD (j).toNat it0).1).size:Int))), .k 38 (.bool (((((pvF Ps n).its.getD (j).toNat it0).1).size:Int) != 2))] ?_
  exact sqe
 refine sqwx ?_
 refine sqp [sPo 39 (decide (((pvF Ps n).its.length:Int)≤j)) (((((pvF Ps n).its.getD (j).toNat it0).1).size:Int) != 2), .m 40 39] ?_
 refine sqw' 40 [41,42,43,44,45,46,47,48] ?_ rfl (fun hq=>?_) ?_
 rotate_left
 ·have hq_:=hq
  try simp only [zB] at hq_
  refine sqp [.k 41 (.pointer (some ⟨B5_23,2,none⟩))] ?_
  refine sqld 3 hst24 ?_
  refine sqp [.k 43 (.pointer (some ⟨B3_2,1,none⟩))] ?_
  refine sqld 1 hst24 ?_
  refine sql (.pointer (some ((ad A21_19).add ((j).toNat)))) hst24 (fun cx=>run_indexSl (e:=9) (m:=(j).toNat) rfl (by kernel_rfl) (by kernel_rfl) (cx.ou 42) (cx.ou 44) (by omega) (by omega) (At.of_own (cx.ri 2 rfl)) (strs_len _)) ?_
  refine sql (.string (((pvF Ps n).its.getD (j).toNat it0).1)) hst24 (fun cx=>run_load1 rfl (by kernel_rfl) (cx.ou 45) (At.cellAd (At.of_own (cx.ri 2 rfl)) (getD_strs (by omega)))) ?_
  refine sql (.int .u8 (byteI (bl (((pvF Ps n).its.getD (j).toNat it0).1)) 0)) hst24 (fun cx=>run_indexS (m:=0) rfl (by kernel_rfl) (cx.ou 46) (cx.co _) (by omega) (by omega)) ?_
  refine sqp [.k 48 (.bool ((byteI (bl (((pvF Ps n).its.getD (j).toNat it0).1)) 0) != 0))] ?_
  exact sqe
 refine sqwx ?_
 refine sqp [sPo 49 ((decide (((pvF Ps n).its.length:Int)≤j))||(((((pvF Ps n).its.getD (j).toNat it0).1).size:Int) != 2)) ((byteI (bl (((pvF Ps n).its.getD (j).toNat it0).1)) 0) != 0)] ?_
 refine then_normal (wbs (fun hs52=>?_) fun hs52=>?_)
 ·have hs52p:=hs52
  simp only [zB] at hs52p
  refine wp_seq (sqr (sqp [.k 4 (vi (-1))] ?_))
  refine then_normal (wp_ret (then_ret ?_))
  refine bpr (vi (-1)) (results_1 Tryz.results73 rpt) ?_
  have hrd:rdF (pvF Ps n) j= -1:=by rw [rdF,if_neg (by rintro ⟨a_,b_,c_,d_,e_⟩; have htb:=(tbF_hd (pvF Ps n)); simp_all; try omega)]
  rw [hrd]
  exact Ret.of rfl hst24.ext
 have hs52p:=hs52
 simp only [zB] at hs52p
 obtain ⟨⟨hs52p1,hs52p2⟩,hs52p3⟩:=hs52p
 refine wp_skip (then_normal (wp_seq (sqr (sqp [.k 50 (.pointer (some ⟨B5_23,2,none⟩))] ?_))))
 refine sqld 3 hst24 ?_
 refine sqp [.k 52 (.pointer (some ⟨B3_2,1,none⟩))] ?_
 refine sqld 1 hst24 ?_
 refine sql (.pointer (some ((ad A21_19).add ((j).toNat)))) hst24 (fun cx=>run_indexSl (e:=9) (m:=(j).toNat) rfl (by kernel_rfl) (by kernel_rfl) (cx.ou 51) (cx.ou 53) (by omega) (by omega) (At.of_own (cx.ri 2 rfl)) (strs_len _)) ?_
 refine sql (.string (((pvF Ps n).its.getD (j).toNat it0).1)) hst24 (fun cx=>run_load1 rfl (by kernel_rfl) (cx.ou 54) (At.cellAd (At.of_own (cx.ri 2 rfl)) (getD_strs (by omega)))) ?_
 refine sql (.int .u8 (byteI (bl (((pvF Ps n).its.getD (j).toNat it0).1)) 1)) hst24 (fun cx=>run_indexS (m:=1) rfl (by kernel_rfl) (cx.ou 55) (cx.co _) (by omega) (by omega)) ?_
 refine sqp [sW 57 .i64 (byteI (bl (((pvF Ps n).its.getD (j).toNat it0).1)) 1) (byteI (bl (((pvF Ps n).its.getD (j).toNat it0).1)) 1) (IntWalk.i64_in _ (by omega)), .m 4 57] ?_
 refine then_normal (wp_ret ?_)
 refine bpr (vi (byteI (bl (((pvF Ps n).its.getD (j).toNat it0).1)) 1)) (results_1 Tryz.results73 rpt) ?_
 have hhd:hdF (pvF Ps n)=true:=(tbF_hd (pvF Ps n)).1 (by omega)
 have hrd:rdF (pvF Ps n) j=byteI (bl ((pvF Ps n).its.getD (j).toNat it0).1) 1:=by rw [rdF,if_pos (by refine ⟨hhd,by omega,by omega,by omega,by omega⟩)]
 rw [hrd]
 exact Ret.of rfl hst24.ext
theorem rroots_any (PA:Option Addr) (pc:Nat) (Ps:List PgD) (n:Int) (w:World) (hP:PgsAt w PA Ps):
  Calls Tryz.prog 71 #[.agg #[.slice PA Ps.length pc], .int .i64 n] w (RtPost (rtL (pvF Ps n) 24) n w):=by
 go_enter Tryz.func71,Tryz.ntmps71
 have hst0:=St.start w
 refine wp_seq (sqr ?_)
 refine sqbx #[.slice PA Ps.length pc] hst0 fun B2_1 W1 hst1=>?_
 refine sqp [.k 4 (.slice none 0 0)] ?_
 refine then_normal (wp_seq (sqr ?_))
 refine sqli 24 2 0 [] hst1 (@fun ρ β W X cx=>by simp [go_sem]) fun B10_3 W3 hst3=>?_
 refine sqp [.m 5 10] ?_
 refine then_normal (wp_seq (wp_seq (sqr (sqp [.k 6 (vi 1)] ?_))))
 refine then_normal (wp_block ?_)
 refine wp_loopT (fun t_ mz az W=>∃ j:Nat,∃ m:Nat,∃ TA:Option Addr,∃ TC:Nat,(1≤j∧j≤24)∧m=(rtL (pvF Ps n) j).length∧mz=24 - j∧az=⟨(ovr (jv az) [(5,5,0,[.slice TA m TC,vi ((j:Int))]),(0,7,3,[]),(1,11,29,[])] t_).toArray,[]⟩∧St w [] [eB B2_1 30 #[.slice PA Ps.length pc],eO 24 2 (.slice TA m TC) m ((rtL (pvF Ps n) j).flatMap (cellsR n))] W) (24 - 1) ?_ ?_
 · -- the loop begins
   exact ⟨1,0,(some ⟨B10_3,0,none⟩),0,by decide,rfl,rfl,(by kernel_rfl),hst3.pk [0,1]⟩
 rintro n6 a6 W6 ⟨j,m,TA,TC,hj,hm,rfl,hj_,hst6⟩
 refine ovz hj_ fun u6_=>?_
 have hml:=rt_le (pvF Ps n) j
 rw [← hm] at hml
 refine wp_seq (wp_seq (sqr (sqp [.m 11 6, .k 12 (.bool (decide ((j:Int) < 24)))] ?_)))
 refine then_normal (wds (fun hs9 hs9p=>?_) fun hs9 hs9p=>?_)
 ·refine wp_skip (then_normal (wp_seq (wp_block (wp_seq (sqr (sqp [.m 15 1, .m 16 6, .k 17 (.agg #[vi n,vi ((j:Int))])] ?_))))))
  refine sqal #[vi 0,vi 0] hst6 fun B7_13 W13 hst13=>?_
  refine sqst (n:=2) 2 #[vi n,vi ((j:Int))] hst13 fun W14 hst14=>?_
  refine then_normal (wp_seq (sqr ?_))
  refine sqlb 0 1 hst14 ?_
  refine sqlb 2 2 hst14 ?_
  refine sqk2 (fun A21_17 c21_17=> .tuple #[.agg #[vi ((vD (atF (pvF Ps n) (j:Int))).1),vi ((vD (atF (pvF Ps n) (j:Int))).2.1),vi ((vD (atF (pvF Ps n) (j:Int))).2.2.1),vi ((vD (atF (pvF Ps n) (j:Int))).2.2.2.1), .bool ((vD (atF (pvF Ps n) (j:Int))).2.2.2.2.1), .slice A21_17 ((vD (atF (pvF Ps n) (j:Int))).2.2.2.2.2.length) c21_17], .bool ((atF (pvF Ps n) (j:Int)).isSome)]) (fun A21_17 c21_17=>eO 45 3 (.slice A21_17 ((vD (atF (pvF Ps n) (j:Int))).2.2.2.2.2.length) c21_17) ((vD (atF (pvF Ps n) (j:Int))).2.2.2.2.2.length) (flatR (vD (atF (pvF Ps n) (j:Int))).2.2.2.2.2)) hst14 (fun cx=>⟨_,(rat_any _ _ Ps n (j:Int) _ (hP.ext cx.upd.to_ext)).mono (by rintro e W1 ⟨A4,c4,rfl,ho,hx⟩; exact ⟨_, _,rfl,St.one hx (eO_new ho)⟩),(map2 (cx.ou 19) (cx.ou 20))⟩) fun A21_17 c21_17 W17 hst17=>?_
  refine sqp [.m 18 21, .k 22 (.agg #[vi ((vD (atF (pvF Ps n) (j:Int))).1),vi ((vD (atF (pvF Ps n) (j:Int))).2.1),vi ((vD (atF (pvF Ps n) (j:Int))).2.2.1),vi ((vD (atF (pvF Ps n) (j:Int))).2.2.2.1), .bool ((vD (atF (pvF Ps n) (j:Int))).2.2.2.2.1), .slice A21_17 ((vD (atF (pvF Ps n) (j:Int))).2.2.2.2.2.length) c21_17]), .k 23 (.bool ((atF (pvF Ps n) (j:Int)).isSome))] ?_
  refine sqal #[vi 0,vi 0,vi 0,vi 0, .bool false, .slice none 0 0] hst17 fun B8_21 W21 hst21=>?_
  refine sqst (n:=6) 4 #[vi ((vD (atF (pvF Ps n) (j:Int))).1),vi ((vD (atF (pvF Ps n) (j:Int))).2.1),vi ((vD (atF (pvF Ps n) (j:Int))).2.2.1),vi ((vD (atF (pvF Ps n) (j:Int))).2.2.2.1), .bool ((vD (atF (pvF Ps n) (j:Int))).2.2.2.2.1), .slice A21_17 ((vD (atF (pvF Ps n) (j:Int))).2.2.2.2.2.length) c21_17] hst21 fun W22 hst22=>?_
  refine sqp [.m 9 23] ?_
  refine then_normal (wp_seq (sqr (sqp [.m 24 9, .m 25 24] ?_)))
  refine sqw' 25 [26,27,28] ?_ rfl (fun hq=>?_) ?_
  rotate_left
  ·refine sqp [.k 26 (.pointer (some ⟨B8_21,4,none⟩))] ?_
   refine sqld 4 hst22 ?_
   refine sqp [.k 28 (.bool (!((vD (atF (pvF Ps n) (j:Int))).2.2.2.2.1)))] ?_
   exact sqe
  refine sqwx ?_
  refine sqp [sPa 29 ((atF (pvF Ps n) (j:Int)).isSome) (!((vD (atF (pvF Ps n) (j:Int))).2.2.2.2.1)), .m 30 29] ?_
  refine sqwW 30 [31,32,33,34] ?_ hst22 rfl (fun hq=>?_) fun W35 hst35=>?_
  rotate_left
  ·refine sqlb 0 1 hst22 ?_
   refine sqlb 2 2 hst22 ?_
   refine sqk (vi ((rdF (pvF Ps n) (j:Int)))) hst22 (fun cx=>⟨_,rredirect_any _ _ Ps n (j:Int) _ (hP.ext cx.upd.to_ext),(map2 (cx.ou 31) (cx.ou 32))⟩) fun W33 hst33=>?_
   refine sqp [.k 34 (.bool (decide (0≤(rdF (pvF Ps n) (j:Int)))))] ?_
   exact sqE hst33
  refine sqwx ?_
  refine sqp [sPo 35 (((atF (pvF Ps n) (j:Int)).isSome)&&(!((vD (atF (pvF Ps n) (j:Int))).2.2.2.2.1))) (decide (0≤(rdF (pvF Ps n) (j:Int))))] ?_
  refine then_normal (wbs (fun hs37=>?_) fun hs37=>?_)
  ·have hs37p:=hs37
   simp only [zB] at hs37p
   refine sqr (sqp [.m 36 5] ?_)
   refine sqlb 2 2 hst35 ?_
   refine sqli 24 2 1 (cellsR n j) hst35 (@fun ρ β W X cx=>by have fF37:ρ (.tmp 37)= .agg #[vi n,vi ((j:Int))]:=(cx.ou 37); simp [go_sem,fF37,cellsR]) fun B38_40 W40 hst40=>?_
   refine sqap (m+1) ((rtL (pvF Ps n) j++[j]).flatMap (cellsR n)) 1 hst40 infoTIDr (fun cx=>(At.of_ownN (cx.ri 5 rfl))) (h1:=by simp [cellsR,Value.oneCell']) (hxs:=rt_snoc _ _ _) fun A39_41 c39_41 W41 hst41=>?_
   refine sqp [.m 5 39] ?_
   refine blk_normal (then_normal (sqr (sqp [.m 13 6,sI 14 ((j:Int)+1) (by omega), .m 6 14] ?_)))
   refine then_normal ?_
   rw [← rt_hit (by omega) (show rootB (pvF Ps n) j=true from hs37)] at hst41
   refine ⟨24 - ((j+1)),by omega,?_⟩
   exact ⟨(j+1),(m+1),A39_41,c39_41,by omega,by rw [rt_hit (by omega) hs37,List.length_append,hm]; rfl,rfl,(by kernel_rfl),hst41.pk [0,1]⟩
  have hs37p:=hs37
  simp only [zB] at hs37p
  obtain ⟨hs37p1,hs37p2⟩:=hs37p
  refine wp_skip (blk_normal (then_normal (sqr (sqp [.m 13 6,sI 14 ((j:Int)+1) (by omega), .m 6 14] ?_))))
  refine then_normal ?_
  rw [← rt_miss (show rootB (pvF Ps n) j=false from hs37)] at hst35
  refine ⟨24 - ((j+1)),by omega,?_⟩
  exact ⟨(j+1),m,TA,TC,by omega,by rw [rt_miss (show rootB (pvF Ps n) j=false from hs37)]; exact hm,rfl,(by kernel_rfl),hst35.pk [0,1]⟩
 refine wp_exit (then_exit (then_exit (blk_eq (then_normal (wp_seq (sqr (sqp [.m 40 5, .m 4 40] ?_)))))))
 refine then_normal (wp_ret ?_)
 refine bpr (.slice TA m TC) (results_1 Tryz.results71 rpt) ?_
 have hj24:j=24:=by omega
 subst hj24
 have ho_:=hst6.own' 1 rfl
 unfold RtPost
 rw [← hm]
 exact ⟨_, _,rfl,ho_,hst6.ext⟩
theorem rhas_any (LA:Option Addr) (lc:Nat) (n:Int) (ks:List FK) (l:List (Nat×VerD)) (a b:Int) (w:World) (hks:ks.map Prod.fst=l) (hL:At w LA (ks.flatMap (cellsF n))) (hll:l.length≤100000):
  Calls Tryz.prog 140 #[.slice LA l.length lc, .agg #[.int .i64 a, .int .i64 b]] w (Ret (.bool (hasF n l a b)) w):=by
 have hkl:ks.length=l.length:=by rw [← hks,List.length_map]
 go_enter Tryz.func140,Tryz.ntmps140
 have hst0:=St.start w
 refine wp_seq (sqr ?_)
 refine sqbx #[vi a,vi b] hst0 fun B3_1 W1 hst1=>?_
 refine sqp [.k 4 (.bool false)] ?_
 refine then_normal (wp_seq (wp_seq (sqr (sqp [.k 5 (vi 0)] ?_))))
 refine then_normal (wp_block ?_)
 refine wp_loopT (fun t_ mz az W=>∃ j:Nat,j≤l.length∧hasF n (l.take j) a b=false∧mz=l.length - j∧az=⟨(ovr (jv az) [(4,4,1,[vi ((j:Int))]),(0,6,13,[])] t_).toArray,[]⟩∧St w [] [eB B3_1 24 #[vi a,vi b]] W) (l.length - 0) ?_ ?_
 · -- the loop begins
   exact ⟨0,Nat.zero_le _,rfl,rfl,(by kernel_rfl),hst1.pk [0]⟩
 rintro n4 a4 W4 ⟨j,hj,hno,rfl,hj_,hst4⟩
 refine ovz hj_ fun u4_=>?_
 refine wp_seq (wp_seq (sqr (sqp [.m 6 5, .m 7 0, .k 8 (vi ((l.length:Int))), .k 9 (.bool (decide ((j:Int) < (l.length:Int))))] ?_)))
 refine then_normal (wds (fun hs9 hs9p=>?_) fun hs9 hs9p=>?_)
 ·refine wp_skip (then_normal (wp_seq (wp_block (wp_seq ?_))))
  obtain ⟨fx,fA,fC,hkj,haj⟩:=ks_get (j:=j) hks (by omega)
  refine wp_region_Z [0,0,3,7,15,0,63] [[],[],[],[],[],[0]] [.k 12 (.slice LA l.length lc), .k 13 (vi ((j:Int))), .c 14 (.pointer (some ((ad LA).add (j*8)))), .c 15 (.pointer (some ((ad LA).add (j*8+0)))), .c 16 (.agg #[vi n,vi ((fx.1:Int))]), .c 17 (.agg #[vi a,vi b]), .c 18 (.bool (n==a&&(fx.1:Int)==b))] [0] [2,3,4,5,6] [(12,0,7,19)] hst4 ?_ fun W10 hst10=>?_
  ·refine ⟨?_,?_,?_,?_,?_,trivial⟩
   ·exact xs4 rfl id fun cx=>run_indexSlM (e:=147) (m:=j) (sz:=8) rfl (by kernel_rfl) (by kernel_rfl) (cx.an 0) (cx.an 1) (by omega) (by omega) (hL.ext cx.upd.to_ext) (flatPos (sz:=8) (cellsF_len n) (by decide) (by omega))
   ·exact xs4 rfl id fun cx=>run_fieldAd rfl (by kernel_rfl) (cx.an 2)
   ·exact xs4 rfl id fun cx=>run_loadElt (f:=(cellsF n)) (m:=j) (sz:=8) (off:=0) (n:=2) rfl (by kernel_rfl) (by kernel_rfl) (cx.an 3) rfl (cellsF_len n) (hL.ext cx.upd.to_ext) hkj (fun k hk=>match k,hk with | 0, _=>rfl | 1, _=>rfl | k+2,hk=>absurd hk (by omega))
   ·exact xs4 rfl id fun cx=>run_loadB (n:=2) rfl (by kernel_rfl) (by kernel_rfl) (cx.ou 3) (cx.bi 0 rfl) (nle rfl) rfl
   ·exact xs4 rfl id fun cx=>run_eqT rfl (cx.an 4) (cx.an 5) rfl
  refine then_normal (wbs (fun hs11=>?_) fun hs11=>?_)
  ·have hs11p:=hs11
   simp only [zB] at hs11p
   obtain ⟨hs11p1,hs11p2⟩:=hs11p
   refine wp_seq (sqr (sqp [.k 4 (.bool true)] ?_))
   refine then_normal (wp_ret (blk_ret (then_ret (then_ret (blk_ret (then_ret ?_))))))
   refine bpr (.bool true) (results_1 Tryz.results140 rpt) ?_
   have hh:=has_yes haj hs11
   rw [hh]
   exact Ret.of rfl hst10.ext
  have hs11p:=hs11
  simp only [zB] at hs11p
  refine wp_skip (blk_normal (then_normal (sqr (sqp [.m 10 5,sI 11 ((j:Int)+1) (by omega), .m 5 11] ?_))))
  refine then_normal ?_
  refine ⟨l.length - ((j+1)),by omega,?_⟩
  exact ⟨(j+1),by omega,has_no hno haj hs11,rfl,(by kernel_rfl),hst10.pk [0]⟩
 refine wp_exit (then_exit (then_exit (blk_eq (then_normal (wp_seq (sqr (sqp [.k 4 (.bool false)] ?_)))))))
 refine then_normal (wp_ret ?_)
 refine bpr (.bool false) (results_1 Tryz.results140 rpt) ?_
 have hh:hasF n l a b=false:=by rw [List.take_of_length_le (by omega)] at hno; exact hno
 rw [hh]
 exact Ret.of rfl hst4.ext
end
section
open Go.RowKit
theorem rhas_n {LA:Option Addr} {lc m:Nat} {n:Int} {ks:List FK} {a b:Int} {w:World} (hm:m=ks.length) (hL:At w LA (ks.flatMap (cellsF n))) (hll:m≤100000):Calls Tryz.prog 140 #[.slice LA m lc, .agg #[.int .i64 a, .int .i64 b]] w (Ret (.bool (hasF n (ks.map Prod.fst) a b)) w):=by
 have h:=rhas_any LA lc n ks (ks.map Prod.fst) a b w rfl hL (by rw [List.length_map,← hm]; exact hll)
 rw [List.length_map,← hm] at h
 exact h
theorem ok_first {hot:Bool} {o:Option VerD}:(if hot=true then (o.isSome&&(vD o).2.2.2.2.1) else o.isSome)=!(chStop hot 0 o):=by
 rw [chStop]
 generalize o.isSome=a
 generalize (vD o).2.2.2.2.1=c
 cases hot<;>cases a<;>cases c<;>rfl
theorem ok_next {Ps:List PgD} {n pg sl:Int} {hot:Bool} {m:Nat} {seen:List Int} {l:List (Nat×VerD)} (hse:∀ b,inS seen b=hasF n l n b):
  ((((atF (pvF Ps pg) sl).isSome&&(pg==n))&&(vD (atF (pvF Ps pg) sl)).2.2.2.2.1)&&!(hasF n l pg sl))=(((pg==n)&&!(inS seen sl))&&!(chStop hot (m+1) (atF (pvF Ps n) sl))):=by
 by_cases h:pg=n
 ·subst h
  have hd:decide (0 < ((m+1:Nat):Int))=true:=decide_eq_true (by omega)
  rw [beq_self_eq_true,hse sl,chStop,hd]
  cases (atF (pvF Ps pg) sl).isSome<;>cases (vD (atF (pvF Ps pg) sl)).2.2.2.2.1<;>cases hasF pg l pg sl<;>cases hot<;>rfl
 ·have hb:(pg==n)=false:=beq_false_of_ne h
  rw [hb]; simp
theorem se_next {n:Int} {seen:List Int} {ks:List FK} (hse:∀ b,inS seen b=hasF n (ks.map Prod.fst) n b) (k:FK):∀ b,inS ((k.1.1:Int)::seen) b=hasF n ((ks++[k]).map Prod.fst) n b:=fun b=>by
 have e1:hasF n ((ks++[k]).map Prod.fst) n b=(hasF n (ks.map Prod.fst) n b||((k.1.1:Int)==b)):=by
  rw [hasF,List.map_append,List.any_append,List.map_singleton,List.any_cons,List.any_nil,Bool.or_false]
  rw [show (n==n&&(k.1.1:Int)==b)=((k.1.1:Int)==b) by rw [beq_self_eq_true]; rfl]; rfl
 rw [e1,← hse b]
 show (if b=(k.1.1:Int) then true else inS seen b)= _
 by_cases e:b=(k.1.1:Int)
 ·subst e; simp
 ·rw [beq_false_of_ne (fun h=>e h.symm),Bool.or_false,if_neg e]
theorem ok_stop {v:PV} {n pg sl:Int} {hot:Bool} {m:Nat} {seen:List Int} (hsm:seen.length=m) (h:(((pg==n)&&!(inS seen sl))&&!(chStop hot m (atF v sl)))=false) (f:Nat):chR v n hot f seen pg sl=[]:=by
 rw [Bool.and_eq_false_iff] at h
 rcases h with h | h
 ·exact chR_no h
 ·exact chR_stop (by rw [hsm]; simpa using h)
theorem rchain_any (PA:Option Addr) (pc:Nat) (Ps:List PgD) (n j:Int) (w:World) (hP:PgsAt w PA Ps) (hj: -9223372036854775808≤j∧j≤9223372036854775807):
  Calls Tryz.prog 72 #[.agg #[.slice PA Ps.length pc], .agg #[.int .i64 n, .int .i64 j]] w (StkPost 147 (chF (pvF Ps n) n j) n w):=by
 have hwf:=hP.wf n
 go_enter Tryz.func72,Tryz.ntmps72
 have hst0:=St.start w
 refine wp_seq (sqr ?_)
 refine sqbx #[.slice PA Ps.length pc] hst0 fun B2_1 W1 hst1=>?_
 refine sqbx #[vi n,vi j] hst1 fun B3_2 W2 hst2=>?_
 refine sqp [.k 4 (.slice none 0 0)] ?_
 refine then_normal (wp_seq (sqr ?_))
 refine sqlb 0 1 hst2 ?_
 refine sqlb 1 2 hst2 ?_
 refine sqk2 (fun A12_6 c12_6=> .tuple #[.agg #[vi ((vD (atF (pvF Ps n) j)).1),vi ((vD (atF (pvF Ps n) j)).2.1),vi ((vD (atF (pvF Ps n) j)).2.2.1),vi ((vD (atF (pvF Ps n) j)).2.2.2.1), .bool ((vD (atF (pvF Ps n) j)).2.2.2.2.1), .slice A12_6 ((vD (atF (pvF Ps n) j)).2.2.2.2.2.length) c12_6], .bool ((atF (pvF Ps n) j).isSome)]) (fun A12_6 c12_6=>eO 45 3 (.slice A12_6 ((vD (atF (pvF Ps n) j)).2.2.2.2.2.length) c12_6) ((vD (atF (pvF Ps n) j)).2.2.2.2.2.length) (flatR (vD (atF (pvF Ps n) j)).2.2.2.2.2)) hst2 (fun cx=>⟨_,(rat_any _ _ Ps n j _ (hP.ext cx.upd.to_ext)).mono (by rintro e W1 ⟨A4,c4,rfl,ho,hx⟩; exact ⟨_, _,rfl,St.one hx (eO_new ho)⟩),(map2 (cx.ou 10) (cx.ou 11))⟩) fun A12_6 c12_6 W6 hst6=>?_
 refine sqp [.m 9 12, .k 13 (.agg #[vi ((vD (atF (pvF Ps n) j)).1),vi ((vD (atF (pvF Ps n) j)).2.1),vi ((vD (atF (pvF Ps n) j)).2.2.1),vi ((vD (atF (pvF Ps n) j)).2.2.2.1), .bool ((vD (atF (pvF Ps n) j)).2.2.2.2.1), .slice A12_6 ((vD (atF (pvF Ps n) j)).2.2.2.2.2.length) c12_6]), .k 14 (.bool ((atF (pvF Ps n) j).isSome))] ?_
 refine sqal #[vi 0,vi 0,vi 0,vi 0, .bool false, .slice none 0 0] hst6 fun B5_10 W10 hst10=>?_
 refine sqst (n:=6) 3 #[vi ((vD (atF (pvF Ps n) j)).1),vi ((vD (atF (pvF Ps n) j)).2.1),vi ((vD (atF (pvF Ps n) j)).2.2.1),vi ((vD (atF (pvF Ps n) j)).2.2.2.1), .bool ((vD (atF (pvF Ps n) j)).2.2.2.2.1), .slice A12_6 ((vD (atF (pvF Ps n) j)).2.2.2.2.2.length) c12_6] hst10 fun W11 hst11=>?_
 refine sqp [.m 6 14] ?_
 refine then_normal (wp_seq (sqr ?_))
 refine sqli 147 8 0 [] hst11 (@fun ρ β W X cx=>by simp [go_sem]) fun B15_13 W13 hst13=>?_
 refine sqp [.m 7 15] ?_
 refine then_normal (wp_seq (sqr ?_))
 refine sqlb 1 2 hst13 ?_
 refine sqal #[vi 0,vi 0] hst13 fun B8_16 W16 hst16=>?_
 refine sqst (n:=2) 5 #[vi n,vi j] hst16 fun W17 hst17=>?_
 refine then_normal ?_
 refine wp_cutT (fun t_ az W=>∃ sl0:Int,∃ hot:Bool,∃ okb:Bool,∃ VA:Option Addr,∃ VC:Nat,sl0=(if 0≤rdF (pvF Ps n) j then rdF (pvF Ps n) j else j)∧hot=decide (0≤rdF (pvF Ps n) j)∧okb=!(chStop hot 0 (atF (pvF Ps n) sl0))∧az=⟨(ovr (jv az) [(6,6,0,[.bool okb]),(10,17,19,[])] t_).toArray,[]⟩∧St w [] [eB B2_1 30 #[.slice PA Ps.length pc],eB B3_2 24 #[vi n,vi j],eB B8_16 24 #[vi n,vi sl0],eB B5_10 41 #[vi ((vD (atF (pvF Ps n) sl0)).1),vi ((vD (atF (pvF Ps n) sl0)).2.1),vi ((vD (atF (pvF Ps n) sl0)).2.2.1),vi ((vD (atF (pvF Ps n) sl0)).2.2.2.1), .bool ((vD (atF (pvF Ps n) sl0)).2.2.2.2.1), .slice VA ((vD (atF (pvF Ps n) sl0)).2.2.2.2.2.length) VC],eO 45 3 (.slice VA ((vD (atF (pvF Ps n) sl0)).2.2.2.2.2.length) VC) ((vD (atF (pvF Ps n) sl0)).2.2.2.2.2.length) (flatR (vD (atF (pvF Ps n) sl0)).2.2.2.2.2),eO 147 8 (.slice ((some ⟨B15_13,0,none⟩)) 0 0) 0 ([])] W) ?_ ?_
 ·refine wp_seq (sqr ?_)
  refine sqlb 0 1 hst17 ?_
  refine sqlb 1 2 hst17 ?_
  refine sqk (vi ((rdF (pvF Ps n) j))) hst17 (fun cx=>⟨_,rredirect_any _ _ Ps n j _ (hP.ext cx.upd.to_ext),(map2 (cx.ou 17) (cx.ou 18))⟩) fun W21 hst21=>?_
  refine sqp [.k 20 (.bool (decide (0≤(rdF (pvF Ps n) j))))] ?_
  refine then_normal (wds (fun hs23 hs23p=>?_) fun hs23 hs23p=>?_)
  ·refine wp_seq (sqr ?_)
   refine sqlb 0 1 hst21 ?_
   refine sqlb 1 2 hst21 ?_
   refine sqk (vi ((rdF (pvF Ps n) j))) hst21 (fun cx=>⟨_,rredirect_any _ _ Ps n j _ (hP.ext cx.upd.to_ext),(map2 (cx.ou 21) (cx.ou 22))⟩) fun W26 hst26=>?_
   refine sqp [.k 24 (.pointer (some ⟨B8_16,1,none⟩))] ?_
   refine sqst (n:=1) 5 #[vi n,vi ((rdF (pvF Ps n) j))] hst26 fun W28 hst28=>?_
   refine then_normal (wp_seq (sqr ?_))
   refine sqlb 0 1 hst28 ?_
   refine sqlb 5 2 hst28 ?_
   refine sqk2 (fun A28_31 c28_31=> .tuple #[.agg #[vi ((vD (atF (pvF Ps n) (rdF (pvF Ps n) j))).1),vi ((vD (atF (pvF Ps n) (rdF (pvF Ps n) j))).2.1),vi ((vD (atF (pvF Ps n) (rdF (pvF Ps n) j))).2.2.1),vi ((vD (atF (pvF Ps n) (rdF (pvF Ps n) j))).2.2.2.1), .bool ((vD (atF (pvF Ps n) (rdF (pvF Ps n) j))).2.2.2.2.1), .slice A28_31 ((vD (atF (pvF Ps n) (rdF (pvF Ps n) j))).2.2.2.2.2.length) c28_31], .bool ((atF (pvF Ps n) (rdF (pvF Ps n) j)).isSome)]) (fun A28_31 c28_31=>eO 45 3 (.slice A28_31 ((vD (atF (pvF Ps n) (rdF (pvF Ps n) j))).2.2.2.2.2.length) c28_31) ((vD (atF (pvF Ps n) (rdF (pvF Ps n) j))).2.2.2.2.2.length) (flatR (vD (atF (pvF Ps n) (rdF (pvF Ps n) j))).2.2.2.2.2)) hst28 (fun cx=>⟨_,(rat_any _ _ Ps n (rdF (pvF Ps n) j) _ (hP.ext cx.upd.to_ext)).mono (by rintro e W1 ⟨A4,c4,rfl,ho,hx⟩; exact ⟨_, _,rfl,St.one hx (eO_new ho)⟩),(map2 (cx.ou 26) (cx.ou 27))⟩) fun A28_31 c28_31 W31 hst31=>?_
   refine sqp [.m 25 28, .k 29 (.agg #[vi ((vD (atF (pvF Ps n) (rdF (pvF Ps n) j))).1),vi ((vD (atF (pvF Ps n) (rdF (pvF Ps n) j))).2.1),vi ((vD (atF (pvF Ps n) (rdF (pvF Ps n) j))).2.2.1),vi ((vD (atF (pvF Ps n) (rdF (pvF Ps n) j))).2.2.2.1), .bool ((vD (atF (pvF Ps n) (rdF (pvF Ps n) j))).2.2.2.2.1), .slice A28_31 ((vD (atF (pvF Ps n) (rdF (pvF Ps n) j))).2.2.2.2.2.length) c28_31]), .k 30 (.bool ((atF (pvF Ps n) (rdF (pvF Ps n) j)).isSome))] ?_
   refine sqst (n:=6) 3 #[vi ((vD (atF (pvF Ps n) (rdF (pvF Ps n) j))).1),vi ((vD (atF (pvF Ps n) (rdF (pvF Ps n) j))).2.1),vi ((vD (atF (pvF Ps n) (rdF (pvF Ps n) j))).2.2.1),vi ((vD (atF (pvF Ps n) (rdF (pvF Ps n) j))).2.2.2.1), .bool ((vD (atF (pvF Ps n) (rdF (pvF Ps n) j))).2.2.2.2.1), .slice A28_31 ((vD (atF (pvF Ps n) (rdF (pvF Ps n) j))).2.2.2.2.2.length) c28_31] hst31 fun W35 hst35=>?_
   refine sqp [.m 6 30] ?_
   refine then_normal (sqr (sqp [.m 31 6, .m 32 31] ?_))
   refine sqw' 32 [33,34] ?_ rfl (fun hq=>?_) ?_
   rotate_left
   ·refine sqp [.k 33 (.pointer (some ⟨B5_10,4,none⟩))] ?_
    refine sqld 3 hst35 ?_
    exact sqe
   refine sqwx ?_
   refine sqp [sPa 35 ((atF (pvF Ps n) (rdF (pvF Ps n) j)).isSome) ((vD (atF (pvF Ps n) (rdF (pvF Ps n) j))).2.2.2.2.1), .m 6 35] ?_
   refine then_normal ?_
   exact ⟨(rdF (pvF Ps n) j),true,(((atF (pvF Ps n) (rdF (pvF Ps n) j)).isSome)&&((vD (atF (pvF Ps n) (rdF (pvF Ps n) j))).2.2.2.2.1)),A28_31,c28_31,by rw [if_pos (by omega)],(decide_eq_true (by omega)).symm,ok_first (hot:=true),(by kernel_rfl),hst35.pk [0,1,5,3,6,4]⟩
  refine wp_skip (then_normal ?_)
  exact ⟨j,false,((atF (pvF Ps n) j).isSome),A12_6,c12_6,by rw [if_neg (by omega)],(decide_eq_false (by omega)).symm,ok_first (hot:=false),(by kernel_rfl),hst21.pk [0,1,5,3,2,4]⟩
 rintro a18 W18 ⟨sl0,hot,okb,VA,VC,hsl0,hh0,hok,hj_,hst18⟩
 refine ovz hj_ fun u18_=>?_
 obtain ⟨T,hT⟩:∃ T,chF (pvF Ps n) n j=T:=⟨_,rfl⟩
 rw [hT]
 rw [chF,← hsl0,← hh0] at hT
 have hrb:=rdF_bd (pvF Ps n) j
 refine wp_seq (wp_block ?_)
 have hsF_:St _ _ (_++[eFR []]) _:=St.emNil hst18
 simp only [List.cons_append,List.nil_append] at hsF_
 have hslr: -9223372036854775808≤sl0∧sl0≤9223372036854775807:=by rw [hsl0]; split<;>omega
 refine wp_loopT (fun t_ mz az W=>∃ seen:List Int,∃ m:Nat,∃ pg:Int,∃ sl:Int,∃ FA:Option Addr,∃ FC:Nat,∃ ks:List FK,∃ VA:Option Addr,∃ VC:Nat,∃ okb:Bool,seen.length=m∧ks.length=m∧(∀ b,inS seen b=hasF n (ks.map Prod.fst) n b)∧seen.Nodup∧(∀ x∈seen,1≤x∧x < ((23:Nat):Int)+1)∧ks.map Prod.fst++chR (pvF Ps n) n hot (24 - m) seen pg sl=T∧(-9223372036854775808≤sl∧sl≤9223372036854775807)∧okb=(((pg==n)&&!(inS seen sl))&&!(chStop hot m (atF (pvF Ps n) sl)))∧mz=24 - m∧az=⟨(ovr (jv az) [(6,6,0,[.bool okb, .slice FA m FC]),(28,36,33,[])] t_).toArray,[]⟩∧St w [] [eB B2_1 30 #[.slice PA Ps.length pc],eB B3_2 24 #[vi n,vi j],eB B8_16 24 #[vi pg,vi sl],eB B5_10 41 #[vi ((vD (atF (pvF Ps pg) sl)).1),vi ((vD (atF (pvF Ps pg) sl)).2.1),vi ((vD (atF (pvF Ps pg) sl)).2.2.1),vi ((vD (atF (pvF Ps pg) sl)).2.2.2.1), .bool ((vD (atF (pvF Ps pg) sl)).2.2.2.2.1), .slice VA ((vD (atF (pvF Ps pg) sl)).2.2.2.2.2.length) VC],eO 45 3 (.slice VA ((vD (atF (pvF Ps pg) sl)).2.2.2.2.2.length) VC) ((vD (atF (pvF Ps pg) sl)).2.2.2.2.2.length) (flatR (vD (atF (pvF Ps pg) sl)).2.2.2.2.2),eO 147 8 (.slice FA m FC) m (ks.flatMap (cellsF n)),eFR ks] W) (24 - 0) ?_ ?_
 · -- the loop begins
   exact ⟨[],0,n,sl0,(some ⟨B15_13,0,none⟩),0,[],VA,VC,okb,rfl,rfl,fun b=>rfl,List.nodup_nil,(fun x hx=>by cases hx),hT,hslr,by rw [hok,beq_self_eq_true]; rfl,rfl,(by kernel_rfl),hsF_.pk [0,1,2,3,4,5,6]⟩
 rintro n43 a43 W43 ⟨seen,m,pg,sl,FA,FC,ks,VA,VC,okb,hsm,hkm,hse,hsn,hsr,hch,hsl,hok,rfl,hj_,hst43⟩
 refine ovz hj_ fun u43_=>?_
 have hm23:m≤23:=by rw [← hsm]; exact nodup_len 23 seen hsn hsr
 refine wp_seq (wp_seq (sqr (sqp [.m 36 6] ?_)))
 refine then_normal (wbs (fun hs45=>?_) fun hs45=>?_)
 ·refine wp_skip (then_normal (wp_block (wp_seq ?_)))
  have hok2:=hok.symm.trans hs45
  rw [Bool.and_eq_true,Bool.not_eq_true'] at hok2
  obtain ⟨hcd,hgo⟩:=hok2
  obtain rfl:n=pg:=by have h_:=hcd; rw [Bool.and_eq_true,beq_iff_eq] at h_; exact h_.1.symm
  have hso:(atF (pvF Ps n) sl).isSome=true:=by have h_:=hgo; cases h9_:(atF (pvF Ps n) sl).isSome with | true=>rfl | false=>rw [chStop,h9_] at h_; simp at h_
  have hsb:=atF_some hwf hso
  have hnb:=atF_next hwf sl
  obtain ⟨S,rfl⟩:∃ S:Nat,sl=(S:Int):=⟨sl.toNat,by omega⟩
  have hns:(S:Int)∉seen:=by intro h_; have h2_:=inS_mem.2 h_; rw [h2_] at hcd; simp at hcd
  have hsr2:∀ x∈(S:Int)::seen,1≤x∧x < ((23:Nat):Int)+1:=fun x hx=>by
   rcases List.mem_cons.1 hx with rfl | h_
   ·omega
   ·exact hsr x h_
  have hmm:m+1≤23:=by rw [← hsm]; exact nodup_len 23 ((S:Int)::seen) (List.nodup_cons.2 ⟨hns,hsn⟩) hsr2
  refine sqr (sqp [.m 37 7] ?_)
  refine sqlb 2 2 hst43 ?_
  refine sqlb 3 6 hst43 ?_
  refine sqp [.k 40 (.agg #[vi n,vi (S:Int),vi ((vD (atF (pvF Ps n) (S:Int))).1),vi ((vD (atF (pvF Ps n) (S:Int))).2.1),vi ((vD (atF (pvF Ps n) (S:Int))).2.2.1),vi ((vD (atF (pvF Ps n) (S:Int))).2.2.2.1), .bool ((vD (atF (pvF Ps n) (S:Int))).2.2.2.2.1), .slice VA ((vD (atF (pvF Ps n) (S:Int))).2.2.2.2.2.length) VC])] ?_
  refine sqli 147 8 1 (cellsF n ((S,vD (atF (pvF Ps n) (S:Int))),VA,VC)) hst43 (@fun ρ β W X cx=>by have fF40:ρ (.tmp 40)= .agg #[vi n,vi (S:Int),vi ((vD (atF (pvF Ps n) (S:Int))).1),vi ((vD (atF (pvF Ps n) (S:Int))).2.1),vi ((vD (atF (pvF Ps n) (S:Int))).2.2.1),vi ((vD (atF (pvF Ps n) (S:Int))).2.2.2.1), .bool ((vD (atF (pvF Ps n) (S:Int))).2.2.2.2.1), .slice VA ((vD (atF (pvF Ps n) (S:Int))).2.2.2.2.2.length) VC]:=(cx.ou 40); simp [go_sem,fF40,cellsF]) fun B41_50 W50 hst50=>?_
  refine sqap (m+1) ((ks++[((S,vD (atF (pvF Ps n) (S:Int))),VA,VC)]).flatMap (cellsF n)) 5 hst50 Tryz.infoRFnd (fun cx=>(At.of_ownN (cx.ri 7 rfl))) (h1:=by simp [cellsF,Value.oneCell']) (hxs:=found_snoc _ _ _) fun A42_51 c42_51 W51 hst51=>?_
  refine sqp [.m 7 42] ?_
  refine then_normal (wp_seq (sqr (sqp [.k 43 (.pointer (some ⟨B5_10,2,none⟩))] ?_)))
  refine sqlb 3 2 hst51 ?_
  refine sqst (n:=2) 2 #[vi ((vD (atF (pvF Ps n) (S:Int))).2.2.1),vi ((vD (atF (pvF Ps n) (S:Int))).2.2.2.1)] hst51 fun W55 hst55=>?_
  refine then_normal (wp_seq (sqr ?_))
  refine sqlb 0 1 hst55 ?_
  refine sqlb 2 2 hst55 ?_
  refine sqk2 (fun A48_58 c48_58=> .tuple #[.agg #[vi ((vD (atF (pvF Ps ((vD (atF (pvF Ps n) (S:Int))).2.2.1)) ((vD (atF (pvF Ps n) (S:Int))).2.2.2.1))).1),vi ((vD (atF (pvF Ps ((vD (atF (pvF Ps n) (S:Int))).2.2.1)) ((vD (atF (pvF Ps n) (S:Int))).2.2.2.1))).2.1),vi ((vD (atF (pvF Ps ((vD (atF (pvF Ps n) (S:Int))).2.2.1)) ((vD (atF (pvF Ps n) (S:Int))).2.2.2.1))).2.2.1),vi ((vD (atF (pvF Ps ((vD (atF (pvF Ps n) (S:Int))).2.2.1)) ((vD (atF (pvF Ps n) (S:Int))).2.2.2.1))).2.2.2.1), .bool ((vD (atF (pvF Ps ((vD (atF (pvF Ps n) (S:Int))).2.2.1)) ((vD (atF (pvF Ps n) (S:Int))).2.2.2.1))).2.2.2.2.1), .slice A48_58 ((vD (atF (pvF Ps ((vD (atF (pvF Ps n) (S:Int))).2.2.1)) ((vD (atF (pvF Ps n) (S:Int))).2.2.2.1))).2.2.2.2.2.length) c48_58], .bool ((atF (pvF Ps ((vD (atF (pvF Ps n) (S:Int))).2.2.1)) ((vD (atF (pvF Ps n) (S:Int))).2.2.2.1)).isSome)]) (fun A48_58 c48_58=>eO 45 3 (.slice A48_58 ((vD (atF (pvF Ps ((vD (atF (pvF Ps n) (S:Int))).2.2.1)) ((vD (atF (pvF Ps n) (S:Int))).2.2.2.1))).2.2.2.2.2.length) c48_58) ((vD (atF (pvF Ps ((vD (atF (pvF Ps n) (S:Int))).2.2.1)) ((vD (atF (pvF Ps n) (S:Int))).2.2.2.1))).2.2.2.2.2.length) (flatR (vD (atF (pvF Ps ((vD (atF (pvF Ps n) (S:Int))).2.2.1)) ((vD (atF (pvF Ps n) (S:Int))).2.2.2.1))).2.2.2.2.2)) hst55 (fun cx=>⟨_,(rat_any _ _ Ps ((vD (atF (pvF Ps n) (S:Int))).2.2.1) ((vD (atF (pvF Ps n) (S:Int))).2.2.2.1) _ (hP.ext cx.upd.to_ext)).mono (by rintro e W1 ⟨A4,c4,rfl,ho,hx⟩; exact ⟨_, _,rfl,St.one hx (eO_new ho)⟩),(map2 (cx.ou 46) (cx.ou 47))⟩) fun A48_58 c48_58 W58 hst58=>?_
  refine sqp [.m 45 48, .k 49 (.agg #[vi ((vD (atF (pvF Ps ((vD (atF (pvF Ps n) (S:Int))).2.2.1)) ((vD (atF (pvF Ps n) (S:Int))).2.2.2.1))).1),vi ((vD (atF (pvF Ps ((vD (atF (pvF Ps n) (S:Int))).2.2.1)) ((vD (atF (pvF Ps n) (S:Int))).2.2.2.1))).2.1),vi ((vD (atF (pvF Ps ((vD (atF (pvF Ps n) (S:Int))).2.2.1)) ((vD (atF (pvF Ps n) (S:Int))).2.2.2.1))).2.2.1),vi ((vD (atF (pvF Ps ((vD (atF (pvF Ps n) (S:Int))).2.2.1)) ((vD (atF (pvF Ps n) (S:Int))).2.2.2.1))).2.2.2.1), .bool ((vD (atF (pvF Ps ((vD (atF (pvF Ps n) (S:Int))).2.2.1)) ((vD (atF (pvF Ps n) (S:Int))).2.2.2.1))).2.2.2.2.1), .slice A48_58 ((vD (atF (pvF Ps ((vD (atF (pvF Ps n) (S:Int))).2.2.1)) ((vD (atF (pvF Ps n) (S:Int))).2.2.2.1))).2.2.2.2.2.length) c48_58]), .k 50 (.bool ((atF (pvF Ps ((vD (atF (pvF Ps n) (S:Int))).2.2.1)) ((vD (atF (pvF Ps n) (S:Int))).2.2.2.1)).isSome))] ?_
  refine sqst (n:=6) 3 #[vi ((vD (atF (pvF Ps ((vD (atF (pvF Ps n) (S:Int))).2.2.1)) ((vD (atF (pvF Ps n) (S:Int))).2.2.2.1))).1),vi ((vD (atF (pvF Ps ((vD (atF (pvF Ps n) (S:Int))).2.2.1)) ((vD (atF (pvF Ps n) (S:Int))).2.2.2.1))).2.1),vi ((vD (atF (pvF Ps ((vD (atF (pvF Ps n) (S:Int))).2.2.1)) ((vD (atF (pvF Ps n) (S:Int))).2.2.2.1))).2.2.1),vi ((vD (atF (pvF Ps ((vD (atF (pvF Ps n) (S:Int))).2.2.1)) ((vD (atF (pvF Ps n) (S:Int))).2.2.2.1))).2.2.2.1), .bool ((vD (atF (pvF Ps ((vD (atF (pvF Ps n) (S:Int))).2.2.1)) ((vD (atF (pvF Ps n) (S:Int))).2.2.2.1))).2.2.2.2.1), .slice A48_58 ((vD (atF (pvF Ps ((vD (atF (pvF Ps n) (S:Int))).2.2.1)) ((vD (atF (pvF Ps n) (S:Int))).2.2.2.1))).2.2.2.2.2.length) c48_58] hst58 fun W62 hst62=>?_
  refine sqp [.m 6 50] ?_
  refine then_normal (sqr (sqp [.m 51 6, .m 52 51] ?_))
  refine sqw' 52 [53,54,55,56,57] ?_ rfl (fun hq=>?_) ?_
  rotate_left
  ·refine sqp [.k 53 (vp B8_16)] ?_
   refine sqld 2 hst62 ?_
   refine sqp [.k 55 (vp B3_2)] ?_
   refine sqld 1 hst62 ?_
   refine sqp [.k 57 (.bool (((vD (atF (pvF Ps n) (S:Int))).2.2.1)==n))] ?_
   exact sqe
  refine sqwx ?_
  refine sqp [sPa 58 ((atF (pvF Ps ((vD (atF (pvF Ps n) (S:Int))).2.2.1)) ((vD (atF (pvF Ps n) (S:Int))).2.2.2.1)).isSome) (((vD (atF (pvF Ps n) (S:Int))).2.2.1)==n), .m 59 58] ?_
  refine sqw' 59 [60,61] ?_ rfl (fun hq=>?_) ?_
  rotate_left
  ·refine sqp [.k 60 (.pointer (some ⟨B5_10,4,none⟩))] ?_
   refine sqld 3 hst62 ?_
   exact sqe
  refine sqwx ?_
  refine sqp [sPa 62 (((atF (pvF Ps ((vD (atF (pvF Ps n) (S:Int))).2.2.1)) ((vD (atF (pvF Ps n) (S:Int))).2.2.2.1)).isSome)&&(((vD (atF (pvF Ps n) (S:Int))).2.2.1)==n)) ((vD (atF (pvF Ps ((vD (atF (pvF Ps n) (S:Int))).2.2.1)) ((vD (atF (pvF Ps n) (S:Int))).2.2.2.1))).2.2.2.2.1), .m 63 62] ?_
  refine sqwW 63 [64,65,66,67] ?_ hst62 rfl (fun hq=>?_) fun W81 hst81=>?_
  rotate_left
  ·have hq_:=hq
   try simp only [zB] at hq_
   refine sqp [.m 64 7] ?_
   refine sqlb 2 2 hst62 ?_
   refine sqk (.bool ((hasF n ((ks++[((S,vD (atF (pvF Ps n) (S:Int))),VA,VC)]).map Prod.fst) ((vD (atF (pvF Ps n) (S:Int))).2.2.1) ((vD (atF (pvF Ps n) (S:Int))).2.2.2.1)))) hst62 (fun cx=>⟨_,rhas_n (m:=(m+1)) (n:=n) (ks:=(ks++[((S,vD (atF (pvF Ps n) (S:Int))),VA,VC)])) (by rw [List.length_append,hkm]; rfl) (At.of_ownN (cx.ri 5 rfl)) (by omega),(map2 (cx.ou 64) (cx.ou 65))⟩) fun W79 hst79=>?_
   refine sqp [.k 67 (.bool (!((hasF n ((ks++[((S,vD (atF (pvF Ps n) (S:Int))),VA,VC)]).map Prod.fst) ((vD (atF (pvF Ps n) (S:Int))).2.2.1) ((vD (atF (pvF Ps n) (S:Int))).2.2.2.1)))))] ?_
   exact sqE hst79
  refine sqwx ?_
  refine sqp [sPa 68 ((((atF (pvF Ps ((vD (atF (pvF Ps n) (S:Int))).2.2.1)) ((vD (atF (pvF Ps n) (S:Int))).2.2.2.1)).isSome)&&(((vD (atF (pvF Ps n) (S:Int))).2.2.1)==n))&&((vD (atF (pvF Ps ((vD (atF (pvF Ps n) (S:Int))).2.2.1)) ((vD (atF (pvF Ps n) (S:Int))).2.2.2.1))).2.2.2.2.1)) (!((hasF n ((ks++[((S,vD (atF (pvF Ps n) (S:Int))),VA,VC)]).map Prod.fst) ((vD (atF (pvF Ps n) (S:Int))).2.2.1) ((vD (atF (pvF Ps n) (S:Int))).2.2.2.1)))), .m 6 68] ?_
  refine blk_normal (then_normal ?_)
  have hmF84:=St.mergeF (s:=S) (v:=vD (atF (pvF Ps n) (S:Int))) (A:=VA) (c:=VC) (ks:=ks) (L:=[eB B2_1 30 #[.slice PA Ps.length pc],eB B3_2 24 #[vi n,vi j],eB B8_16 24 #[vi ((vD (atF (pvF Ps n) (S:Int))).2.2.1),vi ((vD (atF (pvF Ps n) (S:Int))).2.2.2.1)],eB B5_10 41 #[vi ((vD (atF (pvF Ps ((vD (atF (pvF Ps n) (S:Int))).2.2.1)) ((vD (atF (pvF Ps n) (S:Int))).2.2.2.1))).1),vi ((vD (atF (pvF Ps ((vD (atF (pvF Ps n) (S:Int))).2.2.1)) ((vD (atF (pvF Ps n) (S:Int))).2.2.2.1))).2.1),vi ((vD (atF (pvF Ps ((vD (atF (pvF Ps n) (S:Int))).2.2.1)) ((vD (atF (pvF Ps n) (S:Int))).2.2.2.1))).2.2.1),vi ((vD (atF (pvF Ps ((vD (atF (pvF Ps n) (S:Int))).2.2.1)) ((vD (atF (pvF Ps n) (S:Int))).2.2.2.1))).2.2.2.1), .bool ((vD (atF (pvF Ps ((vD (atF (pvF Ps n) (S:Int))).2.2.1)) ((vD (atF (pvF Ps n) (S:Int))).2.2.2.1))).2.2.2.2.1), .slice A48_58 ((vD (atF (pvF Ps ((vD (atF (pvF Ps n) (S:Int))).2.2.1)) ((vD (atF (pvF Ps n) (S:Int))).2.2.2.1))).2.2.2.2.2.length) c48_58],eO 147 8 (.slice A42_51 (m+1) c42_51) (m+1) ((ks++[((S,vD (atF (pvF Ps n) (S:Int))),VA,VC)]).flatMap (cellsF n)),eO 147 8 (.slice ((some ⟨B41_50,0,none⟩)) 1 1) 1 (cellsF n ((S,vD (atF (pvF Ps n) (S:Int))),VA,VC)),eO 45 3 (.slice A48_58 ((vD (atF (pvF Ps ((vD (atF (pvF Ps n) (S:Int))).2.2.1)) ((vD (atF (pvF Ps n) (S:Int))).2.2.2.1))).2.2.2.2.2.length) c48_58) ((vD (atF (pvF Ps ((vD (atF (pvF Ps n) (S:Int))).2.2.1)) ((vD (atF (pvF Ps n) (S:Int))).2.2.2.1))).2.2.2.2.2.length) (flatR (vD (atF (pvF Ps ((vD (atF (pvF Ps n) (S:Int))).2.2.1)) ((vD (atF (pvF Ps n) (S:Int))).2.2.2.1))).2.2.2.2.2)]) (hst81.pick [0,1,2,3,5,7,8,6,4] (by decide) rfl)
  simp only [List.cons_append,List.nil_append] at hmF84
  refine ⟨24 - ((m+1)),by omega,?_⟩
  exact ⟨((S:Int)::seen),(m+1),(vD (atF (pvF Ps n) (S:Int))).2.2.1,(vD (atF (pvF Ps n) (S:Int))).2.2.2.1,A42_51,c42_51,(ks++[((S,vD (atF (pvF Ps n) (S:Int))),VA,VC)]),A48_58,c48_58,(((((atF (pvF Ps ((vD (atF (pvF Ps n) (S:Int))).2.2.1)) ((vD (atF (pvF Ps n) (S:Int))).2.2.2.1)).isSome)&&(((vD (atF (pvF Ps n) (S:Int))).2.2.1)==n))&&((vD (atF (pvF Ps ((vD (atF (pvF Ps n) (S:Int))).2.2.1)) ((vD (atF (pvF Ps n) (S:Int))).2.2.2.1))).2.2.2.2.1))&&(!((hasF n ((ks++[((S,vD (atF (pvF Ps n) (S:Int))),VA,VC)]).map Prod.fst) ((vD (atF (pvF Ps n) (S:Int))).2.2.1) ((vD (atF (pvF Ps n) (S:Int))).2.2.2.1))))),by rw [List.length_cons,hsm],by rw [List.length_append,hkm]; rfl,se_next hse ((S,vD (atF (pvF Ps n) (S:Int))),VA,VC),List.nodup_cons.2 ⟨hns,hsn⟩,hsr2,by rw [← hch,chR_go (by omega) hcd (by rw [hsm]; exact hgo),List.map_append,List.append_assoc,show 24 - m - 1=24 - (m+1) by omega]; rfl,⟨by omega,by omega⟩,ok_next (se_next hse ((S,vD (atF (pvF Ps n) (S:Int))),VA,VC)),rfl,(by kernel_rfl),hmF84.pk [0,1,2,3,6,4,7]⟩
 refine wp_exit (then_exit (then_exit (blk_eq (then_normal (wp_seq (sqr (sqp [.m 69 7, .m 4 69] ?_)))))))
 refine then_normal (wp_ret ?_)
 refine bpr (.slice FA m FC) (results_1 Tryz.results72 rpt) ?_
 rw [ok_stop hsm (hok.symm.trans hs45),List.append_nil] at hch
 have hlm:m=T.length:=by rw [← hch,List.length_map,hkm]
 exact St.fk hch hlm (hst43.pick [6,5] (by decide) rfl)
end
section
open Go.RowKit
def tabF (T:List Int) (x:Int):Int:=if x < 0∨127 < x then 0 else T.getD x.toNat 0
theorem steps_turn {a b k:Int} (ha:onF a=true) (hb:onF b=true) (hk:0≤k) (hk2:k≤stepsF a b) (h:turnF a k=b):k=stepsF a b:=by
 have h1:=onF_iff.1 ha
 have h2:=onF_iff.1 hb
 rw [turnF_on ha hk] at h
 unfold stepsF at*
 omega
theorem steps_at {a b:Int} (ha:onF a=true) (hb:onF b=true):turnF a (stepsF a b)=b:=by
 have h1:=onF_iff.1 ha
 have h2:=onF_iff.1 hb
 rw [turnF_on ha (by unfold stepsF; omega)]
 unfold stepsF
 omega
theorem steps_bd (a b:Int):0≤stepsF a b∧stepsF a b < 125:=by unfold stepsF; omega
theorem con_step {ls:List Int} {x:Int} {k:Nat} (h:k < ls.length) (hc:(ls.take k).contains x=false) (hne:ls.getD k 0≠x):(ls.take (k+1)).contains x=false:=by
 rw [List.take_add_one,List.getElem?_eq_getElem h]
 rw [List.getD_eq_getElem?_getD,List.getElem?_eq_getElem h] at hne
 simp only [List.contains_eq_mem,decide_eq_false_iff_not] at hc ⊢
 intro hm
 rcases List.mem_append.1 hm with hm | hm
 ·exact hc hm
 ·simp at hm; exact hne hm.symm
theorem rst_any (T:List Int) (x:Int) (w:World) (hT:T.length=128):
  Calls Tryz.prog 75 #[.agg (T.map (Value.int .i64)).toArray, .int .i64 x] w (Ret (.int .i64 (tabF T x)) w):=by
 go_enter Tryz.func75,Tryz.ntmps75
 have hst0:=St.start w
 refine wp_seq (sqr ?_)
 refine sqn1 (fun x_=>pb x_) (fun B2_1=>vp B2_1) (fun B2_1=>eB B2_1 34 (T.map (Value.int .i64)).toArray) hst0 (by
   refine svA fun ρ β W X cx=>?_
   exact dv_box (cs:=(T.map (Value.int .i64)).toArray) rfl (cx.ou 0) rfl rfl rfl (fun σ β' X' hs hb hv hx=>⟨hv,hx⟩)) fun B2_1 W1 hst1=>?_
 refine sqp [.k 4 (vi 0)] ?_
 refine then_normal (wp_seq (wp_seq (sqr (sqp [.m 5 1, .k 6 (.bool (decide (x < 0))), .m 7 6] ?_))))
 refine sqw 7 [8,9] rfl (fun _=>sqp [.m 8 1, .k 9 (.bool (decide (127 < x)))] sqe) ?_
 refine sqp [sPo 10 (decide (x < 0)) (decide (127 < x))] ?_
 refine then_normal (wbs (fun hs9=>?_) fun hs9=>?_)
 ·have hs9p:=hs9
  simp only [zB] at hs9p
  refine wp_seq (sqr (sqp [.k 4 (vi 0)] ?_))
  refine then_normal (wp_ret (then_ret ?_))
  refine bpr (vi 0) (results_1 Tryz.results75 rpt) ?_
  exact Ret.int (by unfold tabF; rw [if_pos (by omega)]) hst1.ext
 have hs9p:=hs9
 simp only [zB] at hs9p
 obtain ⟨hs9p1,hs9p2⟩:=hs9p
 refine wp_skip (then_normal (wp_seq (sqr (sqp [.m 11 1, .k 12 (vp B2_1)] ?_))))
 refine sql (.pointer (some ⟨B2_1,(x).toNat,none⟩)) hst1 (fun cx=>run_indexArrB (n:=128) (sz:=1) (m:=(x).toNat) (q:=(x).toNat) rfl (by kernel_rfl) (cx.ou 12) (cx.ou 11) (by omega) (by omega) (by omega)) ?_
 refine sql (vi (T.getD ((x).toNat) 0)) hst1 (fun cx=>run_load1 rfl (by kernel_rfl) (cx.ou 13) (((cx.bi 0 rfl).cell ((x).toNat)).trans ((List.getElem?_toArray ..).trans (getD_int (by omega))))) ?_
 refine sqp [.m 4 14] ?_
 refine then_normal (wp_ret ?_)
 refine bpr (vi (T.getD ((x).toNat) 0)) (results_1 Tryz.results75 rpt) ?_
 exact Ret.int (by unfold tabF; rw [if_neg (by omega)]) hst1.ext
theorem rsteps_any (a b:Int) (w:World) (ha:onF a=true) (hb:onF b=true):
  Calls Tryz.prog 244 #[.int .i64 a, .int .i64 b] w (Ret (.int .i64 (stepsF a b)) w):=by
 have hsb:=steps_bd a b
 go_enter Tryz.func244,Tryz.ntmps244
 have hst0:=St.start w
 refine wp_seq (sqr (sqp [.k 4 (vi 0)] ?_))
 refine then_normal (wp_seq (sqr (sqp [.k 5 (vi 0)] ?_)))
 refine then_normal (wp_seq (wp_block ?_))
 refine wp_loopT (fun t_ mz az W=>∃ k:Nat,(k:Int)≤stepsF a b∧mz=(stepsF a b).toNat - k∧az=⟨(ovr (jv az) [(0,0,0,[vi (turnF a (k:Int))]),(4,5,0,[vi ((k:Int))]),(0,6,7,[])] t_).toArray,[]⟩∧St w [] [] W) ((stepsF a b).toNat - 0) ?_ ?_
 · -- the loop begins
   exact ⟨0,hsb.1,rfl,(by rw [show turnF a ((0:Nat):Int)=a from turnF_0 ha]; rfl),hst0.pk []⟩
 rintro n3 a3 W3 ⟨k,hk,rfl,hj_,hst3⟩
 refine ovz hj_ fun u3_=>?_
 refine wp_seq (wp_seq (sqr (sqp [.m 6 0, .m 7 1, .k 8 (.bool ((turnF a (k:Int)) != b))] ?_)))
 refine then_normal (wbs (fun hs7=>?_) fun hs7=>?_)
 ·have hs7p:=bne_iff_ne.1 hs7
  refine wp_skip (then_normal (wp_block (wp_seq (sqr (sqp [.m 9 0] ?_)))))
  refine sqk (vi (nextF (turnF a (k:Int)))) hst3 (fun cx=>⟨_,rnext_any (turnF a (k:Int)) _,(map1 (cx.ou 9))⟩) fun W9 hst9=>?_
  refine sqp [.m 0 10] ?_
  refine then_normal (sqr (sqp [.m 11 5,sI 12 ((k:Int)+1) (by omega), .m 5 12] ?_))
  refine blk_normal (then_normal ?_)
  have hne:(k:Int)≠stepsF a b:=fun h=>(show turnF a (k:Int)≠b by assumption) (by rw [h]; exact steps_at ha hb)
  refine ⟨(stepsF a b).toNat - ((k+1)),by omega,?_⟩
  exact ⟨(k+1),by omega,rfl,(by rw [show nextF (turnF a (k:Int))=turnF a (((k+1:Nat)):Int) from nextF_turn ha (by omega)]; rfl),hst9.pk []⟩
 have hs7p:=bne_eq_false_iff_eq.1 hs7
 refine wp_exit (then_exit (then_exit (blk_eq (then_normal (wp_seq (sqr (sqp [.m 13 5, .m 4 13] ?_)))))))
 refine then_normal (wp_ret ?_)
 refine bpr (vi ((k:Int))) (results_1 Tryz.results244 rpt) ?_
 exact Ret.int (steps_turn ha hb (by omega) hk (by assumption)) hst3.ext
theorem rbefore_any (a b:Int) (w:World):
  Calls Tryz.prog 211 #[.int .i64 a, .int .i64 b] w (Ret (.bool (beforeF a b)) w):=by
 go_enter Tryz.func211,Tryz.ntmps211
 have hst0:=St.start w
 refine wp_seq (sqr (sqp [.k 4 (.bool false)] ?_))
 refine then_normal (wp_seq (sqr (sqp [.m 8 0] ?_)))
 refine sqk (.bool (onF a)) hst0 (fun cx=>⟨_,ron_any a _,(map1 (cx.ou 8))⟩) fun W3 hst3=>?_
 refine sqp [.m 5 9] ?_
 refine then_normal (wp_seq (sqr (sqp [.m 10 1] ?_)))
 refine sqk (.bool (onF b)) hst3 (fun cx=>⟨_,ron_any b _,(map1 (cx.ou 10))⟩) fun W6 hst6=>?_
 refine sqp [.m 6 11] ?_
 refine then_normal (wp_seq (wp_seq (sqr (sqp [.m 12 0, .k 13 (.bool (a==2))] ?_))))
 refine then_normal (wbs (fun hs10=>?_) fun hs10=>?_)
 ·have hs10p:=beq_iff_eq.1 hs10
  refine wp_seq (sqr (sqp [.m 14 6, .m 4 14] ?_))
  refine then_normal (wp_ret (then_ret ?_))
  refine bpr (.bool (onF b)) (results_1 Tryz.results211 rpt) ?_
  exact Ret.bool (by by_cases h2:a=2<;>cases h3:onF a<;>cases h4:onF b<;>first | (simp_all [beforeF]; done) | (rw [beforeF,if_neg h2,h3,h4]; rfl)) hst6.ext
 have hs10p:=beq_eq_false_iff_ne.1 hs10
 refine wp_skip (then_normal (wp_seq (wp_seq (sqr (sqp [.m 15 5, .k 16 (.bool (!(onF a))), .m 17 16] ?_)))))
 refine sqw 17 [18,19] rfl (fun _=>sqp [.m 18 6, .k 19 (.bool (!(onF b)))] sqe) ?_
 refine sqp [sPo 20 (!(onF a)) (!(onF b))] ?_
 refine then_normal (wbs (fun hs19=>?_) fun hs19=>?_)
 ·have hs19p:=hs19
  simp only [zB] at hs19p
  refine wp_seq (sqr (sqp [.k 4 (.bool false)] ?_))
  refine then_normal (wp_ret (then_ret ?_))
  refine bpr (.bool false) (results_1 Tryz.results211 rpt) ?_
  exact Ret.bool (by by_cases h2:a=2<;>cases h3:onF a<;>cases h4:onF b<;>first | (simp_all [beforeF]; done) | (rw [beforeF,if_neg h2,h3,h4]; rfl)) hst6.ext
 have hs19p:=hs19
 simp only [zB] at hs19p
 obtain ⟨hs19p1,hs19p2⟩:=hs19p
 refine wp_skip (then_normal (wp_seq (sqr (sqp [.m 21 0, .m 22 1] ?_))))
 refine sqk (vi (stepsF a b)) hst6 (fun cx=>⟨_,rsteps_any a b _ (by assumption) (by assumption),(map2 (cx.ou 21) (cx.ou 22))⟩) fun W23 hst23=>?_
 refine sqp [.m 7 23] ?_
 refine then_normal (wp_seq (sqr (sqp [.m 24 7, .k 25 (.bool (decide (1≤stepsF a b))), .m 26 25] ?_)))
 refine sqw 26 [27,28] rfl (fun _=>sqp [.m 27 7, .k 28 (.bool (decide (stepsF a b≤62)))] sqe) ?_
 refine sqp [sPa 29 (decide (1≤stepsF a b)) (decide (stepsF a b≤62)), .m 4 29] ?_
 refine then_normal (wp_ret ?_)
 refine bpr (.bool ((decide (1≤stepsF a b))&&(decide (stepsF a b≤62)))) (results_1 Tryz.results211 rpt) ?_
 exact Ret.bool (by by_cases h2:a=2<;>cases h3:onF a<;>cases h4:onF b<;>first | (simp_all [beforeF]; done) | (rw [beforeF,if_neg h2,h3,h4]; rfl)) hst23.ext
theorem rold_any (x hz:Int) (T:List Int) (g:Int→Int) (w:World) (hT:T.length=128) (hg:∀ x,tabF T x=g x):
  Calls Tryz.prog 144 #[.int .i64 x, .int .i64 hz, .agg (T.map (Value.int .i64)).toArray] w (Ret (.bool (oldF g hz x)) w):=by
 go_enter Tryz.func144,Tryz.ntmps144
 have hst0:=St.start w
 refine wp_seq (sqr ?_)
 refine sqn1 (fun x_=>pb x_) (fun B5_1=>vp B5_1) (fun B5_1=>eB B5_1 34 (T.map (Value.int .i64)).toArray) hst0 (by
   refine svA fun ρ β W X cx=>?_
   exact dv_box (cs:=(T.map (Value.int .i64)).toArray) rfl (cx.ou 2) rfl rfl rfl (fun σ β' X' hs hb hv hx=>⟨hv,hx⟩)) fun B5_1 W1 hst1=>?_
 refine sqp [.k 6 (.bool false)] ?_
 refine then_normal (wp_seq (sqr (sqp [.m 8 0] ?_)))
 refine sqk (.bool (onF x)) hst1 (fun cx=>⟨_,ron_any x _,(map1 (cx.ou 8))⟩) fun W4 hst4=>?_
 refine sqp [.m 7 9] ?_
 refine then_normal (wp_seq (sqr (sqp [.m 10 7, .m 11 10] ?_)))
 refine sqwW 11 [12,13,14] ?_ hst4 rfl (fun hq=>?_) fun W11 hst11=>?_
 rotate_left
 ·refine sqp [.m 12 0, .m 13 1] ?_
  refine sqk (.bool (beforeF x hz)) hst4 (fun cx=>⟨_,rbefore_any x hz _,(map2 (cx.ou 12) (cx.ou 13))⟩) fun W10 hst10=>?_
  exact sqE hst10
 refine sqwx ?_
 refine sqp [sPa 15 (onF x) (beforeF x hz), .m 16 15] ?_
 refine sqwW 16 [17,18,19,20] ?_ hst11 rfl (fun hq=>?_) fun W18 hst18=>?_
 rotate_left
 ·refine sql (.agg (T.map (Value.int .i64)).toArray) hst11 (fun cx=>run_loadAr (n:=128) rfl (by kernel_rfl) (by kernel_rfl) (cx.ou 5) (cx.bi 0 rfl) (by simp [hT])) ?_
  refine sqp [.m 18 0] ?_
  refine sqk (vi (g x)) hst11 (fun cx=>⟨_,((rst_any T x _ hT).mono fun e W1 h_=>⟨h_.1.trans (by rw [hg]),h_.2⟩),(map2 (cx.ou 17) (cx.ou 18))⟩) fun W16 hst16=>?_
  refine sqp [.k 20 (.bool ((g x)==2))] ?_
  exact sqE hst16
 refine sqwx ?_
 refine sqp [sPa 21 ((onF x)&&(beforeF x hz)) ((g x)==2), .m 6 21] ?_
 refine then_normal (wp_ret ?_)
 refine bpr (.bool (((onF x)&&(beforeF x hz))&&((g x)==2))) (results_1 Tryz.results144 rpt) ?_
 exact Ret.bool (by simp [oldF,Bool.and_assoc]) hst18.ext
theorem rdead_any (hz:Int) (T:List Int) (g:Int→Int) (a b n1 n2:Int) (ho:Bool) (RA:Option Addr) (rn rc:Nat) (w:World) (hT:T.length=128) (hg:∀ x,tabF T x=g x):
  Calls Tryz.prog 79 #[.agg #[.int .i64 a, .int .i64 b, .int .i64 n1, .int .i64 n2, .bool ho, .slice RA rn rc], .int .i64 hz, .agg (T.map (Value.int .i64)).toArray] w (Ret (.bool (deadF g hz a b)) w):=by
 go_enter Tryz.func79,Tryz.ntmps79
 have hst0:=St.start w
 refine wp_seq (sqr ?_)
 refine sqbx #[vi a,vi b,vi n1,vi n2, .bool ho, .slice RA rn rc] hst0 fun B3_1 W1 hst1=>?_
 refine sqn1 (fun x_=>pb x_) (fun B5_2=>vp B5_2) (fun B5_2=>eB B5_2 34 (T.map (Value.int .i64)).toArray) hst1 (by
   refine svA fun ρ β W X cx=>?_
   exact dv_box (cs:=(T.map (Value.int .i64)).toArray) rfl (cx.ou 2) rfl rfl rfl (fun σ β' X' hs hb hv hx=>⟨hv,hx⟩)) fun B5_2 W2 hst2=>?_
 refine sqp [.k 6 (.bool false)] ?_
 refine then_normal (wp_seq (sqr (sqp [.k 8 (.pointer (some ⟨B3_1,1,none⟩))] ?_)))
 refine sqld 0 hst2 ?_
 refine sqp [.m 10 1] ?_
 refine sql (.agg (T.map (Value.int .i64)).toArray) hst2 (fun cx=>run_loadAr (n:=128) rfl (by kernel_rfl) (by kernel_rfl) (cx.ou 5) (cx.bi 1 rfl) (by simp [hT])) ?_
 refine sqk (.bool (oldF g hz b)) hst2 (fun cx=>⟨_,rold_any b hz T g _ hT hg,(map3 (cx.ou 9) (cx.ou 10) (cx.ou 11))⟩) fun W8 hst8=>?_
 refine sqp [.m 7 12] ?_
 refine then_normal (wp_seq (sqr ?_))
 refine sql (.agg (T.map (Value.int .i64)).toArray) hst8 (fun cx=>run_loadAr (n:=128) rfl (by kernel_rfl) (by kernel_rfl) (cx.ou 5) (cx.bi 1 rfl) (by simp [hT])) ?_
 refine sqp [.k 14 (vp B3_1)] ?_
 refine sqld 0 hst8 ?_
 refine sqk (vi (g a)) hst8 (fun cx=>⟨_,((rst_any T a _ hT).mono fun e W1 h_=>⟨h_.1.trans (by rw [hg]),h_.2⟩),(map2 (cx.ou 13) (cx.ou 15))⟩) fun W13 hst13=>?_
 refine sqp [.k 17 (.bool ((g a)==3)), .m 18 17] ?_
 refine sqw 18 [19] rfl (fun _=>sqp [.m 19 7] sqe) ?_
 refine sqp [sPo 20 ((g a)==3) (oldF g hz b), .m 6 20] ?_
 refine then_normal (wp_ret ?_)
 refine bpr (.bool (((g a)==3)||(oldF g hz b))) (results_1 Tryz.results79 rpt) ?_
 exact Ret.bool (by simp [deadF]) hst13.ext
end
section
open Go.RowKit Go.Maps Go.ChangeMaps
/-- how an element lies in a map and how it reads -/
structure Cod (E:Type) where
 enc:E→Value
 dat:E→DataW Unit
 R:Value→Option (DataW Unit×List MemPlace)
 e0:E
 read:∀ e,R (enc e)=some (dat e,[])
 back:∀ v d ps e,R v=some (d,ps)→d=dat e→v=enc e
def MapG {E:Type} (C:Cod E) (P:Program) (k b n:Nat) (m:Int→Option E) (W:World):Prop:=
 ∃ D:DataW Unit,W.ownsMap P k C.R b n D∧IsMap D∧∀ x:Int,(Lit.int .i64 x).wf=true→has D (.int .i64 x)=(m x).isSome∧D.atKey (.int .i64 x) (C.dat C.e0)=C.dat ((m x).getD C.e0)
def eMg {E:Type} (C:Cod E) (P:Program) (k b n:Nat) (m:Int→Option E):Ent:=⟨[b],MapG C P k b n m⟩
def putM {E:Type} (m:Int→Option E) (x:Int) (e:Option E):Int→Option E:=fun y=>if y=x then e else m y
theorem wf64 {x:Int} (h: -9223372036854775808≤x∧x≤9223372036854775807):(Lit.int .i64 x).wf=true:=by
 show (decide (IntKind.i64.min≤x)&&decide (x≤IntKind.i64.max))=true
 have h1:IntKind.i64.min= -9223372036854775808:=by decide
 have h2:IntKind.i64.max=9223372036854775807:=by decide
 rw [h1,h2,decide_eq_true h.1,decide_eq_true h.2]; rfl
section
variable {E:Type} {C:Cod E}
theorem eMg_loc (P:Program) (k b n:Nat) (m:Int→Option E):(eMg C P k b n m).loc:=fun W W' h hb=>by
 obtain ⟨D,⟨es,clock,h1,h2⟩,h3⟩:=hb
 exact ⟨D,⟨es,clock,(h b (by simp [eMg])).trans h1,h2⟩,h3⟩
variable {P:Program} {o:Oper} {ρ:Operand→Value} {W:World} {k e b n:Nat} {m:Int→Option E}
theorem MapG.lt (h:MapG C P k b n m W):b < W.heap.size:=by
 obtain ⟨D,hD, _⟩:=h
 exact hD.lt
theorem run_lookOkMg {t:TypeId} {y z:Operand} {x:Int} (h:o.op= .lookup t y z true) (hy:ρ y= .map (some b)) (hz:ρ z= .int .i64 x) (hb:MapG C P k b n m W) (h0:(zeroValue e).run P W= .ok (C.enc C.e0) W) (hx: -9223372036854775808≤x∧x≤9223372036854775807)
  (hk:P.underlying k=some (.int .i64):=by kernel_rfl) (ht:P.underlying t=some (.map k e):=by kernel_rfl):(execOp ρ o).run P W= .ok (.value (.tuple #[C.enc ((m x).getD C.e0), .bool (m x).isSome])) W:=by
 obtain ⟨D,hD, _,hm⟩:=hb
 obtain ⟨v,ps,hrun,hv⟩:=hD.look_ok (int_keyed hk) ht h0 (C.read C.e0) (keyOf_int_mk hk (wf64 hx))
 rw [C.back v _ ps _ hv (hm x (wf64 hx)).2,(hm x (wf64 hx)).1] at hrun
 unfold execOp
 rw [h]
 simp [hy,hz,hrun]
theorem run_setMg {t:TypeId} {y z u:Operand} {x:Int} {v:E} (h:o.op= .mapUpdate t y z u∨o.op= .insert t y z u) (hy:ρ y= .map (some b)) (hz:ρ z= .int .i64 x) (hu:ρ u=C.enc v) (hb:MapG C P k b n m W) (hn:n < 1000000) (hx: -9223372036854775808≤x∧x≤9223372036854775807)
  (hk:P.underlying k=some (.int .i64):=by kernel_rfl) (ht:P.underlying t=some (.map k e):=by kernel_rfl):
  ∃ W',(execOp ρ o).run P W= .ok .skip W'∧MapG C P k b (n+1) (putM m x (some v)) W'∧Upd [b] W W':=by
 obtain ⟨D,hD,hI,hm⟩:=hb
 obtain ⟨W',hrun,hown,hg⟩:=hD.update (int_keyed hk) ht (by simp only [maxLen]; omega) (keyOf_int_mk hk (wf64 hx)) (C.read v)
 refine ⟨W',?_,⟨_,hown,hown.isMap,fun y hy=>?_⟩,⟨hg.os,hg.tape,hg.output,hg.size,fun i hi hn=>hg.block i hi (fun e'=>hn (by cases e'; simp))⟩⟩
 ·unfold execOp
  rcases h with h | h<;>rw [h]<;>simp [hy,hz,hu,hrun]
 ·unfold putM
  by_cases e':y=x
  ·subst e'
   rw [if_pos rfl]
   exact ⟨has_put_same hI (by trivial) _,atKey_put_same hI (by trivial) _ _⟩
  ·rw [if_neg e',has_put_other (by simpa using e'),atKey_put_other (by simpa using e')]
   exact hm y hy
theorem MapG.made:MapG C P k W.heap.size 0 (fun _=>none) (W.alloc (.map #[] 0)):=⟨.map [],World.ownsMap_made W P k C.R,⟨_,rfl⟩,fun x hx=>⟨rfl,rfl⟩⟩
end
section
variable {E:Type} {C:Cod E} {P:Program} {ops:Array Oper} {L:List Nat} {a0:Act} {w0:World} {bor:List Nat} {X0:List Ent} {us cr kl:List (List Nat)}
 {D:Nat→(Tmp→Value)→(Tmp→Value)→(Nat→Ent)→Prop} {i:Nat} {o:Oper} {ρ:Operand→Value} {β:Tmp→Value} {W:World} {X:Nat→Ent}
def pbg:Value→Nat
 | .map (some b)=>b
 | _=>0
theorem CtxV.mg {q k b n:Nat} {m:Int→Option E} (cx:CtxV ops L a0 w0 bor X0 us D i ρ β W X) (hX:X q=eMg C P k b n m) (hu:(atV us i).contains q=true):MapG C P k b n m W:=by
 have h:=(cx.ok q hu).holds
 rw [hX] at h; exact h
theorem dv_makeMg {t d k q:Nat} (h:o.op= .makeMap t none) (hd:o.dst=some d) (hc:atV cr i=[q]) (hk:atV kl i=[])
  (hD:∀ (σ β':Tmp→Value) (X':Nat→Ent),(∀ t,t≠d→σ t=ρ (.tmp t))→(∀ t,t≠d→β' t=β t)→σ d= .map (some (pbg (β' d)))→X' q=eMg C P k (pbg (β' d)) 0 (fun _=>none)→D i σ β' X'):DoesU P o ρ W (PostV cr kl D i o.dst ρ β W X):=by
 refine DoesU.value (v:= .map (some W.heap.size)) (w':=W.alloc (.map #[] 0)) (by unfold execOp; rw [h]; rfl) ?_
 refine post_call [eMg C P k W.heap.size 0 (fun _=>none)] hk (by rw [hc]; rfl) ((Ext.refl W).alloc _) (one_new ⟨MapG.made,eMg_loc _ _ _ _ _,fun k' hk'=>?_⟩) (List.pairwise_singleton _ _) (fun σ β' X' hs hb hv hN=>?_)
 ·have:k'=W.heap.size:=by simpa [eMg] using hk'
  subst this
  exact ⟨Nat.le_refl _,by simp⟩
 ·have hv1:=(hv d hd).1; have hv2:=(hv d hd).2
  rw [hc] at hN
  refine hD σ β' X' (fun t ht=>hs t (by rw [hd]; simpa using ht.symm)) (fun t ht=>hb t (by rw [hd]; simpa using ht.symm)) ?_ ?_
  ·rw [hv1,hv2]; rfl
  ·rw [hv2]; exact (List.cons.inj hN).1
theorem post_mapG {k b n n' q q':Nat} {m m':Int→Option E} {W':World} (hX:X q=eMg C P k b n m) (h1:MapG C P k b n' m' W') (h2:Upd [b] W W') (hc:atV cr i=[q']) (hkl:atV kl i=[q]):
  ([eMg C P k b n' m'].length=(atV cr i).length)∧(Upd ((atV kl i).flatMap fun q=>(X q).fp) W W')∧∀ e'∈[eMg C P k b n' m'],e'.holds W'∧e'.loc∧∀ k'∈e'.fp,(k'∈((atV kl i).flatMap fun q=>(X q).fp)∨W.heap.size≤k')∧k' < W'.heap.size:=by
 refine ⟨by rw [hc]; rfl,?_,fun e' he'=>?_⟩
 ·rw [hkl]
  simp only [List.flatMap_cons,List.flatMap_nil,List.append_nil,hX]
  exact h2
 ·rw [List.mem_singleton] at he'
  subst he'
  refine ⟨h1,eMg_loc _ _ _ _ _,fun k' hk'=>?_⟩
  have hkb:k'=b:=by simpa [eMg] using hk'
  subst hkb
  refine ⟨.inl ?_,h1.lt⟩
  rw [hkl]
  simp [hX,eMg]
theorem dv_setMg {t k e b n q q':Nat} {m:Int→Option E} {y z u:Operand} {x:Int} {v:E} (h:o.op= .mapUpdate t y z u∨o.op= .insert t y z u) (hy:ρ y= .map (some b)) (hz:ρ z= .int .i64 x) (hu:ρ u=C.enc v)
  (cx:CtxV ops L a0 w0 bor X0 us D i ρ β W X) (hX:X q=eMg C P k b n m) (hq:(atV us i).contains q=true) (hn:n < 1000000) (hx: -9223372036854775808≤x∧x≤9223372036854775807) (hd:o.dst=none) (hc:atV cr i=[q']) (hkl:atV kl i=[q])
  (hD:∀ (σ β':Tmp→Value) (X':Nat→Ent),(∀ t,σ t=ρ (.tmp t))→(∀ t,β' t=β t)→X' q'=eMg C P k b (n+1) (putM m x (some v))→D i σ β' X')
  (hk:P.underlying k=some (.int .i64):=by kernel_rfl) (ht:P.underlying t=some (.map k e):=by kernel_rfl):DoesU P o ρ W (PostV cr kl D i o.dst ρ β W X):=by
 obtain ⟨W',hrun,h1,h2⟩:=run_setMg (v:=v) h hy hz hu (cx.mg hX hq) hn hx hk ht
 obtain ⟨a1,a2,a3⟩:=post_mapG (cr:=cr) (kl:=kl) (i:=i) hX h1 h2 hc hkl
 refine DoesU.skip hrun ⟨[eMg C P k b (n+1) (putM m x (some v))],a1,⟨a2,a3,List.pairwise_singleton _ _⟩,fun σ β' X' hs hv hb' hbv hx' hN=>hD σ β' X' (fun t=>hs t (by rw [hd]; simp)) (fun t=>hb' t (by rw [hd]; simp)) ?_⟩
 rw [hc] at hN
 exact (List.cons.inj hN).1
end
theorem CtxV.holdE {ops:Array Oper} {L:List Nat} {a0:Act} {w0:World} {bor:List Nat} {X0:List Ent} {us:List (List Nat)} {D:Nat→(Tmp→Value)→(Tmp→Value)→(Nat→Ent)→Prop} {i:Nat} {ρ:Operand→Value} {β:Tmp→Value} {W:World} {X:Nat→Ent} {q:Nat} {E:Ent} (cx:CtxV ops L a0 w0 bor X0 us D i ρ β W X) (hX:X q=E) (hu:(atV us i).contains q=true):E.holds W:=by
 have h:=(cx.ok q hu).holds
 rw [hX] at h; exact h
/-- a block that stays as it was -/
def eQ (q:Nat) (x:Option Obj):Ent:=⟨[q],fun W=>W.heap[q]? =x⟩
theorem eQ_loc (q:Nat) (x:Option Obj):(eQ q x).loc:=fun W W' h hb=>(h q (by simp [eQ])).trans hb
theorem Upd.same2 {b q:Nat} {w W:World} (h:Upd [b,q] w W) (hb:W.heap[b]? =w.heap[b]?) (hq:W.heap[q]? =w.heap[q]?):Ext w W:=by
 refine Upd.to_ext ⟨h.os,h.tape,h.output,h.size,fun k hk _=>?_⟩
 by_cases e:k=b
 ·rw [e]; exact hb
 ·by_cases e2:k=q
  ·rw [e2]; exact hq
  ·exact h.block k hk (by simp [e,e2])
end
section
open Go.RowKit
/-- is the whole chain of root r dead? -/
def dchB (v:PV) (n:Int) (hz:Int) (g:Int→Int) (r:Nat):Bool:=(chF v n r).all fun p=>deadF g hz p.2.1 p.2.2.1
def ddL (v:PV) (n:Int) (hz:Int) (g:Int→Int) (i:Nat):List Nat:=((rtL v 24).take i).filter (dchB v n hz g)
theorem dd_hit {v:PV} {n hz:Int} {g:Int→Int} {i r:Nat} (h:(rtL v 24)[i]? =some r) (hd:dchB v n hz g r=true):ddL v n hz g (i+1)=ddL v n hz g i++[r]:=by
 rw [ddL,List.take_add_one,h,Option.toList,List.filter_append,List.filter_cons_of_pos hd]; rfl
theorem dd_miss {v:PV} {n hz:Int} {g:Int→Int} {i r:Nat} (h:(rtL v 24)[i]? =some r) (hd:dchB v n hz g r=false):ddL v n hz g (i+1)=ddL v n hz g i:=by
 rw [ddL,List.take_add_one,h,Option.toList,List.filter_append,List.filter_cons_of_neg (by rw [hd]; decide),List.filter_nil,List.append_nil]; rfl
theorem dd_all {v:PV} {n hz:Int} {g:Int→Int} {i:Nat} (h:(rtL v 24).length≤i):ddL v n hz g i=(rtL v 24).filter (dchB v n hz g):=by rw [ddL,List.take_of_length_le h]
theorem rt_get {v:PV} {i:Nat} (h:i < (rtL v 24).length):∃ r,(rtL v 24)[i]? =some r∧0 < r∧r < 24:=by
 have hm:=rt_mem (List.getElem_mem h)
 exact ⟨_,List.getElem?_eq_getElem h,hm.1,hm.2.1⟩
theorem allp_any {ks:List FK} {l:List (Nat×VerD)} {q:Nat×VerD→Bool} (hk:ks.map Prod.fst=l):(!(ks.any fun k=>!(q k.1)))=l.all q:=by
 subst hk
 induction ks with
 | nil=>rfl
 | cons k ks ih=>rw [List.any_cons,List.map_cons,List.all_cons,← ih]; cases q k.1<;>simp
theorem chR_len (v:PV) (n:Int) (hot:Bool):∀ (f:Nat) (seen:List Int) (pg sl:Int),(chR v n hot f seen pg sl).length≤f
 | 0, _, _, _=>Nat.le_refl _
 | f+1,seen,pg,sl=>by
   rw [chR]
   split
   ·split
    ·exact Nat.zero_le _
    ·rw [List.length_cons]; exact Nat.succ_le_succ (chR_len v n hot f _ _ _)
   ·exact Nat.zero_le _
theorem chF_len (v:PV) (n j:Int):(chF v n j).length≤24:=chR_len _ _ _ _ _ _ _
/-- the same, its list of addresses known -/
def eFo (t:TypeId) (v:Value) (m:Nat) (n:Int) (ks:List FK):Ent:=eM (ks.map entF++[eO t 8 v m (ks.flatMap (cellsF n))])
theorem St.openFk {w0 W:World} {bor:List Nat} {L1 L2:List Ent} {t:TypeId} {v:Value} {l:List (Nat×VerD)} {n:Int} {fp:List Nat} (h:St w0 bor (L1++eFk t v l n fp::L2) W):∃ ks:List FK,ks.map Prod.fst=l∧St w0 bor (L1++eFo t v l.length n ks::L2) W:=by
 obtain ⟨ks,hk,hf,hh⟩:=(h.ok (eFk t v l n fp) (by simp)).holds
 exact ⟨ks,hk,St.repl h hf.symm (fun _=>hh) (eM_loc _)⟩
theorem eFo_at {t:TypeId} {A:Option Addr} {c m:Nat} {n:Int} {ks:List FK} {W:World} (h:(eFo t (.slice A m c) m n ks).holds W):At W A (ks.flatMap (cellsF n)):=At.of_ownN (h _ (List.mem_append_right _ (List.mem_singleton.2 rfl))).1
theorem eFo_row {t:TypeId} {v:Value} {m:Nat} {n:Int} {ks:List FK} {W:World} (h:(eFo t v m n ks).holds W) {k:FK} (hk:k∈ks):At W k.2.1 (flatR k.1.2.2.2.2.2.2):=At.of_ownN (h (entF k) (List.mem_append_left _ (List.mem_map.2 ⟨k,hk,rfl⟩))).1
theorem all_step {l:List (Nat×VerD)} {q:Nat×VerD→Bool} {k:Nat} {x:Nat×VerD} (h:l[k]? =some x):(l.take (k+1)).all q=((l.take k).all q&&q x):=by
 rw [List.take_add_one,h,Option.toList,List.all_append,List.all_cons,List.all_nil,Bool.and_true]
theorem hdead1_any (n j a b n1 n2:Int) (ho:Bool) (RA:Option Addr) (rn rc:Nat) (p1 p2:Nat) (hz:Int) (st_:TypeId) (sv_:Value) (g:Int→Int) (w:World) (h1:Blk w p1 3 #[.int .i64 hz]) (h2:Blk w p2 138 #[.iface st_ sv_]) (hT:StOk w st_ sv_ g):
  Calls Tryz.prog 86 #[.agg #[.int .i64 n, .int .i64 j, .int .i64 a, .int .i64 b, .int .i64 n1, .int .i64 n2, .bool ho, .slice RA rn rc], .pointer (some ⟨p1,0,none⟩), .pointer (some ⟨p2,0,none⟩)] w (Ret (.bool (!(deadF g hz a b))) w):=by
 go_enter Tryz.func86,Tryz.ntmps86
 have hst0:=St.start w
 refine wp_seq (sqr ?_)
 refine sqbx #[vi n,vi j,vi a,vi b,vi n1,vi n2, .bool ho, .slice RA rn rc] hst0 fun B3_1 W1 hst1=>?_
 refine sqp [.k 4 (.bool false)] ?_
 refine then_normal (wp_seq (sqr (sqp [.k 5 (.pointer (some ⟨B3_1,2,none⟩))] ?_)))
 refine sqlb 0 6 hst1 ?_
 refine sql (vi hz) hst1 (fun cx=>run_load1 rfl (by kernel_rfl) (cx.ou 1) ((Blk.ext h1 cx.upd.to_ext).cell 0)) ?_
 refine sql (.iface st_ (sv_)) hst1 (fun cx=>run_load1 rfl (by kernel_rfl) (cx.ou 2) ((Blk.ext h2 cx.upd.to_ext).cell 0)) ?_
 refine sqk (.bool ((deadF g hz a b))) hst1 (fun cx=>⟨_,dead_any _ _ _ _ _ _ _ _ _ _ _ g _ (hT.ext cx.upd.to_ext),(map3 (cx.ou 6) (cx.ou 7) (cx.ou 8))⟩) fun W7 hst7=>?_
 refine sqp [.k 10 (.bool (!((deadF g hz a b)))), .m 4 10] ?_
 refine then_normal (wp_ret ?_)
 refine bpr (.bool (!((deadF g hz a b)))) (results_1 Tryz.results86 rpt) ?_
 exact Ret.bool rfl hst7.ext
theorem fcon_fk {A:Option Addr} {c:Nat} {l:List (Nat×VerD)} {n:Int} {fp:List Nat} {w:World} {p1 p2:Nat} {hz:Int} {st_:TypeId} {sv_:Value} {g:Int→Int} (h:(eFk 43 (.slice A l.length c) l n fp).holds w) (hl24:l.length≤24)
  (h1:Blk w p1 3 #[.int .i64 hz]) (h2:Blk w p2 138 #[.iface st_ sv_]) (hT:StOk w st_ sv_ g):
  Calls Tryz.prog 85 #[.slice A l.length c, .func (.func 86) #[] #[.pointer (some ⟨p1,0,none⟩), .pointer (some ⟨p2,0,none⟩)]] w (Ret (.bool (!(l.all fun p=>deadF g hz p.2.1 p.2.2.1))) w):=by
 obtain ⟨ks,hk,ho,hA, _⟩:=eFk_open h
 have hl:ks.length=l.length:=by rw [← hk,List.length_map]
 have hm:l.length≤100000∨100000 < l.length:=by omega
 have h3:=gcon_any A c n ks 86 #[.pointer (some ⟨p1,0,none⟩), .pointer (some ⟨p2,0,none⟩)] (fun k:FK=>!(deadF g hz k.1.2.1 k.1.2.2.1)) w hA ?_ (by kernel_rfl) (fun W k hW=>hdead1_any _ _ _ _ _ _ _ _ _ _ p1 p2 hz st_ sv_ g W (h1.ext hW) (h2.ext hW) (hT.ext hW))
 ·rw [hl] at h3
  rw [← allp_any (q:=fun p=>deadF g hz p.2.1 p.2.2.1) hk,Bool.not_not]
  exact h3
 ·rw [hl]; exact Nat.le_trans hl24 (by decide)
theorem hdead_any (tt:TypeId) (tv:Value) (pv:Int→PV) (n hz:Int) (st_:TypeId) (sv_:Value) (g:Int→Int) (w:World) (hS:PgsOk w tt tv pv) (hN:NoneAt w) (hT:StOk w st_ sv_ g):
  Calls Tryz.prog 24 #[.iface tt (tv), .int .i64 n, .int .i64 hz, .iface st_ (sv_)] w (RtPost ((rtL (pv n) 24).filter (dchB (pv n) n hz g)) n w):=by
 have hrl:=rt_le (pv n) 24
 go_enter Tryz.func24,Tryz.ntmps24
 have hst0:=St.start w
 refine wp_seq (sqr ?_)
 refine sqbx #[vi hz] hst0 fun B6_1 W1 hst1=>?_
 refine sqbx #[.iface st_ (sv_)] hst1 fun B7_2 W2 hst2=>?_
 refine sqp [.k 8 (.slice none 0 0)] ?_
 refine then_normal (wp_seq (wp_seq (sqr (sqp [.m 11 0, .m 12 1] ?_))))
 refine sqk2 (fun A13_6 c13_6=> .slice A13_6 ((rtL (pv n) 24).length) c13_6) (fun A13_6 c13_6=>eO 24 2 (.slice A13_6 ((rtL (pv n) 24).length) c13_6) ((rtL (pv n) 24).length) ((rtL (pv n) 24).flatMap (cellsR n))) hst2 (fun cx=>⟨_,(hroots_any _ _ pv n _ (hS.ext cx.upd.to_ext) (hN.ext cx.upd.to_ext)).mono (by rintro e W1 ⟨A4,c4,rfl,ho_,hx⟩; exact ⟨_, _,rfl,St.one hx (eO_new (n:=(rtL (pv n) 24).length) (xs:=(rtL (pv n) 24).flatMap (cellsR n)) ho_)⟩),(map2 (cx.ou 11) (cx.ou 12))⟩) fun A13_6 c13_6 W6 hst6=>?_
 refine sqp [.k 14 (vi (((rtL (pv n) 24).length:Int))), .k 15 (vi 0)] ?_
 refine then_normal (wp_block ?_)
 have hn9:=nilrowN hst6 24 2
 simp only [List.cons_append,List.nil_append] at hn9
 refine wp_loopT (fun t_ mz az W=>∃ i:Nat,∃ m:Nat,∃ DA:Option Addr,∃ DC:Nat,i≤(rtL (pv n) 24).length∧m=(ddL (pv n) n hz g i).length∧m≤i∧mz=(rtL (pv n) 24).length - i∧az=⟨(ovr (jv az) [(8,8,0,[.slice DA m DC]),(1,10,1,[]),(4,15,0,[vi ((i:Int))]),(0,16,14,[])] t_).toArray,[]⟩∧St w [] [eB B6_1 3 #[vi hz],eB B7_2 138 #[.iface st_ (sv_)],eO 24 2 (.slice A13_6 ((rtL (pv n) 24).length) c13_6) ((rtL (pv n) 24).length) ((rtL (pv n) 24).flatMap (cellsR n)),eO 24 2 (.slice DA m DC) m ((ddL (pv n) n hz g i).flatMap (cellsR n))] W) ((rtL (pv n) 24).length - 0) ?_ ?_
 · -- the loop begins
   exact ⟨0,0,none,0,Nat.zero_le _,rfl,Nat.le_refl _,rfl,(by kernel_rfl),hn9.pk [0,1,2,3]⟩
 rintro n10 a10 W10 ⟨i,m,DA,DC,hi,hm,hmi,rfl,hj_,hst10⟩
 refine ovz hj_ fun u10_=>?_
 refine wp_seq (sqr (sqp [.k 16 (.bool (decide ((i:Int) < ((rtL (pv n) 24).length:Int))))] ?_))
 refine then_normal (wp_seq (wds (fun hs12 hs12p=>?_) fun hs12 hs12p=>?_))
 ·refine wp_skip (then_normal (wp_seq (wp_block (wp_seq ?_))))
  obtain ⟨rr,hrr,hrr0,hrr1⟩:=rt_get (v:=(pv n)) (i:=i) (by omega)
  refine sqr ?_
  refine sql (.pointer (some ((ad A13_6).add (i*2)))) hst10 (fun cx=>run_indexSlM (e:=24) (m:=i) (sz:=2) rfl (by kernel_rfl) (by kernel_rfl) (cx.ou 13) (cx.ou 15) (by omega) (by omega) (At.of_ownN (cx.ri 2 rfl)) (flatPos (sz:=2) (cellsR_len n) (by decide) (by omega))) ?_
  refine sql (.agg #[vi n,vi ((rr:Int))]) hst10 (fun cx=>run_loadElt (f:=(cellsR n)) (m:=i) (sz:=2) (off:=0) (n:=2) rfl (by kernel_rfl) (by kernel_rfl) (cx.ou 17) rfl (cellsR_len n) (At.of_ownN (cx.ri 2 rfl)) hrr (fun k hk=>match k,hk with | 0, _=>rfl | 1, _=>rfl | k+2,hk=>absurd hk (by omega))) ?_
  refine sqal #[vi 0,vi 0] hst10 fun B10_15 W15 hst15=>?_
  refine sqst (n:=2) 4 #[vi n,vi ((rr:Int))] hst15 fun W16 hst16=>?_
  refine then_normal (wp_seq (sqr (sqp [.m 19 0] ?_)))
  refine sqlb 4 2 hst16 ?_
  refine sqk2s (fun A21_19 c21_19=> .slice A21_19 ((chF (pv n) n (rr:Int)).length) c21_19) (fun A21_19 c21_19 r5_19=>eFk 43 (.slice A21_19 ((chF (pv n) n (rr:Int)).length) c21_19) (chF (pv n) n (rr:Int)) n r5_19) hst16 (fun cx=>⟨_,(hchainR_any _ _ pv n (rr:Int) _ (hS.ext cx.upd.to_ext) (hN.ext cx.upd.to_ext) (by omega)).mono (by rintro e W1 ⟨A4,c4,fp4,rfl,hc⟩; exact ⟨_, _, _,rfl,hc⟩),(map2 (cx.ou 19) (cx.ou 20))⟩) fun A21_19 c21_19 r5_19 W19 hst19=>?_
  refine sqv (.func (.func 86) #[] #[vp B6_1,vp B7_2]) hst19 (by
    exact sv0 rfl rfl rfl rfl rfl (fun _ _ _ h=>h) fun ρ β W X cx=>by
     have fF6:ρ (.tmp 6)=vp B6_1:=(cx.ou 6)
     have fF7:ρ (.tmp 7)=vp B7_2:=(cx.ou 7)
     simp [go_sem,Instr.makeFunc,fF6,fF7]) fun W20 hst20=>?_
  refine sqk (.bool ((!((chF (pv n) n (rr:Int)).all fun p=>deadF g hz p.2.1 p.2.2.1)))) hst20 (fun cx=>⟨_,fcon_fk (CtxV.holdE cx (cx.init 5 _ rfl) rfl) (chF_len _ _ _) (cx.bi 0 rfl) (cx.bi 1 rfl) (hT.ext cx.upd.to_ext),(map2 (cx.ou 21) (cx.ou 22))⟩) fun W21 hst21=>?_
  refine sqp [.k 24 (.bool (!((!((chF (pv n) n (rr:Int)).all fun p=>deadF g hz p.2.1 p.2.2.1)))))] ?_
  refine then_normal ?_
  rcases Bool.eq_false_or_eq_true ((!((chF (pv n) n (rr:Int)).all fun p=>deadF g hz p.2.1 p.2.2.1))) with hs23 | hs23
  ·refine wp_cond_false (show Act.eval _ _= .bool false from (congrArg Value.bool (by rw [hs23]; rfl))) (wp_skip (blk_normal (then_normal (sqr (sqp [sI 29 ((i:Int)+1) (by omega), .m 15 29] ?_)))))
   refine then_normal ?_
   rw [← dd_miss hrr (show dchB (pv n) n hz g rr=false from (by have h_:=hs23; rw [dchB]; simpa using h_))] at hst21
   refine ⟨(rtL (pv n) 24).length - ((i+1)),by omega,?_⟩
   exact ⟨(i+1),m,DA,DC,by omega,by rw [dd_miss hrr (show dchB (pv n) n hz g rr=false from (by have h_:=hs23; rw [dchB]; simpa using h_))]; exact hm,by omega,rfl,(by kernel_rfl),hst21.pk [0,1,2,3]⟩
  refine wp_cond_true (show Act.eval _ _= .bool true from (congrArg Value.bool (by rw [hs23]; rfl))) (sqr (sqp [.m 25 8] ?_))
  refine sqlb 4 2 hst21 ?_
  refine sqli 24 2 1 (cellsR n rr) hst21 (@fun ρ β W X cx=>by have fF26:ρ (.tmp 26)= .agg #[vi n,vi ((rr:Int))]:=(cx.ou 26); simp [go_sem,fF26,cellsR]) fun B27_28 W28 hst28=>?_
  refine sqap (m+1) ((ddL (pv n) n hz g i++[rr]).flatMap (cellsR n)) 3 hst28 infoTIDr (fun cx=>(At.of_ownN (cx.ri 6 rfl))) (h1:=by simp [cellsR,Value.oneCell']) (hxs:=rt_snoc _ _ _) fun A28_29 c28_29 W29 hst29=>?_
  refine sqp [.m 8 28] ?_
  refine blk_normal (then_normal (sqr (sqp [sI 29 ((i:Int)+1) (by omega), .m 15 29] ?_)))
  refine then_normal ?_
  rw [← dd_hit hrr (show dchB (pv n) n hz g rr=true from (by have h_:=hs23; rw [dchB]; simpa using h_))] at hst29
  refine ⟨(rtL (pv n) 24).length - ((i+1)),by omega,?_⟩
  exact ⟨(i+1),(m+1),A28_29,c28_29,by omega,by rw [dd_hit hrr (show dchB (pv n) n hz g rr=true from (by have h_:=hs23; rw [dchB]; simpa using h_)),List.length_append,hm]; rfl,by omega,rfl,(by kernel_rfl),hst29.pk [0,1,2,3]⟩
 refine wp_exit (then_exit (then_exit (blk_eq (then_normal (wp_seq (sqr (sqp [.m 30 8, .m 8 30] ?_)))))))
 refine then_normal (wp_ret ?_)
 refine bpr (.slice DA m DC) (results_1 Tryz.results24 rpt) ?_
 rw [dd_all (show (rtL (pv n) 24).length≤i by omega)] at hm hst10
 have ho_:=hst10.own' 3 rfl
 unfold RtPost
 rw [← hm]
 exact ⟨_, _,rfl,ho_,hst10.ext⟩
theorem rdead9_any (PA:Option Addr) (pc:Nat) (Ps:List PgD) (n hz:Int) (T:List Int) (g:Int→Int) (w:World) (hP:PgsAt w PA Ps) (hT:T.length=128) (hg:∀ x,tabF T x=g x):
  Calls Tryz.prog 25 #[.agg #[.slice PA Ps.length pc], .int .i64 n, .int .i64 hz, .agg (T.map (Value.int .i64)).toArray] w (RtPost ((rtL (pvF Ps n) 24).filter (dchB (pvF Ps n) n hz g)) n w):=by
 have hrl:=rt_le (pvF Ps n) 24
 go_enter Tryz.func25,Tryz.ntmps25
 have hst0:=St.start w
 refine wp_seq (sqr ?_)
 refine sqbx #[.slice PA Ps.length pc] hst0 fun B4_1 W1 hst1=>?_
 refine sqn1 (fun x_=>pb x_) (fun B7_2=>vp B7_2) (fun B7_2=>eB B7_2 34 (T.map (Value.int .i64)).toArray) hst1 (by
   refine svA fun ρ β W X cx=>?_
   exact dv_box (cs:=(T.map (Value.int .i64)).toArray) rfl (cx.ou 3) rfl rfl rfl (fun σ β' X' hs hb hv hx=>⟨hv,hx⟩)) fun B7_2 W2 hst2=>?_
 refine sqp [.k 8 (.slice none 0 0)] ?_
 refine then_normal (wp_seq (sqr ?_))
 refine sqli 24 2 0 [] hst2 (@fun ρ β W X cx=>by simp [go_sem]) fun B15_4 W4 hst4=>?_
 refine sqp [.m 9 15] ?_
 refine then_normal (wp_seq (sqr ?_))
 refine sqlb 0 1 hst4 ?_
 refine sqp [.m 17 1] ?_
 refine sqk2 (fun A18_8 c18_8=> .slice A18_8 ((rtL (pvF Ps n) 24).length) c18_8) (fun A18_8 c18_8=>eO 24 2 (.slice A18_8 ((rtL (pvF Ps n) 24).length) c18_8) ((rtL (pvF Ps n) 24).length) ((rtL (pvF Ps n) 24).flatMap (cellsR n))) hst4 (fun cx=>⟨_,(rroots_any _ _ Ps n _ (hP.ext cx.upd.to_ext)).mono (by rintro e W1 ⟨A4,c4,rfl,ho_,hx⟩; exact ⟨_, _,rfl,St.one hx (eO_new (n:=(rtL (pvF Ps n) 24).length) (xs:=(rtL (pvF Ps n) 24).flatMap (cellsR n)) ho_)⟩),(map2 (cx.ou 16) (cx.ou 17))⟩) fun A18_8 c18_8 W8 hst8=>?_
 refine sqp [.m 10 18] ?_
 refine then_normal (wp_seq (wp_seq (sqr (sqp [.k 11 (vi 0)] ?_))))
 refine then_normal (wp_block ?_)
 refine wp_loopT (fun t_ mz az W=>∃ i:Nat,∃ m:Nat,∃ DA:Option Addr,∃ DC:Nat,i≤(rtL (pvF Ps n) 24).length∧m=(ddL (pvF Ps n) n hz g i).length∧m≤i∧mz=(rtL (pvF Ps n) 24).length - i∧az=⟨(ovr (jv az) [(9,9,0,[.slice DA m DC]),(1,11,0,[vi ((i:Int))]),(0,12,3,[]),(4,19,37,[])] t_).toArray,[]⟩∧St w [] [eB B4_1 30 #[.slice PA Ps.length pc],eB B7_2 34 (T.map (Value.int .i64)).toArray,eO 24 2 (.slice A18_8 ((rtL (pvF Ps n) 24).length) c18_8) ((rtL (pvF Ps n) 24).length) ((rtL (pvF Ps n) 24).flatMap (cellsR n)),eO 24 2 (.slice DA m DC) m ((ddL (pvF Ps n) n hz g i).flatMap (cellsR n))] W) ((rtL (pvF Ps n) 24).length - 0) ?_ ?_
 · -- the loop begins
   exact ⟨0,0,(some ⟨B15_4,0,none⟩),0,Nat.zero_le _,rfl,Nat.le_refl _,rfl,(by kernel_rfl),hst8.pk [0,1,3,2]⟩
 rintro n11 a11 W11 ⟨i,m,DA,DC,hi,hm,hmi,rfl,hj_,hst11⟩
 refine ovz hj_ fun u11_=>?_
 refine wp_seq (wp_seq (sqr (sqp [.m 19 11, .m 20 10, .k 21 (vi (((rtL (pvF Ps n) 24).length:Int))), .k 22 (.bool (decide ((i:Int) < ((rtL (pvF Ps n) 24).length:Int))))] ?_)))
 refine then_normal (wds (fun hs16 hs16p=>?_) fun hs16 hs16p=>?_)
 ·refine wp_skip (then_normal (wp_seq (wp_block (wp_seq ?_))))
  obtain ⟨rr,hrr,hrr0,hrr1⟩:=rt_get (v:=(pvF Ps n)) (i:=i) (by omega)
  refine wp_region_Y [0,0,0,6,14,31,63] [[0],[],[],[2],[2]] [[],[],[],[],[],[4]] [] [.c 25 (.agg #[.slice PA Ps.length pc]), .k 26 (.slice A18_8 ((rtL (pvF Ps n) 24).length) c18_8), .k 27 (vi ((i:Int))), .c 28 (.pointer (some ((ad A18_8).add (i*2)))), .c 29 (.agg #[vi n,vi ((rr:Int))]), .a 30, .a 12] (fun ix σ β X=>match ix with | 0=>True | 1=>True | 2=>True | 3=>True | 4=>True | 5=>σ 30= .slice (sA (β 30)) ((chF (pvF Ps n) n (rr:Int)).length) (sC (β 30))∧X 4=eFk 147 (.slice (sA (β 30)) ((chF (pvF Ps n) n (rr:Int)).length) (sC (β 30))) (chF (pvF Ps n) n (rr:Int)) n ((X 4).fp) | 6=>σ 12= .slice (sA (β 30)) ((chF (pvF Ps n) n (rr:Int)).length) (sC (β 30)) | _=>True) [0,1,2,3,4] [0,3,4,5,6] [(12,6,1,13),(12,0,6,18)] hst11 ?_ ?_ ?_
  ·exact fun ix _ _ _ _ _ _ hs hb hx h=>match ix,h with
   | 5,h=>by dsimp only; rw [← hs 30 rfl,← hb 30 rfl,← hx 4 rfl]; exact h
   | 6,h=>by dsimp only; rw [← hs 12 rfl,← hb 30 rfl]; exact h
   | 0, _ | 1, _ | 2, _ | 3, _ | 4, _ | _+7, _=>trivial
  ·refine ⟨?_,?_,?_,?_,?_,trivial⟩
   ·exact xs4 rfl id fun cx=>run_loadB (n:=1) rfl (by kernel_rfl) (by kernel_rfl) (cx.ou 4) (cx.bi 0 rfl) (nle rfl) rfl
   ·exact xs4 rfl id fun cx=>run_indexSlM (e:=24) (m:=i) (sz:=2) rfl (by kernel_rfl) (by kernel_rfl) (cx.an 1) (cx.an 2) (by omega) (by omega) (At.of_ownN (cx.ri 2 rfl)) (flatPos (sz:=2) (cellsR_len n) (by decide) (by omega))
   ·exact xs4 rfl id fun cx=>run_loadElt (f:=(cellsR n)) (m:=i) (sz:=2) (off:=0) (n:=2) rfl (by kernel_rfl) (by kernel_rfl) (cx.an 3) rfl (cellsR_len n) (At.of_ownN (cx.ri 2 rfl)) hrr (fun k hk=>match k,hk with | 0, _=>rfl | 1, _=>rfl | k+2,hk=>absurd hk (by omega))
   ·refine svA fun ρ β W X cx=>?_
    refine DoesU.call (run_callF (args:=#[.agg #[.slice PA Ps.length pc], .agg #[vi n,vi ((rr:Int))]]) rfl cx.sees rfl (by kernel_rfl) (map2 (cx.an 0) (cx.an 4))) ?_
    refine (rchain_any _ _ Ps n (rr:Int) _ (hP.ext cx.upd.to_ext) (by omega)).mono ?_
    rintro e W1 ⟨A4,c4,fp4,rfl,hc⟩
    refine ⟨_,rfl,post_st [eFk 147 (.slice A4 (chF (pvF Ps n) n (rr:Int)).length c4) (chF (pvF Ps n) n (rr:Int)) n fp4] rfl rfl hc (fun σ β' X' hs hb hv hN=>?_)⟩
    have hv1:=(hv 30 rfl).1; have hv2:=(hv 30 rfl).2
    exact ⟨hv1.trans (by rw [hv2]; rfl),(by rw [hv2]; exact eFk_self ((List.cons.inj hN).1))⟩
   ·exact sv rfl rfl rfl rfl rfl _ (fun _ _ _ h=>h) (fun β β' h=>by rw [h 30 (by decide)]) fun ρ β W X cx=>run_assign' rfl (dTn (cx.an 5)).1
  intro σ β X W17 hD hst17 fr hfr
  obtain ⟨A30_17,hu_A30_17⟩:∃ z,sA (β 30)=z:=⟨_,rfl⟩
  obtain ⟨c30_17,hu_c30_17⟩:∃ z,sC (β 30)=z:=⟨_,rfl⟩
  have xX4:X 4= _:=(dTn (hD 5 lq)).2
  obtain ⟨r4_17,hu_r4_17⟩:∃ z,(X 4).fp=z:=⟨_,rfl⟩
  rw [hu_r4_17] at xX4
  clear hu_r4_17
  simp only [xX4,hu_A30_17,hu_c30_17] at hst17
  simp only [ed 30 ((dTn (hD 5 lq)).1),ed 12 ((dTn (hD 6 lq))),hu_A30_17,hu_c30_17] at hfr
  clear hD xX4 hu_A30_17 hu_c30_17; subst hfr; clear σ β X
  refine then_normal (wp_seq (sqr (sqp [.k 13 (.bool true)] ?_)))
  refine then_normal (wp_seq (wp_seq (sqr (sqp [.k 14 (vi 0)] ?_))))
  refine then_normal (wp_block ?_)
  have hcl_:=chF_len (pvF Ps n) n (rr:Int)
  obtain ⟨ks,hks,hmO20⟩:=St.openFk (L1:=[eB B4_1 30 #[.slice PA Ps.length pc],eB B7_2 34 (T.map (Value.int .i64)).toArray,eO 24 2 (.slice A18_8 ((rtL (pvF Ps n) 24).length) c18_8) ((rtL (pvF Ps n) 24).length) ((rtL (pvF Ps n) 24).flatMap (cellsR n)),eO 24 2 (.slice DA m DC) m ((ddL (pvF Ps n) n hz g i).flatMap (cellsR n))]) (L2:=[]) hst17
  simp only [List.cons_append,List.nil_append] at hmO20
  have hksl:ks.length=(chF (pvF Ps n) n (rr:Int)).length:=by rw [← hks,List.length_map]
  refine wp_loopT (fun t_ mz az W=>∃ kk:Nat,∃ dd:Bool,kk≤(chF (pvF Ps n) n (rr:Int)).length∧dd=((chF (pvF Ps n) n (rr:Int)).take kk).all (fun p=>deadF g hz p.2.1 p.2.2.1)∧mz=(chF (pvF Ps n) n (rr:Int)).length - kk∧az=⟨(ovr (jv az) [(13,13,0,[.bool dd,vi ((kk:Int))]),(16,31,17,[])] t_).toArray,[]⟩∧St w [] [eB B4_1 30 #[.slice PA Ps.length pc],eB B7_2 34 (T.map (Value.int .i64)).toArray,eO 24 2 (.slice A18_8 ((rtL (pvF Ps n) 24).length) c18_8) ((rtL (pvF Ps n) 24).length) ((rtL (pvF Ps n) 24).flatMap (cellsR n)),eO 24 2 (.slice DA m DC) m ((ddL (pvF Ps n) n hz g i).flatMap (cellsR n)),eFo 147 (.slice A30_17 ((chF (pvF Ps n) n (rr:Int)).length) c30_17) (chF (pvF Ps n) n (rr:Int)).length n ks] W) ((chF (pvF Ps n) n (rr:Int)).length - 0) ?_ ?_
  · -- the loop begins
    exact ⟨0,true,Nat.zero_le _,rfl,rfl,(by kernel_rfl),hmO20.pk [0,1,2,3,4]⟩
  rintro n21 a21 W21 ⟨kk,dd,hkk,hddk,rfl,hj_,hst21⟩
  refine ovz hj_ fun u21_=>?_
  refine wp_seq (wp_seq (sqr (sqp [.m 31 14, .m 32 12, .k 33 (vi (((chF (pvF Ps n) n (rr:Int)).length:Int))), .k 34 (.bool (decide ((kk:Int) < ((chF (pvF Ps n) n (rr:Int)).length:Int))))] ?_)))
  refine then_normal (wds (fun hs26 hs26p=>?_) fun hs26 hs26p=>?_)
  ·refine wp_skip (then_normal (wp_seq (wp_block ?_)))
   obtain ⟨fx,fA,fC,hkj,hfx⟩:=ks_get (j:=kk) hks (by omega)
   refine wp_region_Z [0,1,3,3,15,31,63,3,3,511,1023,2047] [[],[],[],[],[4],[],[4],[],[1]] [.k 37 (.bool dd), .k 38 (.bool dd), .z 39 dd (.slice A30_17 ((chF (pvF Ps n) n (rr:Int)).length) c30_17), .z 40 dd (vi ((kk:Int))), .y 41 dd (.pointer (some ((ad A30_17).add (kk*8)))), .y 42 dd (.pointer (some ((ad A30_17).add (kk*8+2)))), .y 43 dd (.agg #[vi fx.2.1,vi fx.2.2.1,vi fx.2.2.2.1,vi fx.2.2.2.2.1, .bool fx.2.2.2.2.2.1, .slice fA fx.2.2.2.2.2.2.length fC]), .z 44 dd (vi hz), .y 45 dd (.agg (T.map (Value.int .i64)).toArray), .y 46 dd (.bool (deadF g hz fx.2.1 fx.2.2.1)),tA 47 dd (deadF g hz fx.2.1 fx.2.2.1), .k 13 (.bool (dd&&(deadF g hz fx.2.1 fx.2.2.1)))] [0,1,2,3,4] [4,5,6,8,9] [(13,11,1,14),(23,0,11,34)] hst21 ?_ fun W27 hst27=>?_
   ·refine ⟨?_,?_,?_,?_,?_,trivial⟩
    ·exact m2 rfl (fun _ _ _ h=>h) (fun cx=>(cx.an 1)) fun cx hq=>run_indexSlM (e:=147) (m:=kk) (sz:=8) rfl (by kernel_rfl) (by kernel_rfl) (mbv (cx.an 2) hq) (mbv (cx.an 3) hq) (by omega) (by omega) (eFo_at (CtxV.holdE cx (cx.init 4 _ rfl) rfl)) (flatPos (sz:=8) (cellsF_len n) (by decide) (by omega))
    ·exact m2 rfl (fun _ _ _ h=>h) (fun cx=>(cx.an 1)) fun cx hq=>run_fieldAd rfl (by kernel_rfl) (mbv (cx.an 4) hq)
    ·exact m2 rfl (fun _ _ _ h=>h) (fun cx=>(cx.an 1)) fun cx hq=>run_loadElt (f:=(cellsF n)) (m:=kk) (sz:=8) (off:=2) (n:=6) rfl (by kernel_rfl) (by kernel_rfl) (mbv (cx.an 5) hq) rfl (cellsF_len n) (eFo_at (CtxV.holdE cx (cx.init 4 _ rfl) rfl)) hkj (fun k hk=>match k,hk with | 0, _=>rfl | 1, _=>rfl | 2, _=>rfl | 3, _=>rfl | 4, _=>rfl | 5, _=>rfl | k+6,hk=>absurd hk (by omega))
    ·exact m2 rfl (fun _ _ _ h=>h) (fun cx=>(cx.an 1)) fun cx hq=>run_loadAr (n:=128) rfl (by kernel_rfl) (by kernel_rfl) (cx.ou 7) (cx.bi 1 rfl) (by simp [hT])
    ·exact m3 rfl (fun _ _ _ h=>h) (fun cx=>(cx.an 1)) fun cx hq=>⟨_, _,run_callF (args:=#[.agg #[vi fx.2.1,vi fx.2.2.1,vi fx.2.2.2.1,vi fx.2.2.2.2.1, .bool fx.2.2.2.2.2.1, .slice fA fx.2.2.2.2.2.2.length fC],vi hz, .agg (T.map (Value.int .i64)).toArray]) rfl cx.sees rfl (by kernel_rfl) (map3 (mbv (cx.an 6) hq) (mbv (cx.an 7) hq) (mbv (cx.an 8) hq)),rdead_any hz T g fx.2.1 fx.2.2.1 fx.2.2.2.1 fx.2.2.2.2.1 fx.2.2.2.2.2.1 _ _ _ _ hT hg⟩
   refine blk_normal (then_normal (sqr (sqp [.m 35 14,sI 36 ((kk:Int)+1) (by omega), .m 14 36] ?_)))
   refine then_normal ?_
   refine ⟨(chF (pvF Ps n) n (rr:Int)).length - ((kk+1)),by omega,?_⟩
   exact ⟨(kk+1),(dd&&(deadF g hz fx.2.1 fx.2.2.1)),by omega,by rw [all_step hfx,← hddk],rfl,(by kernel_rfl),hst27.pk [0,1,2,3,4]⟩
  refine wp_exit (then_exit (then_exit (blk_eq (then_normal (wp_seq ?_)))))
  have hddf:dd=(chF (pvF Ps n) n (rr:Int)).all (fun p=>deadF g hz p.2.1 p.2.2.1):=by rw [hddk,List.take_of_length_le (by omega)]
  refine sqr (sqp [.m 48 13] ?_)
  refine then_normal (wbs (fun hs32=>?_) fun hs32=>?_)
  ·refine sqr (sqp [.m 49 9, .m 50 10, .m 51 11] ?_)
   refine sql (.pointer (some ((ad A18_8).add (i*2)))) hst21 (fun cx=>run_indexSlM (e:=24) (m:=i) (sz:=2) rfl (by kernel_rfl) (by kernel_rfl) (cx.ou 50) (cx.ou 51) (by omega) (by omega) (At.of_ownN (cx.ri 2 rfl)) (flatPos (sz:=2) (cellsR_len n) (by decide) (by omega))) ?_
   refine sql (.agg #[vi n,vi ((rr:Int))]) hst21 (fun cx=>run_loadElt (f:=(cellsR n)) (m:=i) (sz:=2) (off:=0) (n:=2) rfl (by kernel_rfl) (by kernel_rfl) (cx.ou 52) rfl (cellsR_len n) (At.of_ownN (cx.ri 2 rfl)) hrr (fun k hk=>match k,hk with | 0, _=>rfl | 1, _=>rfl | k+2,hk=>absurd hk (by omega))) ?_
   refine sqli 24 2 1 (cellsR n rr) hst21 (@fun ρ β W X cx=>by have fF53:ρ (.tmp 53)= .agg #[vi n,vi ((rr:Int))]:=(cx.ou 53); simp [go_sem,fF53,cellsR]) fun B54_38 W38 hst38=>?_
   refine sqap (m+1) ((ddL (pvF Ps n) n hz g i++[rr]).flatMap (cellsR n)) 3 hst38 infoTIDr (fun cx=>(At.of_ownN (cx.ri 5 rfl))) (h1:=by simp [cellsR,Value.oneCell']) (hxs:=rt_snoc _ _ _) fun A55_39 c55_39 W39 hst39=>?_
   refine sqp [.m 9 55] ?_
   refine blk_normal (then_normal (sqr (sqp [.m 23 11,sI 24 ((i:Int)+1) (by omega), .m 11 24] ?_)))
   refine then_normal ?_
   rw [← dd_hit hrr (show dchB (pvF Ps n) n hz g rr=true from (by rw [dchB,← hddf]; exact hs32))] at hst39
   refine ⟨(rtL (pvF Ps n) 24).length - ((i+1)),by omega,?_⟩
   exact ⟨(i+1),(m+1),A55_39,c55_39,by omega,by rw [dd_hit hrr (show dchB (pvF Ps n) n hz g rr=true from (by rw [dchB,← hddf]; exact hs32)),List.length_append,hm]; rfl,by omega,rfl,(by kernel_rfl),hst39.pk [0,1,2,3]⟩
  refine wp_skip (blk_normal (then_normal (sqr (sqp [.m 23 11,sI 24 ((i:Int)+1) (by omega), .m 11 24] ?_))))
  refine then_normal ?_
  rw [← dd_miss hrr (show dchB (pvF Ps n) n hz g rr=false from (by rw [dchB,← hddf]; exact hs32))] at hst21
  refine ⟨(rtL (pvF Ps n) 24).length - ((i+1)),by omega,?_⟩
  exact ⟨(i+1),m,DA,DC,by omega,by rw [dd_miss hrr (show dchB (pvF Ps n) n hz g rr=false from (by rw [dchB,← hddf]; exact hs32))]; exact hm,by omega,rfl,(by kernel_rfl),hst21.pk [0,1,2,3]⟩
 refine wp_exit (then_exit (then_exit (blk_eq (then_normal (wp_seq (sqr (sqp [.m 56 9, .m 8 56] ?_)))))))
 refine then_normal (wp_ret ?_)
 refine bpr (.slice DA m DC) (results_1 Tryz.results25 rpt) ?_
 rw [dd_all (show (rtL (pvF Ps n) 24).length≤i by omega)] at hm hst11
 have ho_:=hst11.own' 3 rfl
 unfold RtPost
 rw [← hm]
 exact ⟨_, _,rfl,ho_,hst11.ext⟩
end
end Go.Proofs.YtjnplglnnamfdaaGreatDoor

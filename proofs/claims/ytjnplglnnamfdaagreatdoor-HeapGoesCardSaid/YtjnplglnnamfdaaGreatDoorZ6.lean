/- HeapGoesRow9: part 6 of the proof. -/
import Derived.Test.YtjnplglnnamfdaaGreatDoorZ5

set_option linter.unusedVariables false
set_option linter.unusedSimpArgs false
set_option maxRecDepth 100000
set_option maxHeartbeats 16000000
namespace Go.Proofs.YtjnplglnnamfdaaGreatDoor
section
open Go.RowKit
theorem ed_same' {m:MpD} {v:PV} {n:Int} {k:Nat} {a b:ByteArray} (ha:a=itC m v n ((k:Int)+1)) (hb:b=wasB v ((k:Int)+1)) (h:(a.toList==b.toList)=true):edL m v n (k+1)=edL m v n k:=by
 have e:((k+1:Nat):Int)=(k:Int)+1:=by omega
 refine ed_same ?_
 rw [e,← ha,← hb]
 rw [beq_iff_eq,ByteArray.toList_eq,ByteArray.toList_eq] at h
 exact ByteArray.ext (Array.ext' h)
theorem ed_new' {m:MpD} {v:PV} {n:Int} {k:Nat} {a b:ByteArray} (ha:a=itC m v n ((k:Int)+1)) (hb:b=wasB v ((k:Int)+1)) (h:(a.toList==b.toList)=false):edL m v n (k+1)=edL m v n k++[((k:Int)+1,a)]:=by
 have e:((k+1:Nat):Int)=(k:Int)+1:=by omega
 have h1:=ed_new (m:=m) (v:=v) (n:=n) (k:=k) (by
  rw [e,← ha,← hb]
  rintro rfl
  simp at h)
 rw [h1,e,← ha]
theorem ed_snoc (l:List (Int×ByteArray)) (n:Int) (x:Int×ByteArray):l.flatMap (cellsEd n)++cellsEd n x=(l++[x]).flatMap (cellsEd n):=by simp
theorem at_len {v:PV} (h:v.wf) (j:Int):(vD (atF v j)).2.2.2.2.2.length≤6:=by
 obtain ⟨s,hs⟩:=atF_desc h j
 exact hs.bd.2.2.2.2.2.2.2.2
theorem hchanges_any (tt:TypeId) (tv:Value) (pv:Int→PV) (n:Int) (q cnt:Nat) (m:MpD) (w:World) (hS:PgsOk w tt tv pv) (hN:NoneAt w) (hM:MapG strC Tryz.prog 3 q cnt m w) (hm:∀ j s,m j=some s→∃ o,Desc s o):
  Calls Tryz.prog 67 #[.iface tt (tv), .int .i64 n, .map (some q)] w (ChPost (edL m (pv n) n 23) n w):=by
 have hwf:=hS.wf n
 go_enter Tryz.func67,Tryz.ntmps67
 have hst0:=St.start w
 refine wp_seq (sqr ?_)
 refine sqbx #[.map (some q)] hst0 fun B5_1 W1 hst1=>?_
 refine sqp [.k 6 (.slice none 0 0)] ?_
 refine then_normal (wp_seq (sqr ?_))
 refine sqv (.func (.func 138) #[] #[vp B5_1]) hst1 (by
   exact sv0 rfl rfl rfl rfl rfl (fun _ _ _ h=>h) fun ρ β W X cx=>by
    have fF5:ρ (.tmp 5)=vp B5_1:=(cx.ou 5)
    simp [go_sem,Instr.makeFunc,fF5]) fun W3 hst3=>?_
 refine sqp [.m 7 18] ?_
 refine then_normal (wp_seq (wp_seq (sqr (sqp [.k 8 (vi 1)] ?_))))
 refine then_normal (wp_block ?_)
 have hn6:=nilrowN hst3 49 3
 simp only [List.cons_append,List.nil_append] at hn6
 refine wp_loopT (fun t_ mz az W=>∃ k:Nat,∃ OA:Option Addr,∃ OC:Nat,∃ om:Nat,k≤23∧om=(edL m (pv n) n k).length∧mz=23 - k∧az=⟨(ovr (jv az) [(6,6,0,[.slice OA om OC]),(1,8,0,[vi (((k:Int)+1))]),(0,9,9,[]),(1,19,78,[])] t_).toArray,[]⟩∧St w [] [eB B5_1 139 #[.map (some q)],eO 49 3 (.slice OA om OC) om ((edL m (pv n) n k).flatMap (cellsEd n))] W) (23 - 0) ?_ ?_
 · -- the loop begins
   exact ⟨0,none,0,0,by omega,rfl,rfl,(by kernel_rfl),hn6.pk [0,1]⟩
 rintro n7 a7 W7 ⟨k,OA,OC,om,hk,hom,rfl,hj_,hst7⟩
 refine ovz hj_ fun u7_=>?_
 have hol:=ed_len m (pv n) n k
 rw [← hom] at hol
 refine wp_seq (wp_seq (sqr (sqp [.m 19 8, .k 20 (.bool (decide (((k:Int)+1) < 24)))] ?_)))
 refine then_normal (wds (fun hs10 hs10p=>?_) fun hs10 hs10p=>?_)
 ·refine wp_skip (then_normal (wp_seq (wp_block (wp_seq (sqr (sqp [.m 23 1, .m 24 8, .k 25 (.agg #[vi n,vi (((k:Int)+1))])] ?_))))))
  refine sqal #[vi 0,vi 0] hst7 fun B9_14 W14 hst14=>?_
  refine sqst (n:=2) 2 #[vi n,vi (((k:Int)+1))] hst14 fun W15 hst15=>?_
  refine then_normal (wp_seq ?_)
  have hal:=at_len hwf ((k:Int)+1)
  have hrb:=rdF_bd (pv n) ((k:Int)+1)
  refine sqr (sqp [.m 27 0] ?_)
  refine sqlb 2 2 hst15 ?_
  refine sqk2 (fun A29_18 c29_18=> .tuple #[.agg #[vi ((vD (atF (pv n) ((k:Int)+1))).1),vi ((vD (atF (pv n) ((k:Int)+1))).2.1),vi ((vD (atF (pv n) ((k:Int)+1))).2.2.1),vi ((vD (atF (pv n) ((k:Int)+1))).2.2.2.1), .bool ((vD (atF (pv n) ((k:Int)+1))).2.2.2.2.1), .slice A29_18 ((vD (atF (pv n) ((k:Int)+1))).2.2.2.2.2.length) c29_18], .bool ((atF (pv n) ((k:Int)+1)).isSome)]) (fun A29_18 c29_18=>eO 45 3 (.slice A29_18 ((vD (atF (pv n) ((k:Int)+1))).2.2.2.2.2.length) c29_18) ((vD (atF (pv n) ((k:Int)+1))).2.2.2.2.2.length) (flatR (vD (atF (pv n) ((k:Int)+1))).2.2.2.2.2)) hst15 (fun cx=>⟨_,(hget_any _ _ pv n ((k:Int)+1) _ (hS.ext cx.upd.to_ext) (hN.ext cx.upd.to_ext)).mono (by rintro e W1 ⟨A4,c4,rfl,ho,hx⟩; exact ⟨_, _,rfl,St.one hx (eO_new ho)⟩),(map2 (cx.ou 27) (cx.ou 28))⟩) fun A29_18 c29_18 W18 hst18=>?_
  refine sqp [.m 26 29, .k 30 (.agg #[vi ((vD (atF (pv n) ((k:Int)+1))).1),vi ((vD (atF (pv n) ((k:Int)+1))).2.1),vi ((vD (atF (pv n) ((k:Int)+1))).2.2.1),vi ((vD (atF (pv n) ((k:Int)+1))).2.2.2.1), .bool ((vD (atF (pv n) ((k:Int)+1))).2.2.2.2.1), .slice A29_18 ((vD (atF (pv n) ((k:Int)+1))).2.2.2.2.2.length) c29_18]), .k 31 (.bool ((atF (pv n) ((k:Int)+1)).isSome))] ?_
  refine sqal #[vi 0,vi 0,vi 0,vi 0, .bool false, .slice none 0 0] hst18 fun B10_22 W22 hst22=>?_
  refine sqst (n:=6) 4 #[vi ((vD (atF (pv n) ((k:Int)+1))).1),vi ((vD (atF (pv n) ((k:Int)+1))).2.1),vi ((vD (atF (pv n) ((k:Int)+1))).2.2.1),vi ((vD (atF (pv n) ((k:Int)+1))).2.2.2.1), .bool ((vD (atF (pv n) ((k:Int)+1))).2.2.2.2.1), .slice A29_18 ((vD (atF (pv n) ((k:Int)+1))).2.2.2.2.2.length) c29_18] hst22 fun W23 hst23=>?_
  refine sqp [.m 11 31] ?_
  refine then_normal (wp_seq (sqr (sqp [.k 12 (.string ⟨#[]⟩)] ?_)))
  refine then_normal ?_
  refine wp_cutT (fun t_ az W=>∃ ws:ByteArray,ws=wasB (pv n) ((k:Int)+1)∧az=⟨(ovr (jv az) [(12,12,0,[.string ws]),(0,13,1,[]),(18,32,10,[])] t_).toArray,[]⟩∧St w [] [eB B5_1 139 #[.map (some q)],eO 49 3 (.slice OA om OC) om ((edL m (pv n) n k).flatMap (cellsEd n))] W) ?_ ?_
  ·refine wp_seq (sqr (sqp [.m 32 0] ?_))
   refine sqlb 2 2 hst23 ?_
   refine sqk (vi ((rdF (pv n) ((k:Int)+1)))) hst23 (fun cx=>⟨_,hredirect_any _ _ pv n ((k:Int)+1) _ (hS.ext cx.upd.to_ext),(map2 (cx.ou 32) (cx.ou 33))⟩) fun W29 hst29=>?_
   refine sqp [.m 13 34] ?_
   refine then_normal (wp_seq (sqr (sqp [.m 35 13, .k 36 (.bool (decide (0≤(rdF (pv n) ((k:Int)+1)))))] ?_)))
   refine then_normal (wds (fun hs33 hs33p=>?_) fun hs33 hs33p=>?_)
   ·refine sqr (sqp [.m 37 13] ?_)
    refine sqk (.string ((strOfNums [0,(rdF (pv n) ((k:Int)+1))]))) hst29 (fun cx=>⟨_,hlead_any (rdF (pv n) ((k:Int)+1)) _ (by omega),(map1 (cx.ou 37))⟩) fun W35 hst35=>?_
    refine sqp [.m 12 38] ?_
    refine then_normal ?_
    exact ⟨(strOfNums [0,(rdF (pv n) ((k:Int)+1))]),by rw [was_rd (by omega)],(by kernel_rfl),hst35.pk [0,1]⟩
   refine wp_seq (sqr (sqp [.m 39 11] ?_))
   refine then_normal (wbs (fun hs38=>?_) fun hs38=>?_)
   ·refine sqr ?_
    refine sqlb 4 6 hst29 ?_
    refine sqk (.string (tbytesF ((vD (atF (pv n) ((k:Int)+1))).1) ((vD (atF (pv n) ((k:Int)+1))).2.1) ((vD (atF (pv n) ((k:Int)+1))).2.2.1) ((vD (atF (pv n) ((k:Int)+1))).2.2.2.1) ((vD (atF (pv n) ((k:Int)+1))).2.2.2.2.1) (vD (atF (pv n) ((k:Int)+1))).2.2.2.2.2)) hst29 (fun cx=>⟨_,tbytes_any ((vD (atF (pv n) ((k:Int)+1))).1) ((vD (atF (pv n) ((k:Int)+1))).2.1) ((vD (atF (pv n) ((k:Int)+1))).2.2.1) ((vD (atF (pv n) ((k:Int)+1))).2.2.2.1) ((vD (atF (pv n) ((k:Int)+1))).2.2.2.2.1) _ _ (vD (atF (pv n) ((k:Int)+1))).2.2.2.2.2 _ (At.of_ownN (cx.ri 3 rfl)) (by first | omega | decide | (simp; done) | (simp; omega)) (hN.ext cx.upd.to_ext),(map1 (cx.ou 40))⟩) fun W40 hst40=>?_
    refine sqp [.m 12 41] ?_
    refine then_normal ?_
    exact ⟨(tbytesF ((vD (atF (pv n) ((k:Int)+1))).1) ((vD (atF (pv n) ((k:Int)+1))).2.1) ((vD (atF (pv n) ((k:Int)+1))).2.2.1) ((vD (atF (pv n) ((k:Int)+1))).2.2.2.1) ((vD (atF (pv n) ((k:Int)+1))).2.2.2.2.1) (vD (atF (pv n) ((k:Int)+1))).2.2.2.2.2),by rw [wasB,if_neg (by omega),if_pos hs38]; rfl,(by kernel_rfl),hst40.pk [0,1]⟩
   refine wp_skip (then_normal ?_)
   exact ⟨(⟨#[]⟩:ByteArray),by rw [wasB,if_neg (by omega),if_neg (by rw [hs38]; decide)],(by kernel_rfl),hst29.pk [0,1]⟩
  rintro a26 W26 ⟨ws,hws,hj_,hst26⟩
  refine ovz hj_ fun u26_=>?_
  refine wp_seq (sqr (sqld 0 hst26 ?_))
  refine sqp [.m 44 8] ?_
  refine sql (.tuple #[.string (((m ((k:Int)+1)).getD (⟨#[]⟩:ByteArray))), .bool ((m ((k:Int)+1)).isSome)]) hst26 (fun cx=>run_lookOkMg (e:=9) rfl (cx.ou 43) (cx.ou 44) (MapG.ext hM cx.upd.to_ext) (h0:=(by rfl)) (hx:=by omega)) ?_
  refine sqp [.m 42 45, .k 46 (.string (((m ((k:Int)+1)).getD (⟨#[]⟩:ByteArray)))), .k 47 (.bool ((m ((k:Int)+1)).isSome)), .m 14 46, .m 15 47] ?_
  refine then_normal ?_
  refine wp_cutT (fun t_ az W=>∃ ia:ByteArray,ia=itA m (pv n) ((k:Int)+1)∧az=⟨(ovr (jv az) [(14,14,0,[.string ia]),(33,48,3,[])] t_).toArray,[]⟩∧St w [] [eB B5_1 139 #[.map (some q)],eO 49 3 (.slice OA om OC) om ((edL m (pv n) n k).flatMap (cellsEd n))] W) ?_ ?_
  ·refine wp_seq (sqr (sqp [.m 48 15, .k 49 (.bool (!((m ((k:Int)+1)).isSome)))] ?_))
   refine then_normal ?_
   rcases Bool.eq_false_or_eq_true ((m ((k:Int)+1)).isSome) with hs53 | hs53
   ·refine wp_cond_false (show Act.eval _ _= .bool false from (congrArg Value.bool (by rw [hs53]; rfl))) (wp_skip (then_normal ?_))
    exact ⟨((m ((k:Int)+1)).getD (⟨#[]⟩:ByteArray)),by have h_:=hs53; rw [itA]; cases h9_:m ((k:Int)+1) with | none=>rw [h9_] at h_; simp at h_ | some s_=>rfl,(by kernel_rfl),hst26.pk [0,1]⟩
   refine wp_cond_true (show Act.eval _ _= .bool true from (congrArg Value.bool (by rw [hs53]; rfl))) (sqr (sqp [.m 50 12, .m 14 50] ?_))
   refine then_normal ?_
   exact ⟨ws,by have h_:=hs53; rw [itA]; cases h9_:m ((k:Int)+1) with | none=>exact hws | some s_=>rw [h9_] at h_; simp at h_,(by kernel_rfl),hst26.pk [0,1]⟩
  rintro a50 W50 ⟨ia,hia,hj_,hst50⟩
  refine ovz hj_ fun u50_=>?_
  have hb1:=byte_lt (bl ia) 1
  have hb1':0≤byteI (bl ia) 1∧byteI (bl ia) 1 < 256:=hb1
  refine wp_cutT (fun t_ az W=>∃ ib:ByteArray,ib=itB m (pv n) ((k:Int)+1)∧az=⟨(ovr (jv az) [(14,14,0,[.string ib]),(36,51,11,[])] t_).toArray,[]⟩∧St w [] [eB B5_1 139 #[.map (some q)],eO 49 3 (.slice OA om OC) om ((edL m (pv n) n k).flatMap (cellsEd n))] W) ?_ ?_
  ·refine wp_seq (sqr (sqp [.m 51 14, .k 52 (vi ((ia.size:Int))), .k 53 (.bool ((ia.size:Int)==2)), .m 54 53] ?_))
   refine sqwW 54 [55,56,57,58,59] ?_ hst50 rfl (fun hq=>?_) fun W66 hst66=>?_
   rotate_left
   ·have hq_:=hq
    try simp only [zB] at hq_
    refine sqp [.m 55 7, .m 56 14] ?_
    refine sql (.int .u8 (byteI (bl ia) 1)) hst50 (fun cx=>run_indexS (m:=1) rfl (by kernel_rfl) (cx.ou 56) (cx.co _) (by omega) (by omega)) ?_
    refine sqp [sW 58 .i64 (byteI (bl ia) 1) (byteI (bl ia) 1) (IntWalk.i64_in _ (by omega))] ?_
    refine sqv (.bool ((goneF m (byteI (bl ia) 1)))) hst50 (sv_call rfl rfl rfl rfl rfl (fun _ _ _ h=>h) fun ρ β W X cx=>⟨_, _,run_callV (f:=138) (args:=#[vi (byteI (bl ia) 1)]) (args':=#[vi (byteI (bl ia) 1),vp B5_1]) rfl rfl (cx.ou 55) (by kernel_rfl) (map1 (cx.ou 58)) rfl,hgone_any B5_1 q cnt m (byteI (bl ia) 1) _ ⟨(cx.bi 0 rfl),MapG.ext hM cx.upd.to_ext⟩ (by omega)⟩) fun W65 hst65=>?_
    exact sqE hst65
   refine sqwx ?_
   refine sqp [sPa 60 ((ia.size:Int)==2) (goneF m (byteI (bl ia) 1))] ?_
   refine then_normal (wbs (fun hs68=>?_) fun hs68=>?_)
   ·have hs68p:=hs68
    simp only [zB] at hs68p
    obtain ⟨hs68p1,hs68p2⟩:=hs68p
    refine sqr (sqk (.string ((strOfNums [0,0]))) hst66 (fun cx=>⟨_,hlead_any 0 _ (by omega),(map1 (cx.co _))⟩) fun W69 hst69=>?_)
    refine sqp [.m 14 61] ?_
    refine then_normal ?_
    exact ⟨(strOfNums [0,0]),by rw [itB,← hia,if_pos (by have h_:=hs68; rw [Bool.and_eq_true,beq_iff_eq] at h_; exact ⟨by omega,h_.2⟩)],(by kernel_rfl),hst69.pk [0,1]⟩
   have hs68p:=hs68
   simp only [zB] at hs68p
   refine wp_skip (then_normal ?_)
   exact ⟨ia,by rw [itB,← hia,if_neg (by rintro ⟨a_,b_⟩; have h_:=hs68; rw [b_,Bool.and_true,beq_eq_false_iff_ne] at h_; exact h_ (by omega))],(by kernel_rfl),hst66.pk [0,1]⟩
  rintro a56 W56 ⟨ib,hib,hj_,hst56⟩
  refine ovz hj_ fun u56_=>?_
  have hdib:Desc ib (oD ib):=oD_desc (by rw [hib]; exact itB_desc hwf hm _)
  have hbd:=hdib.bd
  refine wp_cutT (fun t_ az W=>∃ ic:ByteArray,ic=itC m (pv n) n ((k:Int)+1)∧az=⟨(ovr (jv az) [(14,14,0,[.string ic]),(1,16,2,[]),(44,62,25,[])] t_).toArray,[]⟩∧St w [] [eB B5_1 139 #[.map (some q)],eO 49 3 (.slice OA om OC) om ((edL m (pv n) n k).flatMap (cellsEd n))] W) ?_ ?_
  ·refine wp_seq (sqr (sqp [.m 63 14] ?_))
   refine sqk2 (fun A64_73 c64_73=> .tuple #[.agg #[vi ((vD (oD ib)).1),vi ((vD (oD ib)).2.1),vi ((vD (oD ib)).2.2.1),vi ((vD (oD ib)).2.2.2.1), .bool ((vD (oD ib)).2.2.2.2.1), .slice A64_73 ((vD (oD ib)).2.2.2.2.2.length) c64_73],vi ((eD (oD ib)))]) (fun A64_73 c64_73=>eO 45 3 (.slice A64_73 ((vD (oD ib)).2.2.2.2.2.length) c64_73) ((vD (oD ib)).2.2.2.2.2.length) (flatR (vD (oD ib)).2.2.2.2.2)) hst56 (fun cx=>⟨_,(tread_desc _ hdib (hN.ext cx.upd.to_ext)).mono (by rintro e W1 ⟨A4,c4,rfl,ho,hx⟩; exact ⟨_, _,rfl,St.one hx (eO_new ho)⟩),(map1 (cx.ou 63))⟩) fun A64_73 c64_73 W73 hst73=>?_
   refine sqp [.m 62 64, .k 65 (.agg #[vi ((vD (oD ib)).1),vi ((vD (oD ib)).2.1),vi ((vD (oD ib)).2.2.1),vi ((vD (oD ib)).2.2.2.1), .bool ((vD (oD ib)).2.2.2.2.1), .slice A64_73 ((vD (oD ib)).2.2.2.2.2.length) c64_73]), .k 66 (vi ((eD (oD ib))))] ?_
   refine sqal #[vi 0,vi 0,vi 0,vi 0, .bool false, .slice none 0 0] hst73 fun B16_77 W77 hst77=>?_
   refine sqst (n:=6) 3 #[vi ((vD (oD ib)).1),vi ((vD (oD ib)).2.1),vi ((vD (oD ib)).2.2.1),vi ((vD (oD ib)).2.2.2.1), .bool ((vD (oD ib)).2.2.2.2.1), .slice A64_73 ((vD (oD ib)).2.2.2.2.2.length) c64_73] hst77 fun W78 hst78=>?_
   refine sqp [.m 17 66] ?_
   refine then_normal (wp_seq (sqr (sqp [.m 67 17, .k 68 (.bool ((eD (oD ib))==0)), .m 69 68] ?_)))
   refine sqw' 69 [70,71,72,73,74] ?_ rfl (fun hq=>?_) ?_
   rotate_left
   ·refine sqp [.k 70 (.pointer (some ⟨B16_77,2,none⟩)), .k 71 (.pointer (some ⟨B16_77,2,none⟩))] ?_
    refine sqld 3 hst78 ?_
    refine sqp [.m 73 1, .k 74 (.bool (((vD (oD ib)).2.2.1)==n))] ?_
    exact sqe
   refine sqwx ?_
   refine sqp [sPa 75 ((eD (oD ib))==0) (((vD (oD ib)).2.2.1)==n), .m 76 75] ?_
   refine sqwW 76 [77,78,79,80,81] ?_ hst78 rfl (fun hq=>?_) fun W95 hst95=>?_
   rotate_left
   ·have hq_:=hq
    try simp only [zB] at hq_
    refine sqp [.m 77 7, .k 78 (.pointer (some ⟨B16_77,2,none⟩)), .k 79 (.pointer (some ⟨B16_77,3,none⟩))] ?_
    refine sqld 3 hst78 ?_
    refine sqv (.bool ((goneF m ((vD (oD ib)).2.2.2.1)))) hst78 (sv_call rfl rfl rfl rfl rfl (fun _ _ _ h=>h) fun ρ β W X cx=>⟨_, _,run_callV (f:=138) (args:=#[vi ((vD (oD ib)).2.2.2.1)]) (args':=#[vi ((vD (oD ib)).2.2.2.1),vp B5_1]) rfl rfl (cx.ou 77) (by kernel_rfl) (map1 (cx.ou 80)) rfl,hgone_any B5_1 q cnt m ((vD (oD ib)).2.2.2.1) _ ⟨(cx.bi 0 rfl),MapG.ext hM cx.upd.to_ext⟩ (by omega)⟩) fun W94 hst94=>?_
    exact sqE hst94
   refine sqwx ?_
   refine sqp [sPa 82 (((eD (oD ib))==0)&&(((vD (oD ib)).2.2.1)==n)) (goneF m ((vD (oD ib)).2.2.2.1))] ?_
   refine then_normal (wbs (fun hs97=>?_) fun hs97=>?_)
   ·have hs97p:=hs97
    simp only [zB] at hs97p
    obtain ⟨⟨hs97p1,hs97p2⟩,hs97p3⟩:=hs97p
    refine wp_seq (sqr (sqk (.agg #[vi (-1),vi 0]) hst95 (fun cx=>⟨_,hnone_any _,map0⟩) fun W98 hst98=>?_))
    refine sqp [.k 84 (.pointer (some ⟨B16_77,2,none⟩))] ?_
    refine sqst (n:=2) 3 #[vi ((vD (oD ib)).1),vi ((vD (oD ib)).2.1),vi (-1),vi 0, .bool ((vD (oD ib)).2.2.2.2.1), .slice A64_73 ((vD (oD ib)).2.2.2.2.2.length) c64_73] hst98 fun W100 hst100=>?_
    refine then_normal (sqr ?_)
    refine sqlb 3 6 hst100 ?_
    refine sqk (.string (tbytesF ((vD (oD ib)).1) ((vD (oD ib)).2.1) (-1) 0 ((vD (oD ib)).2.2.2.2.1) (vD (oD ib)).2.2.2.2.2)) hst100 (fun cx=>⟨_,tbytes_any ((vD (oD ib)).1) ((vD (oD ib)).2.1) (-1) 0 ((vD (oD ib)).2.2.2.2.1) _ _ (vD (oD ib)).2.2.2.2.2 _ (At.of_ownN (cx.ri 2 rfl)) (by first | omega | decide | (simp; done) | (simp; omega)) (hN.ext cx.upd.to_ext),(map1 (cx.ou 85))⟩) fun W102 hst102=>?_
    refine sqp [.m 14 86] ?_
    refine then_normal ?_
    exact ⟨(tbytesF ((vD (oD ib)).1) ((vD (oD ib)).2.1) (-1) 0 ((vD (oD ib)).2.2.2.2.1) (vD (oD ib)).2.2.2.2.2),by rw [itC,← hib,if_pos (by have h_:=hs97; rw [eD_some,Bool.and_eq_true,Bool.and_eq_true,beq_iff_eq] at h_; exact ⟨h_.1.1,h_.1.2,h_.2⟩)]; rfl,(by kernel_rfl),hst102.pk [0,1]⟩
   have hs97p:=hs97
   simp only [zB] at hs97p
   refine wp_skip (then_normal ?_)
   exact ⟨ib,by rw [itC,← hib,if_neg (by rintro ⟨a_,b_,c_⟩; have h_:=hs97; rw [eD_some,a_,b_,c_] at h_; simp at h_)],(by kernel_rfl),hst95.pk [0,1]⟩
  rintro a71 W71 ⟨ic,hic,hj_,hst71⟩
  refine ovz hj_ fun u71_=>?_
  refine wp_seq (sqr (sqp [.m 87 14, .m 88 12, .k 89 (.bool (!(ic.toList==ws.toList)))] ?_))
  refine then_normal ?_
  rcases Bool.eq_false_or_eq_true (ic.toList==ws.toList) with hs107 | hs107
  ·refine wp_cond_false (show Act.eval _ _= .bool false from (congrArg Value.bool (by rw [hs107]; rfl))) (wp_skip (blk_normal (then_normal (sqr (sqp [.m 21 8,sI 22 (((k:Int)+1)+1) (by omega), .m 8 22] ?_)))))
   refine then_normal ?_
   rw [← ed_same' hic hws hs107] at hst71
   refine ⟨23 - ((k+1)),by omega,?_⟩
   exact ⟨(k+1),OA,OC,om,by omega,by rw [ed_same' hic hws hs107]; exact hom,rfl,(by kernel_rfl),hst71.pk [0,1]⟩
  refine wp_cond_true (show Act.eval _ _= .bool true from (congrArg Value.bool (by rw [hs107]; rfl))) (sqr (sqp [.m 90 6, .m 91 1, .m 92 8, .m 93 14, .k 94 (.agg #[vi n,vi (((k:Int)+1)), .string ic])] ?_))
  refine sqli 49 3 1 (cellsEd n (((k:Int)+1),ic)) hst71 (@fun ρ β W X cx=>by have fF94:ρ (.tmp 94)= .agg #[vi n,vi (((k:Int)+1)), .string ic]:=(cx.ou 94); simp [go_sem,fF94,cellsEd]) fun B95_116 W116 hst116=>?_
  refine sqap (om+1) ((edL m (pv n) n k++[(((k:Int)+1),ic)]).flatMap (cellsEd n)) 1 hst116 Tryz.infoEdit (fun cx=>(At.of_ownN (cx.ri 2 rfl))) (h1:=by simp [cellsEd,Value.oneCell']) (hxs:=ed_snoc _ _ _) fun A96_117 c96_117 W117 hst117=>?_
  refine sqp [.m 6 96] ?_
  refine blk_normal (then_normal (sqr (sqp [.m 21 8,sI 22 (((k:Int)+1)+1) (by omega), .m 8 22] ?_)))
  refine then_normal ?_
  rw [← ed_new' hic hws hs107] at hst117
  refine ⟨23 - ((k+1)),by omega,?_⟩
  exact ⟨(k+1),A96_117,c96_117,(om+1),by omega,by rw [ed_new' hic hws hs107,List.length_append,← hom]; rfl,rfl,(by kernel_rfl),hst117.pk [0,1]⟩
 refine wp_exit (then_exit (then_exit (blk_eq (then_normal (wp_seq (sqr (sqp [.m 97 6, .m 6 97] ?_)))))))
 refine then_normal (wp_ret ?_)
 refine bpr (.slice OA om OC) (results_1 Tryz.results67 rpt) ?_
 obtain rfl:k=23:=by omega
 have ho_:=hst7.own' 1 rfl
 unfold ChPost
 rw [← hom]
 exact ⟨_, _,rfl,ho_,hst7.ext⟩
end
section
open Go.RowKit
theorem MapB.ext {P:Program} {k e b n:Nat} {m:Int→Bool} {w W:World} (h:MapB P k e b n m w) (hx:Ext w W):MapB P k e b n m W:=
 (eMb_loc P k e b n m) w W (fun j hj=>(by rw [List.mem_singleton.1 hj]; exact hx.out.block b h.lt)) h
theorem MapG.more {E:Type} {C:Cod E} {P:Program} {k b n n':Nat} {m:Int→Option E} {W:World} (h:MapG C P k b n m W) (hn:n≤n'):MapG C P k b n' m W:=by
 obtain ⟨D,⟨es,clock,h1,h2,h3,h4⟩,h5⟩:=h
 exact ⟨D,⟨es,clock,h1,h2,Nat.le_trans h3 hn,h4⟩,h5⟩
abbrev VT (w:World) (b q n:Nat) (tk:Int→Bool):Prop:=Blk w b 142 #[.map (some q)]∧MapB Tryz.prog 3 4 q n tk w
theorem VT.ext {w W:World} {b q n:Nat} {tk:Int→Bool} (h:VT w b q n tk) (hx:Ext w W):VT W b q n tk:=⟨h.1.ext hx,h.2.ext hx⟩
theorem St.lentT {w:World} {b q n:Nat} {tk:Int→Bool} (h:VT w b q n tk):St w [b,q] [eB b 142 #[.map (some q)],eQ q w.heap[q]?] w:=by
 have hne:b≠q:=by
  rintro rfl
  obtain ⟨h1,D,⟨es,clock,h2, _⟩, _⟩:=h
  have h3:w.heap[b]? = _:=h1
  rw [h2] at h3
  cases h3
 refine ⟨Upd.refl _ _,fun x hx=>?_,List.pairwise_pair.2 fun k hk hk'=>by simp [eB] at hk; simp [eQ] at hk'; omega⟩
 simp only [List.mem_cons,List.not_mem_nil,or_false] at hx
 rcases hx with rfl | rfl
 ·exact ⟨h.1,eB_loc _ _ _,fun k hk=>⟨.inl (by simp [eB] at hk; simp [hk]),by simp [eB] at hk; subst hk; exact h.1.lt⟩⟩
 ·exact ⟨rfl,eQ_loc _ _,fun k hk=>⟨.inl (by simp [eQ] at hk; simp [hk]),by simp [eQ] at hk; subst hk; exact h.2.lt⟩⟩
theorem VT.ro {w:World} {b q n:Nat} {tk:Int→Bool} (h:VT w b q n tk):∀ W:World,W.heap[q]? =w.heap[q]? →MapB Tryz.prog 3 4 q n tk W:=fun W hW=>
 (eMb_loc Tryz.prog 3 4 q n tk) w W (fun k hk=>(by rw [List.mem_singleton.1 hk]; exact hW)) h.2
theorem hpr1_any (n j a b n1 n2:Int) (ho:Bool) (RA:Option Addr) (rn rc:Nat) (p1 p2:Nat) (hz:Int) (st_:TypeId) (sv_:Value) (g:Int→Int) (w:World) (h1:Blk w p1 3 #[.int .i64 hz]) (h2:Blk w p2 138 #[.iface st_ sv_]) (hT:StOk w st_ sv_ g):
  Calls Tryz.prog 61 #[.agg #[.int .i64 n, .int .i64 j, .int .i64 a, .int .i64 b, .int .i64 n1, .int .i64 n2, .bool ho, .slice RA rn rc], .pointer (some ⟨p1,0,none⟩), .pointer (some ⟨p2,0,none⟩)] w (Ret (.bool (deadF g hz a b)) w):=by
 go_enter Tryz.func61,Tryz.ntmps61
 have hst0:=St.start w
 refine wp_seq (sqr ?_)
 refine sqbx #[vi n,vi j,vi a,vi b,vi n1,vi n2, .bool ho, .slice RA rn rc] hst0 fun B3_1 W1 hst1=>?_
 refine sqp [.k 4 (.bool false)] ?_
 refine then_normal (wp_seq (sqr (sqp [.k 5 (.pointer (some ⟨B3_1,2,none⟩))] ?_)))
 refine sqlb 0 6 hst1 ?_
 refine sql (vi hz) hst1 (fun cx=>run_load1 rfl (by kernel_rfl) (cx.ou 1) ((Blk.ext h1 cx.upd.to_ext).cell 0)) ?_
 refine sql (.iface st_ (sv_)) hst1 (fun cx=>run_load1 rfl (by kernel_rfl) (cx.ou 2) ((Blk.ext h2 cx.upd.to_ext).cell 0)) ?_
 refine sqk (.bool ((deadF g hz a b))) hst1 (fun cx=>⟨_,dead_any _ _ _ _ _ _ _ _ _ _ _ g _ (hT.ext cx.upd.to_ext),(map3 (cx.ou 6) (cx.ou 7) (cx.ou 8))⟩) fun W7 hst7=>?_
 refine sqp [.m 4 9] ?_
 refine then_normal (wp_ret ?_)
 refine bpr (.bool ((deadF g hz a b))) (results_1 Tryz.results61 rpt) ?_
 exact Ret.bool rfl hst7.ext
theorem hpr2_any (n j a_ b_ n1 n2:Int) (ho:Bool) (RA:Option Addr) (rn rc:Nat) (b q cnt:Nat) (tk:Int→Bool) (w:World) (hV:VT w b q cnt tk) (hj: -9223372036854775808≤j∧j≤9223372036854775807):
  Calls Tryz.prog 65 #[.agg #[.int .i64 n, .int .i64 j, .int .i64 a_, .int .i64 b_, .int .i64 n1, .int .i64 n2, .bool ho, .slice RA rn rc], .pointer (some ⟨b,0,none⟩)] w (Ret (.bool (tk j)) w):=by
 have st0:=St.lentT hV
 have hro:=hV.ro
 go_enter Tryz.func65,Tryz.ntmps65
 have hst0:=st0
 refine wp_seq (sqr ?_)
 refine sqbx #[vi n,vi j,vi a_,vi b_,vi n1,vi n2, .bool ho, .slice RA rn rc] hst0 fun B2_1 W1 hst1=>?_
 refine sqp [.k 3 (.bool false)] ?_
 refine then_normal (wp_seq (sqr (sqld 0 hst1 ?_)))
 refine sqp [.k 5 (vp B2_1), .k 6 (.pointer (some ⟨B2_1,1,none⟩))] ?_
 refine sqld 2 hst1 ?_
 refine sql (.bool ((tk) j)) hst1 (fun cx=>run_lookMb (k:=3) (e:=4) rfl (cx.ou 4) (cx.ou 7) (hro _ (CtxV.holdE cx (cx.init 1 _ rfl) rfl)) (h0:=fun w=>by rfl) (hx:=by omega)) ?_
 refine sqp [.m 3 8] ?_
 refine then_normal (wp_ret ?_)
 refine bpr (.bool ((tk) j)) (results_1 Tryz.results65 rpt) ?_
 exact Ret.bool rfl (hst1.upd.same2 ((hst1.blk 0 rfl).trans hV.1.symm) (hst1.get 1 rfl).holds)
theorem hshort0_any (FA:Option Addr) (fc:Nat) (n:Int) (r:Nat) (f0:FuncId) (cap:Array Value) (P:NV→Bool) (st_:TypeId) (sv_:Value) (w:World) (hcf:callP Tryz.prog f0=true) (hf:∀ (W:World) (k:FK),Ext w W→Calls Tryz.prog f0 (#[.agg #[.int .i64 n, .int .i64 (k.1.1:Int), .int .i64 k.1.2.1, .int .i64 k.1.2.2.1, .int .i64 k.1.2.2.2.1, .int .i64 k.1.2.2.2.2.1, .bool k.1.2.2.2.2.2.1, .slice k.2.1 k.1.2.2.2.2.2.2.length k.2.2]]++cap) W (Ret (.bool (P k.1)) W)):
  Calls Tryz.prog 66 #[.slice FA 0 fc, .agg #[.int .i64 n, .int .i64 ((r:Int))], .func (.func f0) #[] cap, .iface st_ (sv_)] w (ShPost none w):=by
 go_enter Tryz.func66,Tryz.ntmps66
 have hst0:=St.start w
 refine wp_seq (sqr ?_)
 refine sqbx #[vi n,vi ((r:Int))] hst0 fun B5_1 W1 hst1=>?_
 refine sqp [.k 8 (.map none)] ?_
 refine then_normal (wp_seq (sqr (sqp [.m 16 0] ?_)))
 refine sqk2 (fun A17_4 c17_4=> .slice A17_4 0 c17_4) (fun A17_4 c17_4=>eO 43 8 (.slice A17_4 0 c17_4) 0 (([]:List FK).flatMap (cellsF n))) hst1 (fun cx=>⟨_,(gclone_any FA fc n [] _ (At.nil _ _) (Nat.zero_le _)).mono (by rintro e W1 ⟨A4,c4,rfl,ho,hx⟩; exact ⟨_, _,rfl,St.one hx (eO_new ho)⟩),(map1 (cx.ou 16))⟩) fun A17_4 c17_4 W4 hst4=>?_
 refine sqp [.m 18 2] ?_
 refine sqc0 (.slice A17_4 0 c17_4) (eDf 43 (.slice A17_4 0 c17_4) 0 n ([]:List FK)) 1 hst4 (by
   refine svA fun ρ β W X cx=>?_
   refine DoesU.call (run_callF (args:=#[.slice A17_4 0 c17_4, .func (.func f0) #[] cap]) rfl cx.sees rfl (by kernel_rfl) (map2 (cx.ou 17) (cx.ou 18))) ?_
   refine (gdel_any A17_4 c17_4 n [] f0 cap (fun k:FK=>P k.1) _ (cx.ri 1 rfl) (Nat.zero_le _) hcf (fun W k hW=>hf W k (cx.upd.join hW (CtxV.fpW cx (cx.init 1 _ rfl) rfl)).to_ext)).mono ?_
   rintro e W1 ⟨rfl,hz,hu⟩
   refine ⟨_,rfl,post_chgE (E:=eO 43 8 (.slice A17_4 0 c17_4) 0 (([]:List FK).flatMap (cellsF n))) (E':=eDf 43 (.slice A17_4 0 c17_4) 0 n ([]:List FK)) (cx.init 1 _ rfl) rfl rfl hu hz (eDf_loc _ _ _ _ _) (fun k hk=>⟨hk,eDf_lt hz k hk⟩) (fun σ β' X' hs hb hv hx=>?_)⟩
   exact ⟨(hv 19 rfl).1,hx⟩) fun W6 hst6=>?_
 refine sqp [.m 9 19] ?_
 refine then_normal (wp_seq (wp_seq (sqr (sqp [.m 20 9, .k 21 (vi 0), .m 22 0, .k 23 (vi 0), .k 24 (.bool true)] ?_))))
 refine then_normal (wct rfl (wp_seq (sqr (sqp [.k 8 (.map none)] ?_))))
 refine then_normal (wp_ret (then_ret ?_))
 refine bpr (.map none) (results_1 Tryz.results66 rpt) ?_
 exact ⟨rfl,hst6.ext⟩
theorem gidxm_any (FA:Option Addr) (fc:Nat) (n:Int) (ks:List FK) (f0:FuncId) (cap:Array Value) (p:FK→Bool) (w:World) (hF:At w FA (ks.flatMap (cellsF n))) (hl:ks.length≤100000) (hcf:callP Tryz.prog f0=true) (hf:∀ (W:World) (k:FK),k∈ks→Ext w W→Calls Tryz.prog f0 (#[.agg #[.int .i64 n, .int .i64 (k.1.1:Int), .int .i64 k.1.2.1, .int .i64 k.1.2.2.1, .int .i64 k.1.2.2.2.1, .int .i64 k.1.2.2.2.2.1, .bool k.1.2.2.2.2.2.1, .slice k.2.1 k.1.2.2.2.2.2.2.length k.2.2]]++cap) W (Ret (.bool (p k)) W)):
  Calls Tryz.prog 64 #[.slice FA ks.length fc, .func (.func f0) #[] cap] w (Ret (.int .i64 (idxP p 0 ks)) w):=by
 go_enter Tryz.func64,Tryz.ntmps64
 have hst0:=St.start w
 refine wp_seq (sqr (sqp [.k 4 (vi 0)] ?_))
 refine then_normal (wp_seq (wp_seq (sqr (sqp [.m 6 0, .k 7 (vi ((ks.length:Int))), .k 8 (vi 0)] ?_))))
 refine then_normal (wp_block ?_)
 refine wp_loopT (fun t_ mz az W=>∃ k:Nat,k≤ks.length∧idxP p 0 ks=idxP p (k:Int) (ks.drop k)∧mz=ks.length - k∧az=⟨(ovr (jv az) [(4,4,2,[]),(2,8,0,[vi ((k:Int))]),(0,9,10,[])] t_).toArray,[]⟩∧St w [] [] W) (ks.length - 0) ?_ ?_
 · -- the loop begins
   exact ⟨0,Nat.zero_le _,rfl,rfl,(by kernel_rfl),hst0.pk []⟩
 rintro n5 a5 W5 ⟨k,hk,hkr,rfl,hj_,hst5⟩
 refine ovz hj_ fun u5_=>?_
 refine wp_seq (sqr (sqp [.k 9 (.bool (decide ((k:Int) < (ks.length:Int))))] ?_))
 refine then_normal (wp_seq (wds (fun hs7 hs7p=>?_) fun hs7 hs7p=>?_))
 ·refine wp_skip (then_normal (wp_seq (wp_block (wp_seq (sqr (sqp [.m 10 8, .m 5 10] ?_))))))
  refine then_normal (wp_seq ?_)
  obtain ⟨fx,fA,fC,hkj⟩:=getF (ks:=ks) (k:=k) (by omega)
  refine sqr (sqp [.m 11 1, .m 12 0, .m 13 5] ?_)
  refine sql (.pointer (some ((ad FA).add (k*8)))) hst5 (fun cx=>run_indexSlM (e:=43) (m:=k) (sz:=8) rfl (by kernel_rfl) (by kernel_rfl) (cx.ou 12) (cx.ou 13) (by omega) (by omega) (hF.ext cx.upd.to_ext) (flatPos (sz:=8) (cellsF_len n) (by decide) (by omega))) ?_
  refine sql (.agg #[vi n,vi ((fx.1:Int)),vi fx.2.1,vi fx.2.2.1,vi fx.2.2.2.1,vi fx.2.2.2.2.1, .bool fx.2.2.2.2.2.1, .slice fA fx.2.2.2.2.2.2.length fC]) hst5 (fun cx=>run_loadElt (f:=(cellsF n)) (m:=k) (sz:=8) (off:=0) (n:=8) rfl (by kernel_rfl) (by kernel_rfl) (cx.ou 14) rfl (cellsF_len n) (hF.ext cx.upd.to_ext) hkj (fun k hk=>match k,hk with | 0, _=>rfl | 1, _=>rfl | 2, _=>rfl | 3, _=>rfl | 4, _=>rfl | 5, _=>rfl | 6, _=>rfl | 7, _=>rfl | k+8,hk=>absurd hk (by omega))) ?_
  refine sqv (.bool ((p (fx,fA,fC)))) hst5 (sv_call rfl rfl rfl rfl rfl (fun _ _ _ h=>h) fun ρ β W X cx=>⟨_, _,run_callV (f:=f0) (args:=#[.agg #[vi n,vi ((fx.1:Int)),vi fx.2.1,vi fx.2.2.1,vi fx.2.2.2.1,vi fx.2.2.2.2.1, .bool fx.2.2.2.2.2.1, .slice fA fx.2.2.2.2.2.2.length fC]]) (args':=#[.agg #[vi n,vi ((fx.1:Int)),vi fx.2.1,vi fx.2.2.1,vi fx.2.2.2.1,vi fx.2.2.2.2.1, .bool fx.2.2.2.2.2.1, .slice fA fx.2.2.2.2.2.2.length fC]]++cap) rfl rfl (cx.ou 11) hcf (map1 (cx.ou 15)) (by rw [Array.empty_append]),(by have h9:=hf W (fx,fA,fC) (List.mem_of_getElem? hkj) cx.upd.to_ext; dsimp only at h9; exact h9)⟩) fun W15 hst15=>?_
  refine then_normal (wbs (fun hs16=>?_) fun hs16=>?_)
  ·refine wp_seq (sqr (sqp [.m 17 5, .m 4 17] ?_))
   refine then_normal (wp_ret (blk_ret (then_ret (then_ret (blk_ret (then_ret ?_))))))
   refine bpr (vi ((k:Int))) (results_1 Tryz.results64 rpt) ?_
   exact Ret.of (by rw [hkr,idxP_at hkj,hs16]; rfl) hst15.ext
  refine wp_skip (blk_normal (then_normal (sqr (sqp [sI 18 ((k:Int)+1) (by omega), .m 8 18] ?_))))
  refine then_normal ?_
  refine ⟨ks.length - ((k+1)),by omega,?_⟩
  exact ⟨(k+1),by omega,by rw [hkr,idxP_at hkj,hs16]; rfl,rfl,(by kernel_rfl),hst15.pk []⟩
 refine wp_exit (then_exit (then_exit (blk_eq (then_normal (wp_seq (sqr (sqp [.k 4 (vi (-1))] ?_)))))))
 refine then_normal (wp_ret ?_)
 refine bpr (vi (-1)) (results_1 Tryz.results64 rpt) ?_
 exact Ret.of (by rw [hkr,List.drop_of_length_le (by omega)]; rfl) hst5.ext
theorem hidx_any {A:Option Addr} {c:Nat} {l:List NV} {n:Int} {ks:List FK} {w:World} {b q cnt:Nat} {tk:Int→Bool} (h:(eFo 43 (.slice A l.length c) l.length n ks).holds w) (hk:ks.map Prod.fst=l) (hl:l.length≤24) (h24:∀ x∈l,x.1 < 24) (hV:VT w b q cnt tk):
  Calls Tryz.prog 64 #[.slice A l.length c, .func (.func 65) #[] #[.pointer (some ⟨b,0,none⟩)]] w (Ret (.int .i64 (idxP (fun k:FK=>tk (k.1.1:Int)) 0 ks)) w):=by
 have hA:=eFo_at h
 have hm:ks.length=l.length:=by rw [← hk,List.length_map]
 have h3:=gidxm_any A c n ks 65 #[.pointer (some ⟨b,0,none⟩)] (fun k:FK=>tk (k.1.1:Int)) w hA (by omega) (by kernel_rfl) (fun W k hkm hW=>hpr2_any _ _ _ _ _ _ _ _ _ _ b q cnt tk W (hV.ext hW) (by have:=h24 k.1 (by rw [← hk]; exact List.mem_map.2 ⟨k,hkm,rfl⟩); omega))
 rw [hm] at h3
 exact h3
theorem hsh_any {A:Option Addr} {c:Nat} {l:List NV} {n:Int} {ks:List FK} {w:World} {u v:Nat} {hz:Int} {st_:TypeId} {sv_:Value} {g:Int→Int} {r:Nat} {q:List NV} (h:(eFo 43 (.slice A l.length c) l.length n ks).holds w) (hk:ks.map Prod.fst=l) (hl:l.length≤24) (h24:∀ x∈l,x.1 < 24) (hq:q=l.take q.length) (hql:q.length≤l.length) (hr:r < 24) (hrw:∀ x∈l,x.2.2.2.2.2.2.length≤6) (h1:Blk w u 3 #[.int .i64 hz]) (h2:Blk w v 138 #[.iface st_ sv_]) (hT:StOk w st_ sv_ g) (hN:NoneAt w):
  Calls Tryz.prog 66 #[.slice A q.length c, .agg #[.int .i64 n, .int .i64 (r:Int)], .func (.func 61) #[] #[.pointer (some ⟨u,0,none⟩), .pointer (some ⟨v,0,none⟩)], .iface st_ sv_] w (ShPost (shF (dP g hz) g n r q) w):=by
 have hf:∀ (W:World) (k:FK),Ext w W→Calls Tryz.prog 61 (#[.agg #[.int .i64 n, .int .i64 (k.1.1:Int), .int .i64 k.1.2.1, .int .i64 k.1.2.2.1, .int .i64 k.1.2.2.2.1, .int .i64 k.1.2.2.2.2.1, .bool k.1.2.2.2.2.2.1, .slice k.2.1 k.1.2.2.2.2.2.2.length k.2.2]]++#[.pointer (some ⟨u,0,none⟩), .pointer (some ⟨v,0,none⟩)]) W (Ret (.bool (dP g hz k.1)) W):=fun W k hW=>hpr1_any _ _ _ _ _ _ _ _ _ _ u v hz st_ sv_ g W (h1.ext hW) (h2.ext hW) (hT.ext hW)
 have hA:=eFo_at h
 have hm:ks.length=l.length:=by rw [← hk,List.length_map]
 have hcap:l.length≤c:=eown_capN (h _ (List.mem_append_right _ (List.mem_singleton.2 rfl))).1
 by_cases h0:q.length=0
 ·have hq0:=List.eq_nil_of_length_eq_zero h0
  subst hq0
  rw [show shF (dP g hz) g n r []=none from rfl]
  exact hshort0_any A c n r 61 #[.pointer (some ⟨u,0,none⟩), .pointer (some ⟨v,0,none⟩)] (dP g hz) st_ sv_ w (by kernel_rfl) hf
 ·have hl2:(ks.take q.length).length=q.length:=by rw [List.length_take]; omega
  have hmem:∀ k∈ks.take q.length,k∈ks:=fun k hk=>List.mem_of_mem_take hk
  have hml:∀ k∈ks,k.1∈l:=fun k hk2=>by rw [← hk]; exact List.mem_map.2 ⟨k,hk2,rfl⟩
  have h3:=hshort_any A c n (ks.take q.length) r 61 #[.pointer (some ⟨u,0,none⟩), .pointer (some ⟨v,0,none⟩)] (dP g hz) st_ sv_ g w (at_takeF hA q.length) (by omega) ⟨by omega,by omega⟩ hr (fun k hk2=>h24 _ (hml k (hmem k hk2))) (fun k hk2=>⟨eFo_row h (hmem k hk2),Nat.le_trans (hrw _ (hml k (hmem k hk2))) (by decide)⟩) hT hN (by kernel_rfl) hf
  rw [hl2,List.map_take,hk,← hq] at h3
  exact h3
end
section
open Go.RowKit
theorem St.openFnd {w0 W:World} {bor:List Nat} {L1 L2:List Ent} {t:TypeId} {v:Value} {l:List (Nat×VerD)} {n:Int} (h:St w0 bor (L1++eFnd t v l n::L2) W):∃ ks:List FK,ks.map Prod.fst=l∧St w0 bor (L1++eO t 8 v l.length (ks.flatMap (cellsF n))::L2) W:=by
 obtain ⟨ks,hk,hh⟩:=(h.ok (eFnd t v l n) (by simp)).holds
 exact ⟨ks,hk,St.repl h rfl (fun _=>hh) (eO_loc _ _ _ _ _)⟩
theorem St.moreG {w0 W:World} {L1 L2:List Ent} {bor:List Nat} {b n n':Nat} {m:MpD} (h:St w0 bor (L1++eMg strC Tryz.prog 3 b n m::L2) W) (hn:n≤n'):St w0 bor (L1++eMg strC Tryz.prog 3 b n' m::L2) W:=
 St.repl h rfl (fun hh=>MapG.more hh hn) (eMg_loc _ _ _ _ _)
theorem eFo_cap {t:TypeId} {A:Option Addr} {c m:Nat} {n:Int} {ks:List FK} {W:World} (h:(eFo t (.slice A m c) m n ks).holds W):m≤c:=eown_capN (h _ (List.mem_append_right _ (List.mem_singleton.2 rfl))).1
theorem left_all {d:MpD} {left:Int→Bool} (hd:∀ x,(d x).isSome=true→0≤x∧x < 24) (hl:∀ x,left x=true→(d x).isSome=true) (h:∀ x:Int,(Lit.int .i64 x).wf=true→left x=false):∀ x,left x=false:=fun x=>by
 cases hx:left x with
 | false=>rfl
 | true=>
   have h1:=hd x (hl x hx)
   rw [h x (wf64 (by omega))] at hx
   cases hx
theorem left_step {d:MpD} {left:Int→Bool} {y:Int} (hl:∀ x,left x=true→(d x).isSome=true):∀ x,(left x&&x != y)=true→(d x).isSome=true:=fun x hx=>by
 rw [Bool.and_eq_true] at hx
 exact hl x hx.1
theorem sh_n {o:Option MpD} (ho:o=none) {f:Nat} {args:Array Value} {w:World} (h:Calls Tryz.prog f args w (ShPost o w)):Calls Tryz.prog f args w (fun e w'=>e= .returned (.map none)∧Ext w w'):=by subst ho; exact h
theorem sh_s {o:Option MpD} {d:MpD} (ho:o=some d) {f:Nat} {args:Array Value} {w:World} (h:Calls Tryz.prog f args w (ShPost o w)):Calls Tryz.prog f args w (fun e w'=>∃ b,e= .returned (.map (some b))∧St w [] [eMg strC Tryz.prog 3 b 100 d] w'):=by
 subst ho
 refine h.mono ?_
 rintro e w' ⟨b,cnt,he,hc,hst⟩
 exact ⟨b,he,St.moreG (L1:=[]) (L2:=[]) hst hc⟩
theorem row_le {v:PV} (h:v.wf) {x:NV} (hx:SlotOk v x):x.2.2.2.2.2.2.length≤6:=by
 have:=at_len h (x.1:Int)
 rw [hx] at this
 exact this
theorem all_le {v:PV} (h:v.wf):(allF' v).length≤24:=by
 rw [← hits_all h]
 exact fnd_le _ _
theorem hprune_any (tt:TypeId) (tv:Value) (pv:Int→PV) (n hz:Int) (st_:TypeId) (sv_:Value) (g:Int→Int) (w:World) (hS:PgsOk w tt tv pv) (hN:NoneAt w) (hT:StOk w st_ sv_ g):
  Calls Tryz.prog 13 #[.iface tt (tv), .int .i64 n, .int .i64 hz, .iface st_ (sv_)] w (ChPost (edL (pruM (dP g hz) g n (pv n)) (pv n) n 23) n w):=by
 have hwf:=hS.wf n
 have hrl:=rt_le (pv n) 24
 go_enter Tryz.func13,Tryz.ntmps13
 have hst0:=St.start w
 refine wp_seq (sqr ?_)
 refine sqbx #[vi hz] hst0 fun B6_1 W1 hst1=>?_
 refine sqbx #[.iface st_ (sv_)] hst1 fun B7_2 W2 hst2=>?_
 refine sqp [.k 8 (.slice none 0 0)] ?_
 refine then_normal (wp_seq (sqr ?_))
 refine sqn1 (fun x_=>pbg x_) (fun M22_4=> .map (some M22_4)) (fun M22_4=>eMg strC Tryz.prog 3 M22_4 0 (fun _=>none)) hst2 (by
   refine svA fun ρ β W X cx=>?_
   exact dv_makeMg rfl rfl rfl rfl (fun σ β' X' hs hb hv hx=>⟨hv,hx⟩)) fun M22_4 W4 hst4=>?_
 refine sqp [.m 9 22] ?_
 refine then_normal (wp_seq (sqr ?_))
 refine sqv (.func (.func 61) #[] #[vp B6_1,vp B7_2]) hst4 (by
   exact sv0 rfl rfl rfl rfl rfl (fun _ _ _ h=>h) fun ρ β W X cx=>by
    have fF6:ρ (.tmp 6)=vp B6_1:=(cx.ou 6)
    have fF7:ρ (.tmp 7)=vp B7_2:=(cx.ou 7)
    simp [go_sem,Instr.makeFunc,fF6,fF7]) fun W6 hst6=>?_
 refine sqp [.m 10 23] ?_
 refine then_normal (wp_seq (sqr ?_))
 refine sqn1 (fun x_=>pbm x_) (fun M24_8=> .map (some M24_8)) (fun M24_8=>eMb Tryz.prog 3 4 M24_8 0 (fun _=>false)) hst6 (by
   refine svA fun ρ β W X cx=>?_
   exact dv_makeMb rfl rfl rfl rfl (fun σ β' X' hs hb hv hx=>⟨hv,hx⟩)) fun M24_8 W8 hst8=>?_
 refine sqal #[.map none] hst8 fun B11_9 W9 hst9=>?_
 refine sqst (n:=1) 4 #[.map (some M24_8)] hst9 fun W10 hst10=>?_
 refine then_normal (wp_seq (wp_seq (sqr (sqp [.m 25 0, .m 26 1] ?_))))
 refine sqk2 (fun A27_13 c27_13=> .slice A27_13 ((rtL (pv n) 24).length) c27_13) (fun A27_13 c27_13=>eO 24 2 (.slice A27_13 ((rtL (pv n) 24).length) c27_13) ((rtL (pv n) 24).length) ((rtL (pv n) 24).flatMap (cellsR n))) hst10 (fun cx=>⟨_,(hroots_any _ _ pv n _ (hS.ext cx.upd.to_ext) (hN.ext cx.upd.to_ext)).mono (by rintro e W1 ⟨A4,c4,rfl,ho_,hx⟩; exact ⟨_, _,rfl,St.one hx (eO_new (n:=(rtL (pv n) 24).length) (xs:=(rtL (pv n) 24).flatMap (cellsR n)) ho_)⟩),(map2 (cx.ou 25) (cx.ou 26))⟩) fun A27_13 c27_13 W13 hst13=>?_
 refine sqp [.k 28 (vi (((rtL (pv n) 24).length:Int))), .k 29 (vi 0)] ?_
 refine then_normal (wp_block ?_)
 refine wp_loopT (fun t_ mz az W=>∃ i:Nat,∃ cn:Nat,∃ ct:Nat,i≤(rtL (pv n) 24).length∧cn≤124*i∧ct≤24*i∧mz=(rtL (pv n) 24).length - i∧az=⟨(ovr (jv az) [(13,13,3,[]),(1,17,3,[]),(9,29,0,[vi ((i:Int))]),(0,30,40,[])] t_).toArray,[]⟩∧St w [] [eB B6_1 3 #[vi hz],eB B7_2 138 #[.iface st_ (sv_)],eMg strC Tryz.prog 3 M22_4 cn ((prL (dP g hz) g n (pv n) i).2),eMb Tryz.prog 3 4 M24_8 ct ((prL (dP g hz) g n (pv n) i).1),eB B11_9 142 #[.map (some M24_8)],eO 24 2 (.slice A27_13 ((rtL (pv n) 24).length) c27_13) ((rtL (pv n) 24).length) ((rtL (pv n) 24).flatMap (cellsR n))] W) ((rtL (pv n) 24).length - 0) ?_ ?_
 · -- the loop begins
   exact ⟨0,0,0,Nat.zero_le _,Nat.zero_le _,Nat.zero_le _,rfl,(by kernel_rfl),hst13.pk [0,1,2,3,4,5]⟩
 rintro n16 a16 W16 ⟨i,cn,ct,hi,hcn,hct,rfl,hj_,hst16⟩
 refine ovz hj_ fun u16_=>?_
 refine wp_seq (sqr (sqp [.k 30 (.bool (decide ((i:Int) < ((rtL (pv n) 24).length:Int))))] ?_))
 refine then_normal (wp_seq (wds (fun hs18 hs18p=>?_) fun hs18 hs18p=>?_))
 ·refine wp_skip (then_normal (wp_seq (wp_block (wp_seq ?_))))
  obtain ⟨rr,hrr,hrr0,hrr1⟩:=rt_get (v:=(pv n)) (i:=i) (by omega)
  refine sqr ?_
  refine sql (.pointer (some ((ad A27_13).add (i*2)))) hst16 (fun cx=>run_indexSlM (e:=24) (m:=i) (sz:=2) rfl (by kernel_rfl) (by kernel_rfl) (cx.ou 27) (cx.ou 29) (by omega) (by omega) (At.of_ownN (cx.ri 5 rfl)) (flatPos (sz:=2) (cellsR_len n) (by decide) (by omega))) ?_
  refine sql (.agg #[vi n,vi ((rr:Int))]) hst16 (fun cx=>run_loadElt (f:=(cellsR n)) (m:=i) (sz:=2) (off:=0) (n:=2) rfl (by kernel_rfl) (by kernel_rfl) (cx.ou 31) rfl (cellsR_len n) (At.of_ownN (cx.ri 5 rfl)) hrr (fun k hk=>match k,hk with | 0, _=>rfl | 1, _=>rfl | k+2,hk=>absurd hk (by omega))) ?_
  refine sqal #[vi 0,vi 0] hst16 fun B13_21 W21 hst21=>?_
  refine sqst (n:=2) 6 #[vi n,vi ((rr:Int))] hst21 fun W22 hst22=>?_
  refine then_normal (wp_seq (sqr (sqp [.m 33 0] ?_)))
  refine sqlb 6 2 hst22 ?_
  refine sqk2s (fun A35_25 c35_25=> .slice A35_25 ((chF (pv n) n (rr:Int)).length) c35_25) (fun A35_25 c35_25 r7_25=>eFk 43 (.slice A35_25 ((chF (pv n) n (rr:Int)).length) c35_25) (chF (pv n) n (rr:Int)) n r7_25) hst22 (fun cx=>⟨_,(hchainR_any _ _ pv n (rr:Int) _ (hS.ext cx.upd.to_ext) (hN.ext cx.upd.to_ext) (by omega)).mono (by rintro e W1 ⟨A4,c4,fp4,rfl,hc⟩; exact ⟨_, _, _,rfl,hc⟩),(map2 (cx.ou 33) (cx.ou 34))⟩) fun A35_25 c35_25 r7_25 W25 hst25=>?_
  refine sqp [.m 14 35] ?_
  refine then_normal ?_
  have hcl_:=chF_len (pv n) n (rr:Int)
  obtain ⟨ks,hks,hmO27⟩:=St.openFk (L1:=[eB B6_1 3 #[vi hz],eB B7_2 138 #[.iface st_ (sv_)],eMg strC Tryz.prog 3 M22_4 cn ((prL (dP g hz) g n (pv n) i).2),eMb Tryz.prog 3 4 M24_8 ct ((prL (dP g hz) g n (pv n) i).1),eB B11_9 142 #[.map (some M24_8)],eO 24 2 (.slice A27_13 ((rtL (pv n) 24).length) c27_13) ((rtL (pv n) 24).length) ((rtL (pv n) 24).flatMap (cellsR n)),eB B13_21 24 #[vi n,vi ((rr:Int))]]) (L2:=[]) hst25
  simp only [List.cons_append,List.nil_append] at hmO27
  have hksl:ks.length=(chF (pv n) n (rr:Int)).length:=by rw [← hks,List.length_map]
  have hcap_:=eFo_cap (hmO27.get 7 rfl).holds
  have h24:∀ x∈(chF (pv n) n (rr:Int)),x.1 < 24:=fun x hx=>by have:=slot_of hwf (chF_mem hwf x hx); omega
  have hrw:∀ x∈(chF (pv n) n (rr:Int)),x.2.2.2.2.2.2.length≤6:=fun x hx=>row_le hwf (chF_mem hwf x hx)
  have hcu_:=cut_le (prL (dP g hz) g n (pv n) i).1 (chF (pv n) n (rr:Int))
  refine wp_cutT (fun t_ az W=>True∧az=⟨(ovr (jv az) [(14,14,0,[.slice A35_25 ((cutT (prL (dP g hz) g n (pv n) i).1 (chF (pv n) n (rr:Int))).length) c35_25]),(0,15,1,[]),(20,36,8,[])] t_).toArray,[]⟩∧St w [] [eB B6_1 3 #[vi hz],eB B7_2 138 #[.iface st_ (sv_)],eMg strC Tryz.prog 3 M22_4 cn ((prL (dP g hz) g n (pv n) i).2),eMb Tryz.prog 3 4 M24_8 ct ((prL (dP g hz) g n (pv n) i).1),eB B11_9 142 #[.map (some M24_8)],eO 24 2 (.slice A27_13 ((rtL (pv n) 24).length) c27_13) ((rtL (pv n) 24).length) ((rtL (pv n) 24).flatMap (cellsR n)),eB B13_21 24 #[vi n,vi ((rr:Int))],eFo 43 (.slice A35_25 ((chF (pv n) n (rr:Int)).length) c35_25) (chF (pv n) n (rr:Int)).length n ks] W) ?_ ?_
  ·refine wp_seq (sqr (sqp [.m 36 14] ?_))
   refine sqv (.func (.func 65) #[] #[vp B11_9]) hmO27 (by
     exact sv0 rfl rfl rfl rfl rfl (fun _ _ _ h=>h) fun ρ β W X cx=>by
      have fF11:ρ (.tmp 11)=vp B11_9:=(cx.ou 11)
      simp [go_sem,Instr.makeFunc,fF11]) fun W30 hst30=>?_
   refine sqk (vi ((idxP (fun k:FK=>(prL (dP g hz) g n (pv n) i).1 (k.1.1:Int)) 0 ks))) hst30 (fun cx=>⟨_,hidx_any (tk:=(prL (dP g hz) g n (pv n) i).1) (CtxV.holdE cx (cx.init 7 _ rfl) rfl) hks (chF_len _ _ _) h24 ⟨(cx.bi 4 rfl),(CtxV.mb cx (cx.init 3 _ rfl) rfl)⟩,(map2 (cx.ou 36) (cx.ou 37))⟩) fun W31 hst31=>?_
   refine sqp [.m 15 38] ?_
   refine then_normal (wp_seq ?_)
   obtain ⟨ix,hN_ix⟩:∃ z,(idxP (fun k:FK=>(prL (dP g hz) g n (pv n) i).1 (k.1.1:Int)) 0 ks)=z:=⟨_,rfl⟩
   rw [hN_ix]
   rcases cut_idx (tk:=(prL (dP g hz) g n (pv n) i).1) hks with ⟨hi1,hi2⟩ | ⟨i0,hi1,hi2,hi3,hi4⟩
   ·rw [hN_ix] at hi1
    subst hi1
    refine sqr (sqp [.m 39 15, .k 40 (.bool false)] ?_)
    refine then_normal (wcf rfl (wp_skip (then_normal ?_)))
    exact ⟨trivial,(by rw [hi2]; kernel_rfl),hst31.pk [0,1,2,3,4,5,6,7]⟩
   ·rw [hN_ix] at hi2
    subst hi2
    refine sqr (sqp [.m 39 15, .e 40 (.bool (decide (0≤(i0:Int)))) (.bool true) (congrArg Value.bool (show (decide (0≤(i0:Int)))=true from (decide_eq_true (by omega))))] ?_)
    refine then_normal (wct rfl (sqr (sqp [.m 41 14, .m 42 15] ?_)))
    refine sql (.slice A35_25 i0 c35_25) hst31 (fun cx=>run_sliceL_hi (e:=43) (sz:=8) (m:=i0) rfl (by kernel_rfl) (by kernel_rfl) (cx.ou 41) (cx.ou 42) (by omega) (by omega)) ?_
    refine sqp [.m 14 43] ?_
    refine then_normal ?_
    exact ⟨trivial,(by rw [hi4]; kernel_rfl),hst31.pk [0,1,2,3,4,5,6,7]⟩
  rintro a28 W28 ⟨-,hj_,hst28⟩
  refine ovz hj_ fun u28_=>?_
  refine wp_seq (wp_seq (sqr (sqp [.m 44 14, .k 45 (vi (((cutT (prL (dP g hz) g n (pv n) i).1 (chF (pv n) n (rr:Int))).length:Int))), .k 46 (vi 0)] ?_)))
  refine then_normal (wp_block ?_)
  refine wp_loopT (fun t_ mz az W=>∃ kk:Nat,∃ ct2:Nat,kk≤(cutT (prL (dP g hz) g n (pv n) i).1 (chF (pv n) n (rr:Int))).length∧ct2≤ct+kk∧mz=(cutT (prL (dP g hz) g n (pv n) i).1 (chF (pv n) n (rr:Int))).length - kk∧az=⟨(ovr (jv az) [(17,17,1,[]),(28,46,0,[vi ((kk:Int))]),(0,47,8,[])] t_).toArray,[]⟩∧St w [] [eB B6_1 3 #[vi hz],eB B7_2 138 #[.iface st_ (sv_)],eMg strC Tryz.prog 3 M22_4 cn ((prL (dP g hz) g n (pv n) i).2),eMb Tryz.prog 3 4 M24_8 ct2 (tkM (chF (pv n) n (rr:Int)) (prL (dP g hz) g n (pv n) i).1 kk),eB B11_9 142 #[.map (some M24_8)],eO 24 2 (.slice A27_13 ((rtL (pv n) 24).length) c27_13) ((rtL (pv n) 24).length) ((rtL (pv n) 24).flatMap (cellsR n)),eB B13_21 24 #[vi n,vi ((rr:Int))],eFo 43 (.slice A35_25 ((chF (pv n) n (rr:Int)).length) c35_25) (chF (pv n) n (rr:Int)).length n ks] W) ((cutT (prL (dP g hz) g n (pv n) i).1 (chF (pv n) n (rr:Int))).length - 0) ?_ ?_
  · -- the loop begins
    exact ⟨0,ct,Nat.zero_le _,by omega,rfl,(by kernel_rfl),hst28.pk [0,1,2,3,4,5,6,7]⟩
  rintro n44 a44 W44 ⟨kk,ct2,hkk,hct2,rfl,hj_,hst44⟩
  refine ovz hj_ fun u44_=>?_
  refine wp_seq (sqr (sqp [.k 47 (.bool (decide ((kk:Int) < ((cutT (prL (dP g hz) g n (pv n) i).1 (chF (pv n) n (rr:Int))).length:Int))))] ?_))
  refine then_normal (wp_seq (wds (fun hs46 hs46p=>?_) fun hs46 hs46p=>?_))
  ·refine wp_skip (then_normal (wp_seq (wp_block (wp_seq ?_))))
   obtain ⟨fx,fA,fC,hkfj,hfx⟩:=ks_get (j:=kk) hks (by omega)
   have hfs:=h24 _ (List.mem_of_getElem? hfx)
   refine sqr ?_
   refine sql (.pointer (some ((ad A35_25).add (kk*8)))) hst44 (fun cx=>run_indexSlM (e:=43) (m:=kk) (sz:=8) rfl (by kernel_rfl) (by kernel_rfl) (cx.ou 44) (cx.ou 46) (by omega) (by omega) (eFo_at (CtxV.holdE cx (cx.init 7 _ rfl) rfl)) (flatPos (sz:=8) (cellsF_len n) (by decide) (by omega))) ?_
   refine sql (.agg #[vi n,vi ((fx.1:Int)),vi fx.2.1,vi fx.2.2.1,vi fx.2.2.2.1,vi fx.2.2.2.2.1, .bool fx.2.2.2.2.2.1, .slice fA fx.2.2.2.2.2.2.length fC]) hst44 (fun cx=>run_loadElt (f:=(cellsF n)) (m:=kk) (sz:=8) (off:=0) (n:=8) rfl (by kernel_rfl) (by kernel_rfl) (cx.ou 48) rfl (cellsF_len n) (eFo_at (CtxV.holdE cx (cx.init 7 _ rfl) rfl)) hkfj (fun k hk=>match k,hk with | 0, _=>rfl | 1, _=>rfl | 2, _=>rfl | 3, _=>rfl | 4, _=>rfl | 5, _=>rfl | 6, _=>rfl | 7, _=>rfl | k+8,hk=>absurd hk (by omega))) ?_
   refine sqal #[vi 0,vi 0,vi 0,vi 0,vi 0,vi 0, .bool false, .slice none 0 0] hst44 fun B17_49 W49 hst49=>?_
   refine sqst (n:=8) 8 #[vi n,vi ((fx.1:Int)),vi fx.2.1,vi fx.2.2.1,vi fx.2.2.2.1,vi fx.2.2.2.2.1, .bool fx.2.2.2.2.2.1, .slice fA fx.2.2.2.2.2.2.length fC] hst49 fun W50 hst50=>?_
   refine then_normal (sqr (sqld 4 hst50 ?_))
   refine sqp [.k 51 (vp B17_49), .k 52 (.pointer (some ⟨B17_49,1,none⟩))] ?_
   refine sqld 8 hst50 ?_
   refine sqc (eMb Tryz.prog 3 4 M24_8 (ct2+1) (fun y=>if y=(fx.1:Int) then true else tkM (chF (pv n) n (rr:Int)) (prL (dP g hz) g n (pv n) i).1 kk y)) 3 hst50 (by
     refine svA fun ρ β W X cx=>?_
     exact dv_setMb (.inl rfl) (cx.ou 50) (cx.ou 53) (cx.co _) cx (cx.init 3 _ rfl) rfl (by omega) (by omega) rfl rfl rfl (fun σ β' X' hs hb hx=>hx)) fun W55 hst55=>?_
   refine blk_normal (then_normal (sqr (sqp [sI 54 ((kk:Int)+1) (by omega), .m 46 54] ?_)))
   refine then_normal ?_
   rw [← tk_step hfx] at hst55
   refine ⟨(cutT (prL (dP g hz) g n (pv n) i).1 (chF (pv n) n (rr:Int))).length - ((kk+1)),by omega,?_⟩
   exact ⟨(kk+1),(ct2+1),by omega,by omega,rfl,(by kernel_rfl),hst55.pk [0,1,2,3,4,5,6,7]⟩
  refine wp_exit (then_exit (then_exit (blk_eq (then_normal (wp_seq ?_)))))
  have hke:kk=(cutT (prL (dP g hz) g n (pv n) i).1 (chF (pv n) n (rr:Int))).length:=by omega
  subst hke
  rcases hsf:shF (dP g hz) g n rr (cutT (prL (dP g hz) g n (pv n) i).1 (chF (pv n) n (rr:Int))) with _ | d
  ·refine sqr (sqp [.m 55 14] ?_)
   refine sqlb 6 2 hst44 ?_
   refine sqp [.m 57 10] ?_
   refine sqld 1 hst44 ?_
   refine sqk (.map none) hst44 (fun cx=>⟨_,sh_n hsf (hsh_any (CtxV.holdE cx (cx.init 7 _ rfl) rfl) hks (chF_len _ _ _) h24 (cut_take _ _) (cut_le _ _) hrr1 hrw (cx.bi 0 rfl) (cx.bi 1 rfl) (hT.ext cx.upd.to_ext) (hN.ext cx.upd.to_ext)),(map4 (cx.ou 55) (cx.ou 56) (cx.ou 57) (cx.ou 58))⟩) fun W62 hst62=>?_
   refine sqn1 (fun x_=>pb x_) (fun R60_63=>vp R60_63) (fun R60_63=>eRn R60_63) hst62 (by
     refine svA fun ρ β W X cx=>?_
     exact dv_rangeN (k:=3) (e:=9) rfl (cx.ou 59) rfl rfl rfl (fun σ β' X' hs hb hv hx=>⟨hv,hx⟩)) fun R60_63 W63 hst63=>?_
   refine then_normal (wp_block ?_)
   refine wp_loopT (fun t_ mz az W=>True∧mz=0∧az=⟨(ovr (jv az) [(18,18,2,[]),(41,61,8,[])] t_).toArray,[]⟩∧St w [] [eB B6_1 3 #[vi hz],eB B7_2 138 #[.iface st_ (sv_)],eMg strC Tryz.prog 3 M22_4 cn ((prL (dP g hz) g n (pv n) i).2),eMb Tryz.prog 3 4 M24_8 ct2 (tkM (chF (pv n) n (rr:Int)) (prL (dP g hz) g n (pv n) i).1 (cutT (prL (dP g hz) g n (pv n) i).1 (chF (pv n) n (rr:Int))).length),eB B11_9 142 #[.map (some M24_8)],eO 24 2 (.slice A27_13 ((rtL (pv n) 24).length) c27_13) ((rtL (pv n) 24).length) ((rtL (pv n) 24).flatMap (cellsR n)),eB B13_21 24 #[vi n,vi ((rr:Int))],eFo 43 (.slice A35_25 ((chF (pv n) n (rr:Int)).length) c35_25) (chF (pv n) n (rr:Int)).length n ks,eRn R60_63] W) (0) ?_ ?_
   · -- the loop begins
     exact ⟨trivial,rfl,(by kernel_rfl),hst63.pk [0,1,2,3,4,5,6,7,8]⟩
   rintro n64 a64 W64 ⟨-,rfl,hj_,hst64⟩
   refine ovz hj_ fun u64_=>?_
   refine wp_seq (sqr ?_)
   refine sql (.tuple #[.bool false]) hst64 (fun cx=>run_nextN rfl (cx.ou 60) (CtxV.holdE cx (cx.init 8 _ rfl) rfl)) ?_
   refine sqp [.k 62 (.bool false)] ?_
   refine then_normal (wp_seq (wcf rfl (wp_exit (then_exit (then_exit (blk_eq (blk_normal (then_normal (sqr (sqp [sI 69 ((i:Int)+1) (by omega), .m 29 69] ?_))))))))))
   refine then_normal ?_
   have hp1_:(prL (dP g hz) g n (pv n) (i+1)).1=tkM (chF (pv n) n (rr:Int)) (prL (dP g hz) g n (pv n) i).1 (cutT (prL (dP g hz) g n (pv n) i).1 (chF (pv n) n (rr:Int))).length:=by rw [prL_step hrr]; rfl
   have hp2_:(prL (dP g hz) g n (pv n) (i+1)).2=(prL (dP g hz) g n (pv n) i).2:=by rw [prL_step hrr]; exact congrArg (mrgM _) hsf
   rw [← hp1_,← hp2_] at hst64
   refine ⟨(rtL (pv n) 24).length - ((i+1)),by omega,?_⟩
   exact ⟨(i+1),cn,ct2,by omega,by omega,by omega,rfl,(by kernel_rfl),hst64.pk [0,1,2,3,4,5]⟩
  ·refine sqr (sqp [.m 55 14] ?_)
   refine sqlb 6 2 hst44 ?_
   refine sqp [.m 57 10] ?_
   refine sqld 1 hst44 ?_
   refine sqk1 (fun Q59_73=> .map (some Q59_73)) (fun Q59_73=>eMg strC Tryz.prog 3 Q59_73 100 (d)) hst44 (fun cx=>⟨_,(sh_s hsf (hsh_any (CtxV.holdE cx (cx.init 7 _ rfl) rfl) hks (chF_len _ _ _) h24 (cut_take _ _) (cut_le _ _) hrr1 hrw (cx.bi 0 rfl) (cx.bi 1 rfl) (hT.ext cx.upd.to_ext) (hN.ext cx.upd.to_ext))).mono (by rintro e W1 ⟨b4,rfl,hc⟩; exact ⟨_,rfl,hc⟩),(map4 (cx.ou 55) (cx.ou 56) (cx.ou 57) (cx.ou 58))⟩) fun Q59_73 W73 hst73=>?_
   refine sqc1 (fun x_=>pb x_) (fun R60_74=>vp R60_74) (fun R60_74=>eRg strC Tryz.prog 3 Q59_73 R60_74 100 (d) (fun x=>((d) x).isSome) 100 none) 8 hst73 (by
     refine svA fun ρ β W X cx=>?_
     exact dv_range (e:=9) rfl (cx.ou 59) cx (cx.init 8 _ rfl) rfl rfl rfl rfl (fun σ β' X' hs hb hv hx=>⟨hv,hx⟩)) fun R60_74 W74 hst74=>?_
   refine then_normal (wp_block ?_)
   rw [← rng_0 (prL (dP g hz) g n (pv n) i).2 d] at hst74
   have hdk_:=ref_keys (fun x hx=>h24 x (cut_sub x hx)) hrr1 hsf
   refine wp_loopT (fun t_ mz az W=>∃ left:Int→Bool,∃ rc:Nat,∃ cur:Option (Int×ByteArray),∃ cn3:Nat,(∀ x,left x=true→(d x).isSome=true)∧cn3+rc≤cn+100∧mz=2*rc∧az=⟨(ovr (jv az) [(18,18,2,[]),(41,61,8,[])] t_).toArray,[]⟩∧St w [] [eB B6_1 3 #[vi hz],eB B7_2 138 #[.iface st_ (sv_)],eMg strC Tryz.prog 3 M22_4 cn3 (rngM (prL (dP g hz) g n (pv n) i).2 d left),eMb Tryz.prog 3 4 M24_8 ct2 (tkM (chF (pv n) n (rr:Int)) (prL (dP g hz) g n (pv n) i).1 (cutT (prL (dP g hz) g n (pv n) i).1 (chF (pv n) n (rr:Int))).length),eB B11_9 142 #[.map (some M24_8)],eO 24 2 (.slice A27_13 ((rtL (pv n) 24).length) c27_13) ((rtL (pv n) 24).length) ((rtL (pv n) 24).flatMap (cellsR n)),eB B13_21 24 #[vi n,vi ((rr:Int))],eFo 43 (.slice A35_25 ((chF (pv n) n (rr:Int)).length) c35_25) (chF (pv n) n (rr:Int)).length n ks,eRg strC Tryz.prog 3 Q59_73 R60_74 100 (d) (left) rc cur] W) (2*100) ?_ ?_
   · -- the loop begins
     exact ⟨(fun x=>(d x).isSome),100,none,cn,fun x hx=>hx,by omega,rfl,(by kernel_rfl),hst74.pk [0,1,2,3,4,5,6,7,8]⟩
   rintro n75 a75 W75 ⟨left,rc,cur,cn3,hlf,hcn3,rfl,hj_,hst75⟩
   refine ovz hj_ fun u75_=>?_
   refine wp_seq (wp_region_Y [0,1] [[8],[]] [[9]] [[8]] [.a 61, .a 62] (fun ix σ β X=>match ix with | 0=>Nxt strC Tryz.prog 3 Q59_73 R60_74 100 (d) (left) rc (σ 61) (X 9) | 1=>σ 62= .bool (nxB (σ 61)) | _=>True) [0,1,2,3,4,5,6,7,9] [0,1] [(61,0,2,63)] hst75 ?_ ?_ ?_)
   ·exact fun ix _ _ _ _ _ _ hs hb hx h=>match ix,h with
    | 0,h=>by (try dsimp only at h ⊢); rw [← hs 61 rfl,← hx 9 rfl]; exact h
    | 1,h=>by (try dsimp only at h ⊢); rw [← hs 62 rfl,← hs 61 rfl]; exact h
    | _+2, _=>trivial
   ·refine ⟨?_,?_,trivial⟩
    ·refine svA fun ρ β W X cx=>?_
     exact dv_next rfl (cx.ou 60) cx (cx.init 8 _ rfl) rfl rfl rfl rfl (fun σ β' X' hs hb hN=>hN)
    ·refine svA fun ρ β W X cx=>?_
     exact dv_exN (d1:=61) rfl (dTn (cx.an 0)) rfl rfl rfl (fun σ β' X' hv hs=>by (try dsimp only); rw [hs 61 (by decide)]; exact hv)
   intro σ β X W76 hD hst76 fr hfr
   have hq0_:=dTn (hD 0 lq)
   have hq1_:=dTn (hD 1 lq)
   try dsimp only at hq0_ hq1_
   rcases hq0_ with ⟨ha_,hl76,hb_⟩ | ⟨kx76,kc76,ha_,hx76,hl76,hm76,hc76,hb_⟩
   ·rw [ha_] at hq1_
    simp only [exq 9 hb_] at hst76
    simp only [ed 61 ha_,ed 62 hq1_,nxB_f] at hfr
    clear hD ha_ hq1_ hb_; subst hfr; clear σ β X
    refine then_normal (wp_seq (wcf rfl (wp_exit (then_exit (then_exit (blk_eq (blk_normal (then_normal ?_))))))))
    rw [rng_end (left_all hdk_ hlf hl76)] at hst76
    refine sqr (sqp [sI 69 ((i:Int)+1) (by omega), .m 29 69] ?_)
    refine then_normal ?_
    have hp1_:(prL (dP g hz) g n (pv n) (i+1)).1=tkM (chF (pv n) n (rr:Int)) (prL (dP g hz) g n (pv n) i).1 (cutT (prL (dP g hz) g n (pv n) i).1 (chF (pv n) n (rr:Int))).length:=by rw [prL_step hrr]; rfl
    have hp2_:(prL (dP g hz) g n (pv n) (i+1)).2=mrgM (prL (dP g hz) g n (pv n) i).2 (some d):=by rw [prL_step hrr]; exact congrArg (mrgM _) hsf
    rw [← hp1_,← hp2_] at hst76
    refine ⟨(rtL (pv n) 24).length - ((i+1)),by omega,?_⟩
    exact ⟨(i+1),cn3,ct2,by omega,by omega,by omega,rfl,(by kernel_rfl),hst76.pk [0,1,2,3,4,5]⟩
   rw [ha_] at hq1_
   simp only [exq 9 hb_] at hst76
   simp only [ed 61 ha_,ed 62 hq1_,nxB_t] at hfr
   clear hD ha_ hq1_ hb_; subst hfr; clear σ β X
   refine then_normal (wp_seq (wct rfl (wp_skip (then_normal (wp_block (wp_seq (sqr ?_)))))))
   refine sql (.tuple #[vi kx76, .string kc76]) hst76 (fun cx=>run_entryR rfl (cx.ou 60) (CtxV.holdE cx (cx.init 8 _ rfl) rfl)) ?_
   refine sqp [.k 64 (vi kx76), .k 65 (.string kc76), .m 18 64, .m 19 65] ?_
   refine then_normal (sqr (sqp [.m 66 9, .m 67 18, .m 68 19] ?_))
   refine sqc (eMg strC Tryz.prog 3 M22_4 (cn3+1) (putM (rngM (prL (dP g hz) g n (pv n) i).2 d left) kx76 (some kc76))) 2 hst76 (by
     refine svA fun ρ β W X cx=>?_
     exact dv_setMg (e:=9) (v:=kc76) (.inl rfl) (cx.ou 66) (cx.ou 67) (show ρ _= .string kc76 from (cx.ou 68)) cx (cx.init 2 _ rfl) rfl (by omega) (by omega) rfl rfl rfl (fun σ β' X' hs hb hx=>hx)) fun W88 hst88=>?_
   refine blk_normal (then_normal ?_)
   rw [← rng_step hm76] at hst88
   refine ⟨2*((rc - 1)),by omega,?_⟩
   exact ⟨(fun y=>left y&&y != kx76),(rc - 1),(some (kx76,kc76)),(cn3+1),left_step hlf,by omega,rfl,(by kernel_rfl),hst88.pk [0,1,2,3,4,5,6,7,8]⟩
 refine wp_exit (then_exit (then_exit (blk_eq (then_normal (wp_seq (wp_seq ?_))))))
 have hie:i=(rtL (pv n) 24).length:=by omega
 subst hie
 refine sqr (sqp [.m 70 0, .m 71 1] ?_)
 refine sqk2 (fun A72_91 c72_91=> .slice A72_91 ((allF' (pv n)).length) c72_91) (fun A72_91 c72_91=>eFnd 43 (.slice A72_91 ((allF' (pv n)).length) c72_91) (allF' (pv n)) n) hst16 (fun cx=>⟨_,(hall_any _ _ pv n _ (hS.ext cx.upd.to_ext) (hN.ext cx.upd.to_ext)).mono (by rintro e W1 ⟨A4,c4,ks4,hks4,rfl,ho,hx⟩; exact ⟨_, _,rfl,St.one hx (eFnd_new hks4 ho)⟩),(map2 (cx.ou 70) (cx.ou 71))⟩) fun A72_91 c72_91 W91 hst91=>?_
 refine sqp [.k 73 (vi (((allF' (pv n)).length:Int))), .k 74 (vi 0)] ?_
 refine then_normal (wp_block ?_)
 have hal_:(allF' (pv n)).length≤24:=all_le hwf
 obtain ⟨ka,hka,hmO94⟩:=St.openFnd (L1:=[eB B6_1 3 #[vi hz],eB B7_2 138 #[.iface st_ (sv_)],eMg strC Tryz.prog 3 M22_4 cn ((prL (dP g hz) g n (pv n) (rtL (pv n) 24).length).2),eMb Tryz.prog 3 4 M24_8 ct ((prL (dP g hz) g n (pv n) (rtL (pv n) 24).length).1),eB B11_9 142 #[.map (some M24_8)],eO 24 2 (.slice A27_13 ((rtL (pv n) 24).length) c27_13) ((rtL (pv n) 24).length) ((rtL (pv n) 24).flatMap (cellsR n))]) (L2:=[]) hst91
 simp only [List.cons_append,List.nil_append] at hmO94
 have hkal:ka.length=(allF' (pv n)).length:=by rw [← hka,List.length_map]
 refine wp_loopT (fun t_ mz az W=>∃ jj:Nat,∃ cn2:Nat,jj≤(allF' (pv n)).length∧cn2≤cn+jj∧mz=(allF' (pv n)).length - jj∧az=⟨(ovr (jv az) [(21,21,1,[]),(52,74,0,[vi ((jj:Int))]),(0,75,24,[])] t_).toArray,[]⟩∧St w [] [eB B6_1 3 #[vi hz],eB B7_2 138 #[.iface st_ (sv_)],eMg strC Tryz.prog 3 M22_4 cn2 (hotM (dP g hz) (prL (dP g hz) g n (pv n) (rtL (pv n) 24).length).1 (allF' (pv n)) (prL (dP g hz) g n (pv n) (rtL (pv n) 24).length).2 jj),eMb Tryz.prog 3 4 M24_8 ct ((prL (dP g hz) g n (pv n) (rtL (pv n) 24).length).1),eB B11_9 142 #[.map (some M24_8)],eO 24 2 (.slice A27_13 ((rtL (pv n) 24).length) c27_13) ((rtL (pv n) 24).length) ((rtL (pv n) 24).flatMap (cellsR n)),eO 43 8 (.slice A72_91 ((allF' (pv n)).length) c72_91) ((allF' (pv n)).length) (ka.flatMap (cellsF n))] W) ((allF' (pv n)).length - 0) ?_ ?_
 · -- the loop begins
   exact ⟨0,cn,Nat.zero_le _,by omega,rfl,(by kernel_rfl),hmO94.pk [0,1,2,3,4,5,6]⟩
 rintro n95 a95 W95 ⟨jj,cn2,hjj,hcn2,rfl,hj_,hst95⟩
 refine ovz hj_ fun u95_=>?_
 refine wp_seq (sqr (sqp [.k 75 (.bool (decide ((jj:Int) < ((allF' (pv n)).length:Int))))] ?_))
 refine then_normal (wp_seq (wds (fun hs97 hs97p=>?_) fun hs97 hs97p=>?_))
 ·refine wp_skip (then_normal (wp_seq (wp_block (wp_seq ?_))))
  obtain ⟨fx,fA,fC,hkfj,hfx⟩:=ks_get (j:=jj) hka (by omega)
  have hfs:=slot_of hwf (all_mem _ (List.mem_of_getElem? hfx))
  refine sqr ?_
  refine sql (.pointer (some ((ad A72_91).add (jj*8)))) hst95 (fun cx=>run_indexSlM (e:=43) (m:=jj) (sz:=8) rfl (by kernel_rfl) (by kernel_rfl) (cx.ou 72) (cx.ou 74) (by omega) (by omega) (At.of_ownN (cx.ri 6 rfl)) (flatPos (sz:=8) (cellsF_len n) (by decide) (by omega))) ?_
  refine sql (.agg #[vi n,vi ((fx.1:Int)),vi fx.2.1,vi fx.2.2.1,vi fx.2.2.2.1,vi fx.2.2.2.2.1, .bool fx.2.2.2.2.2.1, .slice fA fx.2.2.2.2.2.2.length fC]) hst95 (fun cx=>run_loadElt (f:=(cellsF n)) (m:=jj) (sz:=8) (off:=0) (n:=8) rfl (by kernel_rfl) (by kernel_rfl) (cx.ou 76) rfl (cellsF_len n) (At.of_ownN (cx.ri 6 rfl)) hkfj (fun k hk=>match k,hk with | 0, _=>rfl | 1, _=>rfl | 2, _=>rfl | 3, _=>rfl | 4, _=>rfl | 5, _=>rfl | 6, _=>rfl | 7, _=>rfl | k+8,hk=>absurd hk (by omega))) ?_
  refine sqal #[vi 0,vi 0,vi 0,vi 0,vi 0,vi 0, .bool false, .slice none 0 0] hst95 fun B21_100 W100 hst100=>?_
  refine sqst (n:=8) 7 #[vi n,vi ((fx.1:Int)),vi fx.2.1,vi fx.2.2.1,vi fx.2.2.2.1,vi fx.2.2.2.2.1, .bool fx.2.2.2.2.2.1, .slice fA fx.2.2.2.2.2.2.length fC] hst100 fun W101 hst101=>?_
  refine then_normal (wp_seq (sqr (sqp [.k 78 (.pointer (some ⟨B21_100,2,none⟩)), .k 79 (.pointer (some ⟨B21_100,6,none⟩))] ?_)))
  refine sqld 7 hst101 ?_
  refine sqp [.m 81 80] ?_
  refine sqw' 81 [82,83,84,85,86,87] ?_ rfl (fun hq=>?_) ?_
  rotate_left
  ·have hq_:=hq
   try simp only [zB] at hq_
   refine sqld 4 hst101 ?_
   refine sqp [.k 83 (vp B21_100), .k 84 (.pointer (some ⟨B21_100,1,none⟩))] ?_
   refine sqld 7 hst101 ?_
   refine sql (.bool (((prL (dP g hz) g n (pv n) (rtL (pv n) 24).length).1) (fx.1:Int))) hst101 (fun cx=>run_lookMb (k:=3) (e:=4) rfl (cx.ou 82) (cx.ou 85) (CtxV.mb cx (cx.init 3 _ rfl) rfl) (h0:=fun w=>by rfl) (hx:=by omega)) ?_
   refine sqp [.k 87 (.bool (!(((prL (dP g hz) g n (pv n) (rtL (pv n) 24).length).1) (fx.1:Int))))] ?_
   exact sqe
  refine sqwx ?_
  refine sqp [sPa 88 fx.2.2.2.2.2.1 (!(((prL (dP g hz) g n (pv n) (rtL (pv n) 24).length).1) (fx.1:Int))), .m 89 88] ?_
  refine sqwW 89 [90,91,92] ?_ hst101 rfl (fun hq=>?_) fun W117 hst117=>?_
  rotate_left
  ·refine sqp [.m 90 10] ?_
   refine sqlb 7 8 hst101 ?_
   refine sqv (.bool ((deadF g hz fx.2.1 fx.2.2.1))) hst101 (sv_call rfl rfl rfl rfl rfl (fun _ _ _ h=>h) fun ρ β W X cx=>⟨_, _,run_callV (f:=61) (args:=#[.agg #[vi n,vi ((fx.1:Int)),vi fx.2.1,vi fx.2.2.1,vi fx.2.2.2.1,vi fx.2.2.2.2.1, .bool fx.2.2.2.2.2.1, .slice fA fx.2.2.2.2.2.2.length fC]]) (args':=#[.agg #[vi n,vi ((fx.1:Int)),vi fx.2.1,vi fx.2.2.1,vi fx.2.2.2.1,vi fx.2.2.2.2.1, .bool fx.2.2.2.2.2.1, .slice fA fx.2.2.2.2.2.2.length fC],vp B6_1,vp B7_2]) rfl rfl (cx.ou 90) (by kernel_rfl) (map1 (cx.ou 91)) rfl,hpr1_any _ _ _ _ _ _ _ _ _ _ _ _ hz st_ sv_ g _ (cx.bi 0 rfl) (cx.bi 1 rfl) (hT.ext cx.upd.to_ext)⟩) fun W116 hst116=>?_
   exact sqE hst116
  refine sqwx ?_
  refine sqp [sPa 93 (fx.2.2.2.2.2.1&&(!(((prL (dP g hz) g n (pv n) (rtL (pv n) 24).length).1) (fx.1:Int)))) (deadF g hz fx.2.1 fx.2.2.1)] ?_
  refine then_normal (wbs (fun hs119=>?_) fun hs119=>?_)
  ·have hs119p:=hs119
   simp only [zB] at hs119p
   obtain ⟨⟨hs119p1,hs119p2⟩,hs119p3⟩:=hs119p
   refine sqr (sqp [.m 94 9, .k 95 (vp B21_100), .k 96 (.pointer (some ⟨B21_100,1,none⟩))] ?_)
   refine sqld 7 hst117 ?_
   refine sqc (eMg strC Tryz.prog 3 M22_4 (cn2+1) (putM (hotM (dP g hz) (prL (dP g hz) g n (pv n) (rtL (pv n) 24).length).1 (allF' (pv n)) (prL (dP g hz) g n (pv n) (rtL (pv n) 24).length).2 jj) (fx.1:Int) (some ((⟨#[]⟩:ByteArray))))) 2 hst117 (by
     refine svA fun ρ β W X cx=>?_
     exact dv_setMg (e:=9) (v:=((⟨#[]⟩:ByteArray))) (.inl rfl) (cx.ou 94) (cx.ou 97) (show ρ _= .string ⟨#[]⟩ from (cx.co _)) cx (cx.init 2 _ rfl) rfl (by omega) (by omega) rfl rfl rfl (fun σ β' X' hs hb hx=>hx)) fun W124 hst124=>?_
   refine blk_normal (then_normal (sqr (sqp [sI 98 ((jj:Int)+1) (by omega), .m 74 98] ?_)))
   refine then_normal ?_
   have hh_:=hot_yes (p:=(dP g hz)) (tk:=(prL (dP g hz) g n (pv n) (rtL (pv n) 24).length).1) (m:=(prL (dP g hz) g n (pv n) (rtL (pv n) 24).length).2) hfx (by rw [dP]; exact hs119)
   rw [← hh_] at hst124
   refine ⟨(allF' (pv n)).length - ((jj+1)),by omega,?_⟩
   exact ⟨(jj+1),(cn2+1),by omega,by omega,rfl,(by kernel_rfl),hst124.pk [0,1,2,3,4,5,6]⟩
  have hs119p:=hs119
  simp only [zB] at hs119p
  refine wp_skip (blk_normal (then_normal (sqr (sqp [sI 98 ((jj:Int)+1) (by omega), .m 74 98] ?_))))
  refine then_normal ?_
  have hh_:=hot_no (p:=(dP g hz)) (tk:=(prL (dP g hz) g n (pv n) (rtL (pv n) 24).length).1) (m:=(prL (dP g hz) g n (pv n) (rtL (pv n) 24).length).2) hfx (by rw [dP]; exact hs119)
  rw [← hh_] at hst117
  refine ⟨(allF' (pv n)).length - ((jj+1)),by omega,?_⟩
  exact ⟨(jj+1),cn2,by omega,by omega,rfl,(by kernel_rfl),hst117.pk [0,1,2,3,4,5,6]⟩
 refine wp_exit (then_exit (then_exit (blk_eq (then_normal (wp_seq ?_)))))
 have hje:jj=(allF' (pv n)).length:=by omega
 subst hje
 rw [show hotM (dP g hz) (prL (dP g hz) g n (pv n) (rtL (pv n) 24).length).1 (allF' (pv n)) (prL (dP g hz) g n (pv n) (rtL (pv n) 24).length).2 (allF' (pv n)).length=pruM (dP g hz) g n (pv n) from rfl] at hst95
 refine sqr (sqp [.m 99 0, .m 100 1, .m 101 9] ?_)
 refine sqk2 (fun A102_132 c102_132=> .slice A102_132 ((edL (pruM (dP g hz) g n (pv n)) (pv n) n 23).length) c102_132) (fun A102_132 c102_132=>eO 49 3 (.slice A102_132 ((edL (pruM (dP g hz) g n (pv n)) (pv n) n 23).length) c102_132) ((edL (pruM (dP g hz) g n (pv n)) (pv n) n 23).length) ((edL (pruM (dP g hz) g n (pv n)) (pv n) n 23).flatMap (cellsEd n))) hst95 (fun cx=>⟨_,(hchanges_any _ _ pv n _ _ _ _ (hS.ext cx.upd.to_ext) (hN.ext cx.upd.to_ext) (CtxV.mg cx (cx.init 2 _ rfl) rfl) (pru_good hwf (dP g hz) g n).desc).mono (by rintro e W1 ⟨A4,c4,rfl,ho_,hx⟩; exact ⟨_, _,rfl,St.one hx (eO_new (n:=(edL (pruM (dP g hz) g n (pv n)) (pv n) n 23).length) (xs:=(edL (pruM (dP g hz) g n (pv n)) (pv n) n 23).flatMap (cellsEd n)) ho_)⟩),(map3 (cx.ou 99) (cx.ou 100) (cx.ou 101))⟩) fun A102_132 c102_132 W132 hst132=>?_
 refine sqp [.m 8 102] ?_
 refine then_normal (wp_ret ?_)
 refine bpr (.slice A102_132 ((edL (pruM (dP g hz) g n (pv n)) (pv n) n 23).length) c102_132) (results_1 Tryz.results13 rpt) ?_
 have ho_:=hst132.own' 7 rfl
 exact ⟨_, _,rfl,ho_,hst132.ext⟩
end
section
open Go.RowKit
theorem hfreeH_any (tt:TypeId) (tv:Value) (pv:Int→PV) (n:Int) (SA:Option Addr) (sc:Nat) (ss:List Int) (w:World) (hS:PgsOk w tt tv pv) (hN:NoneAt w) (hA:At w SA (ss.map (Value.int .i64))) (hsl:ss.length≤1000) (hsb:∀ x∈ss, -9223372036854775808≤x∧x≤9223372036854775807):
  Calls Tryz.prog 26 #[.iface tt (tv), .int .i64 n, .slice SA ss.length sc] w (ChPost (edL (frM (pv n) n ss ss.length) (pv n) n 23) n w):=by
 have hwf:=hS.wf n
 go_enter Tryz.func26,Tryz.ntmps26
 have hst0:=St.start w
 refine wp_seq (sqr (sqp [.k 6 (.slice none 0 0)] ?_))
 refine then_normal (wp_seq (sqr ?_))
 refine sqn1 (fun x_=>pbg x_) (fun M13_2=> .map (some M13_2)) (fun M13_2=>eMg strC Tryz.prog 3 M13_2 0 (fun _=>none)) hst0 (by
   refine svA fun ρ β W X cx=>?_
   exact dv_makeMg rfl rfl rfl rfl (fun σ β' X' hs hb hv hx=>⟨hv,hx⟩)) fun M13_2 W2 hst2=>?_
 refine sqp [.m 7 13] ?_
 refine then_normal (wp_seq (wp_seq (sqr (sqp [.m 14 2, .k 15 (vi ((ss.length:Int))), .k 16 (vi 0)] ?_))))
 refine then_normal (wp_block ?_)
 refine wp_loopT (fun t_ mz az W=>∃ i:Nat,∃ cnt:Nat,i≤ss.length∧cnt≤25*i∧mz=ss.length - i∧az=⟨(ovr (jv az) [(9,9,2,[]),(1,12,1,[]),(3,16,0,[vi ((i:Int))]),(0,17,26,[])] t_).toArray,[]⟩∧St w [] [eMg strC Tryz.prog 3 M13_2 cnt (frM (pv n) n ss i)] W) (ss.length - 0) ?_ ?_
 · -- the loop begins
   exact ⟨0,0,Nat.zero_le _,Nat.zero_le _,rfl,(by kernel_rfl),hst2.pk [0]⟩
 rintro n7 a7 W7 ⟨i,cnt,hi,hcnt,rfl,hj_,hst7⟩
 refine ovz hj_ fun u7_=>?_
 refine wp_seq (sqr (sqp [.k 17 (.bool (decide ((i:Int) < (ss.length:Int))))] ?_))
 refine then_normal (wp_seq (wds (fun hs9 hs9p=>?_) fun hs9 hs9p=>?_))
 ·refine wp_skip (then_normal (wp_seq (wp_block (wp_seq (sqr ?_)))))
  refine sql (.pointer (some ((ad SA).add i))) hst7 (fun cx=>run_indexSl (e:=3) (m:=i) rfl (by kernel_rfl) (by kernel_rfl) (cx.ou 14) (cx.ou 16) (by omega) (by omega) (hA.ext cx.upd.to_ext) (by simp)) ?_
  refine sql (vi (ss.getD i 0)) hst7 (fun cx=>run_load1 rfl (by kernel_rfl) (cx.ou 18) (At.cellAd (hA.ext cx.upd.to_ext) (getD_int (by omega)))) ?_
  refine sqp [.m 9 19] ?_
  refine then_normal (wp_seq ?_)
  obtain ⟨s,hN_s⟩:∃ z,ss.getD i 0=z:=⟨_,rfl⟩
  rw [hN_s]
  have hsi:ss[i]? =some s:=by rw [← hN_s,List.getD_eq_getElem?_getD,List.getElem?_eq_getElem (by omega)]; rfl
  have hsb_:=hsb s (List.mem_of_getElem? hsi)
  refine sqr (sqp [.m 20 1, .m 21 9, .k 22 (.agg #[vi n,vi (s)])] ?_)
  refine sqal #[vi 0,vi 0] hst7 fun B10_16 W16 hst16=>?_
  refine sqst (n:=2) 1 #[vi n,vi (s)] hst16 fun W17 hst17=>?_
  refine then_normal (wp_seq (wp_seq (sqr (sqp [.m 23 0] ?_))))
  refine sqlb 1 2 hst17 ?_
  refine sqk2s (fun A25_20 c25_20=> .slice A25_20 ((chF (pv n) n s).length) c25_20) (fun A25_20 c25_20 r2_20=>eFk 43 (.slice A25_20 ((chF (pv n) n s).length) c25_20) (chF (pv n) n s) n r2_20) hst17 (fun cx=>⟨_,(hchainR_any _ _ pv n s _ (hS.ext cx.upd.to_ext) (hN.ext cx.upd.to_ext) (by omega)).mono (by rintro e W1 ⟨A4,c4,fp4,rfl,hc⟩; exact ⟨_, _, _,rfl,hc⟩),(map2 (cx.ou 23) (cx.ou 24))⟩) fun A25_20 c25_20 r2_20 W20 hst20=>?_
  refine sqp [.k 26 (vi (((chF (pv n) n s).length:Int))), .k 27 (vi 0)] ?_
  refine then_normal (wp_block ?_)
  have hcl_:=chF_len (pv n) n s
  obtain ⟨ks,hks,hmO23⟩:=St.openFk (L1:=[eMg strC Tryz.prog 3 M13_2 cnt (frM (pv n) n ss i),eB B10_16 24 #[vi n,vi (s)]]) (L2:=[]) hst20
  simp only [List.cons_append,List.nil_append] at hmO23
  have hksl:ks.length=(chF (pv n) n s).length:=by rw [← hks,List.length_map]
  refine wp_loopT (fun t_ mz az W=>∃ kk:Nat,∃ cn2:Nat,kk≤(chF (pv n) n s).length∧cn2≤cnt+kk∧mz=(chF (pv n) n s).length - kk∧az=⟨(ovr (jv az) [(12,12,1,[]),(14,27,0,[vi ((kk:Int))]),(0,28,8,[])] t_).toArray,[]⟩∧St w [] [eMg strC Tryz.prog 3 M13_2 cn2 (blkG (chF (pv n) n s) (frM (pv n) n ss i) kk),eB B10_16 24 #[vi n,vi (s)],eFo 43 (.slice A25_20 ((chF (pv n) n s).length) c25_20) (chF (pv n) n s).length n ks] W) ((chF (pv n) n s).length - 0) ?_ ?_
  · -- the loop begins
    exact ⟨0,cnt,Nat.zero_le _,by omega,rfl,(by kernel_rfl),hmO23.pk [0,1,2]⟩
  rintro n24 a24 W24 ⟨kk,cn2,hkk,hcn2,rfl,hj_,hst24⟩
  refine ovz hj_ fun u24_=>?_
  refine wp_seq (sqr (sqp [.k 28 (.bool (decide ((kk:Int) < ((chF (pv n) n s).length:Int))))] ?_))
  refine then_normal (wp_seq (wds (fun hs26 hs26p=>?_) fun hs26 hs26p=>?_))
  ·refine wp_skip (then_normal (wp_seq (wp_block (wp_seq ?_))))
   obtain ⟨fx,fA,fC,hkfj,hfx⟩:=ks_get (j:=kk) hks (by omega)
   have hfs:=slot_of hwf (chF_mem hwf _ (List.mem_of_getElem? hfx))
   refine sqr ?_
   refine sql (.pointer (some ((ad A25_20).add (kk*8)))) hst24 (fun cx=>run_indexSlM (e:=43) (m:=kk) (sz:=8) rfl (by kernel_rfl) (by kernel_rfl) (cx.ou 25) (cx.ou 27) (by omega) (by omega) (eFo_at (CtxV.holdE cx (cx.init 2 _ rfl) rfl)) (flatPos (sz:=8) (cellsF_len n) (by decide) (by omega))) ?_
   refine sql (.agg #[vi n,vi ((fx.1:Int)),vi fx.2.1,vi fx.2.2.1,vi fx.2.2.2.1,vi fx.2.2.2.2.1, .bool fx.2.2.2.2.2.1, .slice fA fx.2.2.2.2.2.2.length fC]) hst24 (fun cx=>run_loadElt (f:=(cellsF n)) (m:=kk) (sz:=8) (off:=0) (n:=8) rfl (by kernel_rfl) (by kernel_rfl) (cx.ou 29) rfl (cellsF_len n) (eFo_at (CtxV.holdE cx (cx.init 2 _ rfl) rfl)) hkfj (fun k hk=>match k,hk with | 0, _=>rfl | 1, _=>rfl | 2, _=>rfl | 3, _=>rfl | 4, _=>rfl | 5, _=>rfl | 6, _=>rfl | 7, _=>rfl | k+8,hk=>absurd hk (by omega))) ?_
   refine sqal #[vi 0,vi 0,vi 0,vi 0,vi 0,vi 0, .bool false, .slice none 0 0] hst24 fun B12_29 W29 hst29=>?_
   refine sqst (n:=8) 3 #[vi n,vi ((fx.1:Int)),vi fx.2.1,vi fx.2.2.1,vi fx.2.2.2.1,vi fx.2.2.2.2.1, .bool fx.2.2.2.2.2.1, .slice fA fx.2.2.2.2.2.2.length fC] hst29 fun W30 hst30=>?_
   refine then_normal (sqr (sqp [.m 31 7, .k 32 (vp B12_29), .k 33 (.pointer (some ⟨B12_29,1,none⟩))] ?_))
   refine sqld 3 hst30 ?_
   refine sqc (eMg strC Tryz.prog 3 M13_2 (cn2+1) (putM (blkG (chF (pv n) n s) (frM (pv n) n ss i) kk) (fx.1:Int) (some ((⟨#[]⟩:ByteArray))))) 0 hst30 (by
     refine svA fun ρ β W X cx=>?_
     exact dv_setMg (e:=9) (v:=((⟨#[]⟩:ByteArray))) (.inl rfl) (cx.ou 31) (cx.ou 34) (show ρ _= .string ⟨#[]⟩ from (cx.co _)) cx (cx.init 0 _ rfl) rfl (by omega) (by omega) rfl rfl rfl (fun σ β' X' hs hb hx=>hx)) fun W35 hst35=>?_
   refine blk_normal (then_normal (sqr (sqp [sI 35 ((kk:Int)+1) (by omega), .m 27 35] ?_)))
   refine then_normal ?_
   rw [← blkG_step hfx] at hst35
   refine ⟨(chF (pv n) n s).length - ((kk+1)),by omega,?_⟩
   exact ⟨(kk+1),(cn2+1),by omega,by omega,rfl,(by kernel_rfl),hst35.pk [0,1,2]⟩
  refine wp_exit (then_exit (then_exit (blk_eq (then_normal (wp_seq ?_)))))
  have hke:kk=(chF (pv n) n s).length:=by omega
  subst hke
  refine sqr (sqp [.m 36 0] ?_)
  refine sqlb 1 2 hst24 ?_
  refine sqk (vi ((rdF (pv n) s))) hst24 (fun cx=>⟨_,hredirect_any _ _ pv n s _ (hS.ext cx.upd.to_ext),(map2 (cx.ou 36) (cx.ou 37))⟩) fun W40 hst40=>?_
  refine sqp [.k 39 (.bool (decide (0≤(rdF (pv n) s))))] ?_
  refine then_normal (wds (fun hs42 hs42p=>?_) fun hs42 hs42p=>?_)
  ·refine sqr (sqp [.m 40 7, .m 41 9] ?_)
   refine sqc (eMg strC Tryz.prog 3 M13_2 (cn2+1) (putM (blkG (chF (pv n) n s) (frM (pv n) n ss i) (chF (pv n) n s).length) s (some ((⟨#[]⟩:ByteArray))))) 0 hst40 (by
     refine svA fun ρ β W X cx=>?_
     exact dv_setMg (e:=9) (v:=((⟨#[]⟩:ByteArray))) (.inl rfl) (cx.ou 40) (cx.ou 41) (show ρ _= .string ⟨#[]⟩ from (cx.co _)) cx (cx.init 0 _ rfl) rfl (by omega) (by omega) rfl rfl rfl (fun σ β' X' hs hb hx=>hx)) fun W45 hst45=>?_
   refine blk_normal (then_normal (sqr (sqp [sI 42 ((i:Int)+1) (by omega), .m 16 42] ?_)))
   refine then_normal ?_
   have hfs_:frM (pv n) n ss (i+1)=putM (blkG (chF (pv n) n s) (frM (pv n) n ss i) (chF (pv n) n s).length) s (some ((⟨#[]⟩:ByteArray))):=by rw [fr_step hsi,frS,if_pos (by omega)]
   rw [← hfs_] at hst45
   refine ⟨ss.length - ((i+1)),by omega,?_⟩
   exact ⟨(i+1),(cn2+1),by omega,by omega,rfl,(by kernel_rfl),hst45.pk [0]⟩
  refine wp_skip (blk_normal (then_normal (sqr (sqp [sI 42 ((i:Int)+1) (by omega), .m 16 42] ?_))))
  refine then_normal ?_
  have hfs_:frM (pv n) n ss (i+1)=blkG (chF (pv n) n s) (frM (pv n) n ss i) (chF (pv n) n s).length:=by rw [fr_step hsi,frS,if_neg (by omega)]
  rw [← hfs_] at hst40
  refine ⟨ss.length - ((i+1)),by omega,?_⟩
  exact ⟨(i+1),(cn2),by omega,by omega,rfl,(by kernel_rfl),hst40.pk [0]⟩
 refine wp_exit (then_exit (then_exit (blk_eq (then_normal (wp_seq ?_)))))
 have hie:i=ss.length:=by omega
 subst hie
 refine sqr (sqp [.m 43 0, .m 44 1, .m 45 7] ?_)
 refine sqk2 (fun A46_53 c46_53=> .slice A46_53 ((edL (frM (pv n) n ss ss.length) (pv n) n 23).length) c46_53) (fun A46_53 c46_53=>eO 49 3 (.slice A46_53 ((edL (frM (pv n) n ss ss.length) (pv n) n 23).length) c46_53) ((edL (frM (pv n) n ss ss.length) (pv n) n 23).length) ((edL (frM (pv n) n ss ss.length) (pv n) n 23).flatMap (cellsEd n))) hst7 (fun cx=>⟨_,(hchanges_any _ _ pv n _ _ _ _ (hS.ext cx.upd.to_ext) (hN.ext cx.upd.to_ext) (CtxV.mg cx (cx.init 0 _ rfl) rfl) (fr_good hwf n ss _ (Nat.le_refl _)).desc).mono (by rintro e W1 ⟨A4,c4,rfl,ho_,hx⟩; exact ⟨_, _,rfl,St.one hx (eO_new (n:=(edL (frM (pv n) n ss ss.length) (pv n) n 23).length) (xs:=(edL (frM (pv n) n ss ss.length) (pv n) n 23).flatMap (cellsEd n)) ho_)⟩),(map3 (cx.ou 43) (cx.ou 44) (cx.ou 45))⟩) fun A46_53 c46_53 W53 hst53=>?_
 refine sqp [.m 6 46] ?_
 refine then_normal (wp_ret ?_)
 refine bpr (.slice A46_53 ((edL (frM (pv n) n ss ss.length) (pv n) n 23).length) c46_53) (results_1 Tryz.results26 rpt) ?_
 have ho_:=hst53.own' 1 rfl
 exact ⟨_, _,rfl,ho_,hst53.ext⟩
end
section
open Go.RowKit
/-- a page without its place in memory -/
abbrev PgI:=Int×Int×List Itm
def pgi0:PgI:=(0,0,[])
def absP (p:PgD):PgI:=(p.k,p.l,p.its)
def fstI (its:List Itm):List ByteArray:=its.map Prod.fst
theorem fstI_len (its:List Itm):(fstI its).length=its.length:=List.length_map ..
def trimI (its:List Itm):List Itm:=its.take (trimN (fstI its) its.length)
def withI (its:List Itm) (K:Nat) (i:Itm):List Itm:=(trimI its++List.replicate (K+1 - (trimI its).length) it0).set K i
def putI (its:List Itm) (K:Nat) (i:Itm):List Itm:=trimI (withI its K i)
theorem trimI_fst (its:List Itm):fstI (trimI its)=plainL (fstI its):=by
 rw [trimI,plainL,fstI_len,fstI,fstI,List.map_take]
theorem withI_fst (its:List Itm) (K:Nat) (i:Itm):fstI (withI its K i)=withL (fstI its) K i.1:=by
 rw [withI,withL,padTo,fstI,List.map_set,List.map_append,List.map_replicate]
 have e:(trimI its).map Prod.fst=plainL (fstI its):=trimI_fst its
 rw [e,← e,List.length_map]
 rfl
theorem putI_fst (its:List Itm) (K:Nat) (i:Itm):fstI (putI its K i)=plainL (withL (fstI its) K i.1):=by rw [putI,trimI_fst,withI_fst]
theorem withI_mem {its:List Itm} {K:Nat} {i x:Itm} (h:x∈withI its K i):x=i∨x∈its∨x=it0:=by
 rcases List.mem_or_eq_of_mem_set h with h | h
 ·rcases List.mem_append.1 h with h1 | h1
  ·exact .inr (.inl (List.mem_of_mem_take h1))
  ·exact .inr (.inr (List.mem_replicate.1 h1).2)
 ·exact .inl h
theorem putI_desc {its:List Itm} {K:Nat} {i:Itm} (h:∀ x∈its,Desc x.1 x.2) (hi:Desc i.1 i.2):∀ x∈putI its K i,Desc x.1 x.2:=by
 intro x hx
 rcases withI_mem (List.mem_of_mem_take hx) with rfl | h1 | rfl
 ·exact hi
 ·exact h x h1
 ·show ByteArray.empty.size < 8; decide
/-- an edit with what its item says -/
abbrev EdI:=Int×Int×Itm
def ei0:EdI:=(0,0,it0)
def cellsI (e:EdI):List Value:=[.int .i64 e.1, .int .i64 e.2.1, .string e.2.2.1]
theorem cellsI_len (e:EdI):(cellsI e).length=3:=rfl
def okP (p:PgI):Prop:=rightB p.1 p.2.1 (fstI p.2.2)=true∧∀ i∈p.2.2,Desc i.1 i.2
def do1 (lsn:Int) (p:PgI) (e:EdI):Option PgI:=
 if e.2.1= -1 then (if e.2.2.1=(⟨#[1]⟩:ByteArray) then some (1,lsn,[]) else none)
 else if putErr p.1 p.2.1 (fstI p.2.2) e.2.1 e.2.2.1=0 then some (p.1,lsn,putI p.2.2 e.2.1.toNat e.2.2) else none
def doL (lsn:Int) (H:List PgI):List EdI→Option (List PgI)
 | []=>some H
 | e::es=>if 0≤e.1∧e.1 < H.length then (match do1 lsn (H.getD e.1.toNat pgi0) e with | some p=>doL lsn (H.set e.1.toNat p) es | none=>none) else none
def okH (H:List PgI):Prop:=∀ p∈H,okP p
theorem okH.get {H:List PgI} (h:okH H) {n:Nat} (hn:n < H.length):okP (H.getD n pgi0):=by
 rw [List.getD_eq_getElem?_getD,List.getElem?_eq_getElem hn]
 exact h _ (List.getElem_mem hn)
theorem okH.set {H:List PgI} (h:okH H) {n:Nat} {p:PgI} (hp:okP p):okH (H.set n p):=fun q hq=>by
 rcases List.mem_or_eq_of_mem_set hq with h1 | rfl
 ·exact h q h1
 ·exact hp
theorem right_lsn {k l m:Int} {ss:List ByteArray} (h:rightB k l ss=true) (hm:0≤m∧m≤2147483647):rightB k m ss=true:=by
 simp only [rightB,Bool.and_eq_true,decide_eq_true_eq] at h ⊢
 exact ⟨h.1,h.2.1,hm.1,hm.2,h.2.2.2.2⟩
theorem okP.its {p:PgI} (h:okP p):p.2.2.length≤24:=by
 have:=(right_parts h.1).2.2.1.1
 rwa [fstI_len] at this
theorem okP.put {p:PgI} (h:okP p) {lsn j:Int} {i:Itm} (hl:0≤lsn∧lsn≤2147483647) (hi:Desc i.1 i.2) (hp:putErr p.1 p.2.1 (fstI p.2.2) j i.1=0):okP (p.1,lsn,putI p.2.2 j.toNat i):=
 ⟨by show rightB p.1 lsn (fstI (putI p.2.2 j.toNat i))=true
     rw [putI_fst]; exact right_lsn (put_right h.1 hp) hl,putI_desc h.2 hi⟩
theorem right_kind {lsn:Int} (hl:0≤lsn∧lsn≤2147483647):rightB 1 lsn []=true:=by
 simp only [rightB,Bool.and_eq_true,decide_eq_true_eq]
 exact ⟨by decide,by decide,hl.1,hl.2,by decide,by decide,by decide⟩
theorem okP.do {p p':PgI} (h:okP p) {lsn:Int} {e:EdI} (hl:0≤lsn∧lsn≤2147483647) (hi:Desc e.2.2.1 e.2.2.2) (hd:do1 lsn p e=some p'):okP p':=by
 rw [do1] at hd
 split at hd
 ·split at hd
  ·obtain rfl:=(Option.some.inj hd)
   exact ⟨right_kind hl,fun i hi=>by cases hi⟩
  ·cases hd
 ·split at hd
  ·rename_i hp
   obtain rfl:=(Option.some.inj hd)
   exact h.put hl hi hp
  ·cases hd
theorem doL_cons {lsn:Int} {H H':List PgI} {e:EdI} {es:List EdI} (h:doL lsn H (e::es)=some H'):(0≤e.1∧e.1 < H.length)∧∃ p,do1 lsn (H.getD e.1.toNat pgi0) e=some p∧doL lsn (H.set e.1.toNat p) es=some H':=by
 rw [doL] at h
 split at h
 ·rename_i h1
  refine ⟨h1,?_⟩
  split at h
  ·rename_i p hp
   exact ⟨p,hp,h⟩
  ·cases h
 ·cases h
theorem doL_step {lsn:Int} {H H':List PgI} {es:List EdI} {j:Nat} (hj:j < es.length) (h:doL lsn H (es.drop j)=some H'):(0≤(es.getD j ei0).1∧(es.getD j ei0).1 < H.length)∧∃ p,do1 lsn (H.getD (es.getD j ei0).1.toNat pgi0) (es.getD j ei0)=some p∧doL lsn (H.set (es.getD j ei0).1.toNat p) (es.drop (j+1))=some H':=by
 rw [List.drop_eq_getElem_cons hj] at h
 have e:es.getD j ei0=es[j]:=by rw [List.getD_eq_getElem?_getD,List.getElem?_eq_getElem hj,Option.getD_some]
 rw [e]
 exact doL_cons h
theorem doL_one {lsn:Int} {H:List PgI} {e:EdI} {p:PgI} (h:0≤e.1∧e.1 < H.length) (hp:do1 lsn (H.getD e.1.toNat pgi0) e=some p):doL lsn H [e]=some (H.set e.1.toNat p):=by
 rw [doL,if_pos h,hp]; rfl
theorem doL_app {lsn:Int} {es fs:List EdI}:∀ {H H1:List PgI},doL lsn H es=some H1→doL lsn H (es++fs)=doL lsn H1 fs:=by
 induction es with
 | nil=>intro H H1 h; obtain rfl:=Option.some.inj h; rfl
 | cons e es ih=>
   intro H H1 h
   obtain ⟨h1,p,h2,h3⟩:=doL_cons h
   rw [List.cons_append,doL,if_pos h1,h2]
   exact ih h3
/-- the pages as the functions see them -/
def pvL (H:List PgI) (n:Int):PV:=if 0≤n∧n < H.length then ⟨(H.getD n.toNat pgi0).1,(H.getD n.toNat pgi0).2.1,(H.getD n.toNat pgi0).2.2,true⟩ else ⟨0,0,[],false⟩
theorem absP_get (Ps:List PgD) (n:Nat):(Ps.map absP).getD n pgi0=absP (Ps.getD n p0):=by
 rw [List.getD_eq_getElem?_getD,List.getD_eq_getElem?_getD,List.getElem?_map]
 cases Ps[n]? <;>rfl
theorem pvF_abs (Ps:List PgD):pvF Ps=pvL (Ps.map absP):=by
 funext n
 rw [pvF,pvL,List.length_map,absP_get]
 rfl
end
section
open Go.RowKit
theorem item_get (ss:List ByteArray) (i:Nat):itemF ss i=ss.getD i ByteArray.empty:=by
 rw [itemF,if_neg (by omega),Int.toNat_natCast]
theorem item_ge (ss:List ByteArray) (i:Nat) (h:ss.length≤i):(itemF ss i).toList.isEmpty=true:=by
 rw [item_get]; simp [List.getD,List.getElem?_eq_none h]
end
section
open Go.RowKit
theorem ba_inj_z {a b:ByteArray} (h:a.toList=b.toList):a=b:=by
 rw [ByteArray.toList_eq,ByteArray.toList_eq] at h
 cases a; cases b
 simp at h
 rw [h]
theorem toList_empty:ByteArray.empty.toList=[]:=by rw [ByteArray.toList_eq]; rfl
def emp (s:ByteArray):Bool:=s.toList.isEmpty
theorem emp_iff (s:ByteArray):emp s=true↔s=ByteArray.empty:=by
 unfold emp
 constructor
 ·intro h
  have h1:s.toList=[]:=by simpa using h
  exact ba_inj_z (by rw [h1,toList_empty])
 ·rintro rfl; rw [toList_empty]; rfl
theorem emp_size (s:ByteArray):emp s=true↔s.size=0:=by
 rw [emp_iff]
 constructor
 ·rintro rfl; rfl
 ·intro h
  apply ba_inj_z
  rw [ByteArray.toList_eq]
  have:s.data.toList.length=0:=by simpa using h
  rw [List.eq_nil_of_length_eq_zero this,toList_empty]
theorem frL_spec (ss:List ByteArray):∀ n i,(frL ss n i= -1∧∀ j,i≤j→j < i+n→emp (itemF ss j)=false)∨
  (∃ j:Nat,frL ss n i=j∧i≤j∧j < i+n∧emp (itemF ss j)=true∧∀ k,i≤k→k < j→emp (itemF ss k)=false)
 | 0,i=> .inl ⟨rfl,fun j h1 h2=>by omega⟩
 | n+1,i=>by
   rw [frL_succ]
   by_cases h1:ss.length≤i
   ·rw [if_pos h1]
    exact .inr ⟨i,rfl,Nat.le_refl _,by omega,item_ge ss i h1,fun k _ _=>by omega⟩
   ·rw [if_neg h1]
    have hi:emp (itemF ss i)=(ss.getD i ByteArray.empty).toList.isEmpty:=by rw [item_get,emp]
    cases h2:(ss.getD i ByteArray.empty).toList.isEmpty with
    | true=>exact .inr ⟨i,by simp,Nat.le_refl _,by omega,by rw [hi,h2],fun k _ _=>by omega⟩
    | false=>
      rw [if_neg (by simp)]
      rcases frL_spec ss n (i+1) with ⟨h3,h4⟩ | ⟨j,h3,h4,h5,h6,h7⟩
      ·refine .inl ⟨h3,fun j g1 g2=>?_⟩
       by_cases e:j=i
       ·subst e; rw [hi,h2]
       ·exact h4 j (by omega) (by omega)
      ·refine .inr ⟨j,h3,by omega,by omega,h6,fun k g1 g2=>?_⟩
       by_cases e:k=i
       ·subst e; rw [hi,h2]
       ·exact h7 k (by omega) g2
theorem trimN_emp (ss:List ByteArray):∀ n j,trimN ss n≤j→j < n→emp (itemF ss j)=true
 | 0,j, _,h=>by omega
 | n+1,j,h1,h2=>by
   rw [trimN_succ] at h1
   split at h1
   ·rename_i he
    by_cases e:j=n
    ·subst e; rw [item_get]; exact he
    ·exact trimN_emp ss n j h1 (by omega)
   ·omega
theorem sizeT_append (a b:List ByteArray):sizeT (a++b)=sizeT a+sizeT b:=by simp [sizeT]
theorem sizeT_set (l:List ByteArray) (i:Nat) (s:ByteArray) (h:i < l.length):sizeT (l.set i s)+l[i].size=sizeT l+s.size:=by
 induction l generalizing i with
 | nil=>simp at h
 | cons a l ih=>
   rcases i with _ | i
   ·simp [sizeT]; omega
   ·have:=ih i (by simpa using h)
    simp only [List.set_cons_succ,List.getElem_cons_succ]
    simp only [sizeT,List.map_cons,List.sum_cons] at this ⊢
    omega
theorem plain_get {ss:List ByteArray} {i:Nat} (h:i < (plainL ss).length):(plainL ss)[i]=itemF ss i:=by
 have hl:=plainL_len ss
 have ht:=trimN_le ss ss.length
 rw [item_get]
 simp [plainL,List.getD,show i < ss.length by omega]
end
section
open Go.RowKit
/-- an empty item says nothing -/
def clean (l:List Itm):Prop:=∀ x∈l,x.1.size=0→x=it0
theorem txD_size {v:VerD} (h:okD v):(txD v).size=8+(vbytesF v.2.2.2.2.2).size:=tb_size h.1
theorem Desc.clean {x:Itm} (h:Desc x.1 x.2) (h0:x.1.size=0):x=it0:=by
 obtain ⟨s,o⟩:=x
 cases o with
 | none=>
   have e:s=ByteArray.empty:=(emp_iff s).1 ((emp_size s).2 h0)
   rw [e]; rfl
 | some v=>
   have h1:s=txD v:=h.2
   have h2:=txD_size h.1
   have h3:s.size=0:=h0
   rw [h1] at h3
   omega
theorem okP.clean {p:PgI} (h:okP p):clean p.2.2:=fun x hx=>(h.2 x hx).clean
theorem getD_mem_or {T:Type} (l:List T) (d:T) (j:Nat):l.getD j d∈l∨l.getD j d=d:=by
 rw [List.getD_eq_getElem?_getD]
 cases h:l[j]? with
 | none=>exact .inr rfl
 | some x=>exact .inl (by rw [Option.getD_some]; exact List.mem_of_getElem? h)
theorem clean_getD {l:List Itm} (h:clean l) {j:Nat} (h0:(l.getD j it0).1.size=0):l.getD j it0=it0:=by
 rcases getD_mem_or l it0 j with h1 | h1
 ·exact h _ h1 h0
 ·exact h1
theorem getD_ge {T:Type} {l:List T} {d:T} {j:Nat} (h:l.length≤j):l.getD j d=d:=by
 rw [List.getD_eq_getElem?_getD,List.getElem?_eq_none h]; rfl
theorem fstI_getD (l:List Itm) (j:Nat):(fstI l).getD j ByteArray.empty=(l.getD j it0).1:=by
 rw [fstI,List.getD_eq_getElem?_getD,List.getD_eq_getElem?_getD,List.getElem?_map]
 cases l[j]? <;>rfl
theorem trimN_item {l:List Itm} {j:Nat} (h:trimN (fstI l) l.length≤j):(l.getD j it0).1.size=0:=by
 rcases Nat.lt_or_ge j l.length with g | g
 ·have:=trimN_emp (fstI l) l.length j h g
  rw [item_get,fstI_getD] at this
  exact (emp_size _).1 this
 ·rw [getD_ge g]; rfl
theorem trimI_get {l:List Itm} (h:clean l) (j:Nat):(trimI l).getD j it0=l.getD j it0:=by
 rcases Nat.lt_or_ge j (trimN (fstI l) l.length) with g | g
 ·rw [trimI,List.getD_eq_getElem?_getD,List.getElem?_take,if_pos g,List.getD_eq_getElem?_getD]
 ·rw [clean_getD h (trimN_item g)]
  exact getD_ge (by rw [trimI,List.length_take]; omega)
theorem withI_get (its:List Itm) (K:Nat) (i:Itm) (j:Nat):(withI its K i).getD j it0=if j=K then i else (trimI its).getD j it0:=by
 rw [withI,List.getD_eq_getElem?_getD,List.getElem?_set]
 split
 ·rename_i e
  subst e
  rw [if_pos rfl,if_pos (by simp only [List.length_append,List.length_replicate]; omega),Option.getD_some]
 ·rename_i e
  rw [if_neg (fun e'=>e e'.symm),List.getD_eq_getElem?_getD]
  rcases Nat.lt_or_ge j (trimI its).length with g | g
  ·rw [List.getElem?_append_left g]
  ·rw [List.getElem?_append_right g,List.getElem?_replicate,List.getElem?_eq_none g]
   split<;>rfl
theorem withI_clean {its:List Itm} {K:Nat} {i:Itm} (h:clean its) (hi:i.1.size=0→i=it0):clean (withI its K i):=fun x hx h0=>by
 rcases withI_mem hx with rfl | h1 | h1
 ·exact hi h0
 ·exact h x h1 h0
 ·exact h1
theorem putI_get {its:List Itm} {K:Nat} {i:Itm} (h:clean its) (hi:i.1.size=0→i=it0) (j:Nat):(putI its K i).getD j it0=if j=K then i else its.getD j it0:=by
 rw [putI,trimI_get (withI_clean h hi),withI_get]
 split
 ·rfl
 ·exact trimI_get h j
theorem hdF_eq (v:PV):hdF v=(v.ok&&(v.k==1&&((v.its.getD 0 it0).1.size==2))):=by
 rw [hdF]
 cases hv:v.its with
 | nil=>
   have e:(([]:List Itm).getD 0 it0).1.size=0:=rfl
   rw [e]
   cases v.ok<;>by_cases hk:v.k=1<;>simp [hk]
 | cons a l=>
   have e:((a::l).getD 0 it0)=a:=rfl
   rw [e]
   have h3:(((a::l).length:Int)==0)=false:=by
    rw [List.length_cons]
    exact beq_false_of_ne (by omega)
   have h4:((a.1.size:Int) != 2)=!(a.1.size==2):=by
    by_cases h:a.1.size=2
    ·rw [h]; rfl
    ·rw [beq_false_of_ne h,bne,beq_false_of_ne (by omega)]
   rw [h3,h4,bne]
   cases v.ok<;>cases (v.k==1)<;>cases (a.1.size==2)<;>rfl
theorem ofF_eq (v:PV):ofF v=if hdF v then (numS (v.its.getD 0 it0).1 0 2:Int) else 0:=rfl
theorem atF_eq (v:PV) (j:Int):atF v j=if hdF v=true∧1≤j then (v.its.getD j.toNat it0).2 else none:=by
 rw [atF]
 have h:=tbF_hd v
 by_cases h1:hdF v=true
 ·have h2:=h.2 h1
  by_cases h3:1≤j
  ·rw [if_pos (show hdF v=true∧1≤j from ⟨h1,h3⟩)]
   by_cases h4:j < v.its.length
   ·rw [if_pos ⟨h2,h3,h4⟩]
   ·rw [if_neg (fun h5=>h4 h5.2.2),getD_ge (by omega)]; rfl
  ·rw [if_neg (fun h5=>h3 h5.2.1),if_neg (fun h5=>h3 h5.2)]
 ·rw [if_neg (fun h5=>h1 (h.1 h5.1)),if_neg (fun h5=>h1 h5.1)]
theorem pvL_in {H:List PgI} {n:Int} (h:0≤n∧n < H.length):pvL H n=⟨(H.getD n.toNat pgi0).1,(H.getD n.toNat pgi0).2.1,(H.getD n.toNat pgi0).2.2,true⟩:=by rw [pvL,if_pos h]
theorem pvL_ok {H:List PgI} {n:Int} (h:(pvL H n).ok=true):0≤n∧n < H.length:=by
 rw [pvL] at h
 split at h
 ·assumption
 ·cases h
theorem pvL_ne {H:List PgI} {n m:Int} {p:PgI} (h:0≤n) (hm:m≠n):pvL (H.set n.toNat p) m=pvL H m:=by
 rw [pvL,pvL,List.length_set]
 split
 ·rename_i h1
  have e:(H.set n.toNat p).getD m.toNat pgi0=H.getD m.toNat pgi0:=by
   rw [List.getD_eq_getElem?_getD,List.getD_eq_getElem?_getD,List.getElem?_set,if_neg (by omega)]
  rw [e]
 ·rfl
theorem getD_set' {H:List PgI} {n:Int} {p:PgI} (h:0≤n∧n < H.length):(H.set n.toNat p).getD n.toNat pgi0=p:=by
 rw [List.getD_eq_getElem?_getD,List.getElem?_set,if_pos rfl,if_pos (by omega),Option.getD_some]
theorem pvL_at {H:List PgI} {n:Int} {p:PgI} (h:0≤n∧n < H.length):pvL (H.set n.toNat p) n=⟨p.1,p.2.1,p.2.2,true⟩:=by
 rw [pvL_in (by rw [List.length_set]; exact h),getD_set' h]
/-- one item put: what is seen behind it -/
theorem put_core {H:List PgI} {lsn n j:Int} {i:Itm} (hH:okH H) (hl:0≤lsn∧lsn≤2147483647) (hn:0≤n∧n < H.length) (hj:1≤j) (hi:Desc i.1 i.2) (hp:putErr (H.getD n.toNat pgi0).1 (H.getD n.toNat pgi0).2.1 (fstI (H.getD n.toNat pgi0).2.2) j i.1=0):
  ∃ H',doL lsn H [(n,j,i)]=some H'∧okH H'∧H'.length=H.length∧(∀ m,hdF (pvL H' m)=hdF (pvL H m)∧ofF (pvL H' m)=ofF (pvL H m))∧(hdF (pvL H n)=true→atF (pvL H' n) j=i.2)∧∀ m k,m≠n∨k≠j→atF (pvL H' m) k=atF (pvL H m) k:=by
 obtain ⟨p,hpe⟩:∃ p,H.getD n.toNat pgi0=p:=⟨_,rfl⟩
 rw [hpe] at hp
 have hpo:okP p:=by rw [← hpe]; exact hH.get (by omega)
 have hd1:do1 lsn (H.getD n.toNat pgi0) (n,j,i)=some (p.1,lsn,putI p.2.2 j.toNat i):=by rw [hpe,do1,if_neg (show ¬ j= -1 by omega),if_pos hp]
 have hg:=putI_get (K:=j.toNat) (i:=i) hpo.clean hi.clean
 have hpv:pvL H n=⟨p.1,p.2.1,p.2.2,true⟩:=by rw [pvL_in hn,hpe]
 have hpv2:=pvL_at (p:=(p.1,lsn,putI p.2.2 j.toNat i)) hn
 have h0:(putI p.2.2 j.toNat i).getD 0 it0=p.2.2.getD 0 it0:=by rw [hg,if_neg (by omega)]
 have hh:hdF (pvL (H.set n.toNat (p.1,lsn,putI p.2.2 j.toNat i)) n)=hdF (pvL H n):=by rw [hpv,hpv2,hdF_eq,hdF_eq]; dsimp only; rw [h0]
 refine ⟨_,doL_one (e:=(n,j,i)) hn hd1,hH.set (hpo.put hl hi hp),List.length_set ..,fun m=>?_,fun hhd=>?_,fun m k hmk=>?_⟩
 ·by_cases e:m=n
  ·subst e
   refine ⟨hh,?_⟩
   rw [ofF_eq,ofF_eq,hh,hpv,hpv2]
   dsimp only
   rw [h0]
  ·dsimp only
   rw [pvL_ne hn.1 e]; exact ⟨rfl,rfl⟩
 ·dsimp only
  rw [atF_eq,hh,if_pos ⟨hhd,hj⟩,hpv2]
  dsimp only
  rw [hg,if_pos rfl]
 ·dsimp only
  by_cases e:m=n
  ·subst e
   rw [atF_eq,atF_eq,hh,hpv,hpv2]
   dsimp only
   by_cases h1:1≤k
   ·have h2:k.toNat≠j.toNat:=by
     rcases hmk with h3 | h3
     ·exact absurd rfl h3
     ·omega
    rw [hg,if_neg h2]
   ·rw [if_neg (fun h2=>h1 h2.2),if_neg (fun h2=>h1 h2.2)]
  ·rw [pvL_ne hn.1 e]
theorem roomI_pos {v:PV} {s:ByteArray} (h:0 < roomI v s):v.ok=true∧putErr v.k v.l (fstI v.its) (roomI v s) s=0∧roomI v s < 24∧(v.its.getD (roomI v s).toNat it0).1.size=0:=by
 rw [roomI] at h ⊢
 split at h
 ·rename_i h1
  rw [if_pos h1]
  split at h
  ·rename_i h2
   rw [if_pos h2]
   refine ⟨h1,h2,?_⟩
   obtain ⟨f,hf⟩:∃ f,freeF v.k v.l (v.its.map Prod.fst) 1=f:=⟨_,rfl⟩
   rw [hf] at h ⊢
   rw [freeF] at hf
   split at hf
   ·rw [show (max (1:Int) 0).toNat=1 from rfl] at hf
    rcases frL_spec (v.its.map Prod.fst) (24 - 1) 1 with ⟨h3, _⟩ | ⟨j,h3,h4,h5,h6, _⟩
    ·rw [h3] at hf; omega
    ·rw [h3] at hf
     subst hf
     refine ⟨by omega,?_⟩
     rw [item_get] at h6
     have:=(emp_size _).1 h6
     rw [show (v.its.map Prod.fst)=fstI v.its from rfl,fstI_getD] at this
     exact this
   ·omega
  ·omega
 ·omega
theorem put_new {H:List PgI} {lsn n:Int} {v:VerD} (hH:okH H) (hl:0≤lsn∧lsn≤2147483647) (hv:okD v) (hq:0 < roomI (pvL H n) (txD v)) (hh:hdF (pvL H n)=true):
  ∃ H',doL lsn H [(n,roomI (pvL H n) (txD v),(txD v,some v))]=some H'∧okH H'∧H'.length=H.length∧(∀ m,hdF (pvL H' m)=hdF (pvL H m)∧ofF (pvL H' m)=ofF (pvL H m))∧atF (pvL H' n) (roomI (pvL H n) (txD v))=some v∧
    atF (pvL H n) (roomI (pvL H n) (txD v))=none∧∀ m k,m≠n∨k≠roomI (pvL H n) (txD v)→atF (pvL H' m) k=atF (pvL H m) k:=by
 obtain ⟨h1,h2,h3,h4⟩:=roomI_pos hq
 have hn:=pvL_ok h1
 have hpv:=pvL_in hn
 obtain ⟨H',g1,g2,g3,g4,g5,g6⟩:=put_core (i:=(txD v,some v)) hH hl hn (show 1≤roomI (pvL H n) (txD v) by omega) ⟨hv,rfl⟩ (by
  have:putErr (pvL H n).k (pvL H n).l (fstI (pvL H n).its) (roomI (pvL H n) (txD v)) (txD v)=0:=h2
  generalize roomI (pvL H n) (txD v)=q at this ⊢
  rw [hpv] at this
  exact this)
 refine ⟨H',g1,g2,g3,g4,g5 hh,?_,g6⟩
 rw [atF_eq,if_pos ⟨hh,by omega⟩]
 have hc:clean (pvL H n).its:=by rw [hpv]; exact (hH.get (by omega)).clean
 rw [clean_getD hc h4]
 rfl
theorem sizeT_take (l:List ByteArray) (k:Nat):sizeT (l.take k)≤sizeT l:=by
 have:=sizeT_append (l.take k) (l.drop k)
 rw [List.take_append_drop] at this
 omega
theorem sizeT_plain (l:List ByteArray):sizeT (plainL l)≤sizeT l:=sizeT_take _ _
theorem putErr_old {k l j:Int} {ss:List ByteArray} {s:ByteArray} (hr:rightB k l ss=true) (hj:0≤j) (h0:0 < (ss.getD j.toNat ByteArray.empty).size) (hs:s.size=(ss.getD j.toNat ByteArray.empty).size):putErr k l ss j s=0:=by
 obtain ⟨_, _,⟨h24,hsz⟩,h512⟩:=right_parts hr
 have hjl:j.toNat < ss.length:=by
  rcases Nat.lt_or_ge j.toNat ss.length with g | g
  ·exact g
  ·rw [getD_ge g] at h0; exact absurd h0 (by decide)
 have hg:ss.getD j.toNat ByteArray.empty=ss[j.toNat]:=by rw [List.getD_eq_getElem?_getD,List.getElem?_eq_getElem hjl,Option.getD_some]
 have h400:=hsz _ (List.getElem_mem hjl)
 rw [hg] at h0 hs
 have hpl:j.toNat < (plainL ss).length:=by
  rcases Nat.lt_or_ge j.toNat (trimN ss ss.length) with g | g
  ·rw [plainL,List.length_take]; omega
  ·have:=(emp_size _).1 (trimN_emp ss ss.length j.toNat g hjl)
   rw [item_get,hg] at this
   omega
 have ew:withL ss j.toNat s=(plainL ss).set j.toNat s:=by
  rw [withL,padTo,show j.toNat+1 - (plainL ss).length=0 by omega]
  simp
 have h1:=sizeT_set (plainL ss) j.toNat s hpl
 have h2:(plainL ss)[j.toNat]=ss[j.toNat]:=by rw [plain_get hpl,item_get,hg]
 rw [h2] at h1
 have h3:=sizeT_plain (withL ss j.toNat s)
 rw [putErr,hr,if_neg (by decide),if_neg (by omega),if_neg ?_]
 rw [sizeL] at h512 ⊢
 rw [ew] at h3 ⊢
 omega
theorem put_old {H:List PgI} {lsn n j:Int} {v v':VerD} (hH:okH H) (hl:0≤lsn∧lsn≤2147483647) (ha:atF (pvL H n) j=some v) (hv:okD v') (hsz:v'.2.2.2.2.2=v.2.2.2.2.2):
  ∃ H',doL lsn H [(n,j,(txD v',some v'))]=some H'∧okH H'∧H'.length=H.length∧(∀ m,hdF (pvL H' m)=hdF (pvL H m)∧ofF (pvL H' m)=ofF (pvL H m))∧atF (pvL H' n) j=some v'∧∀ m k,m≠n∨k≠j→atF (pvL H' m) k=atF (pvL H m) k:=by
 rw [atF_eq] at ha
 split at ha
 ·rename_i h1
  have hok:(pvL H n).ok=true:=by
   have:=h1.1
   rw [hdF_eq,Bool.and_eq_true] at this
   exact this.1
  have hn:=pvL_ok hok
  have hpv:=pvL_in hn
  have hpo:=hH.get (n:=n.toNat) (by omega)
  have ha2:((H.getD n.toNat pgi0).2.2.getD j.toNat it0).2=some v:=by rw [hpv] at ha; exact ha
  have hD:Desc ((H.getD n.toNat pgi0).2.2.getD j.toNat it0).1 ((H.getD n.toNat pgi0).2.2.getD j.toNat it0).2:=by
   rcases getD_mem_or (H.getD n.toNat pgi0).2.2 it0 j.toNat with h2 | h2
   ·exact hpo.2 _ h2
   ·rw [h2] at ha2; cases ha2
  rw [ha2] at hD
  have hs1:=txD_size hD.1
  have hs2:=txD_size hv
  rw [hsz] at hs2
  obtain ⟨H',g1,g2,g3,g4,g5,g6⟩:=put_core (i:=(txD v',some v')) hH hl hn h1.2 ⟨hv,rfl⟩ (putErr_old hpo.1 (by omega) (by rw [fstI_getD,hD.2]; omega) (by rw [fstI_getD,hD.2]; show (txD v').size= _; omega))
  exact ⟨H',g1,g2,g3,g4,g5 h1.1,g6⟩
 ·cases ha
end
section
open Go.RowKit
theorem sizeT_rep (m:Nat):sizeT (List.replicate m ByteArray.empty)=2*m:=by
 induction m with
 | zero=>rfl
 | succ m ih=>
   rw [List.replicate_succ]
   have e:sizeT (ByteArray.empty::List.replicate m ByteArray.empty)=2+0+sizeT (List.replicate m ByteArray.empty):=by simp [sizeT]
   rw [e,ih]; omega
theorem sizeT_with (ss:List ByteArray) (K:Nat) (s:ByteArray):sizeT (withL ss K s)≤sizeT (plainL ss)+2*(K+1)+s.size:=by
 rw [withL]
 have hl:K < (padTo (plainL ss) (K+1)).length:=by rw [padTo,List.length_append,List.length_replicate]; omega
 have h1:=sizeT_set (padTo (plainL ss) (K+1)) K s hl
 have h2:sizeT (padTo (plainL ss) (K+1))=sizeT (plainL ss)+2*(K+1 - (plainL ss).length):=by rw [padTo,sizeT_append,sizeT_rep]
 omega
theorem putErr_small {k l j:Int} {ss:List ByteArray} {s:ByteArray} (hr:rightB k l ss=true) (hj:0≤j∧j < 24) (hs:s.size≤400) (hz:sizeT (plainL ss)+2*(j.toNat+1)+s.size≤498):putErr k l ss j s=0:=by
 have h1:=sizeT_with ss j.toNat s
 have h2:=sizeT_plain (withL ss j.toNat s)
 rw [putErr,hr,if_neg (by decide),if_neg (by omega),if_neg ?_]
 rw [sizeL]
 omega
theorem putS2_size (n:Int):(putS n 2).size=2:=putS_size n 2 (by omega)
theorem put_fresh {H:List PgI} {lsn f tb:Int} {v:VerD} (hH:okH H) (hl:0≤lsn∧lsn≤2147483647) (hf:0≤f∧f < H.length) (hv:okD v) (htb:0≤tb∧tb < 65536):
  ∃ H',doL lsn H [(f, -1,((⟨#[1]⟩:ByteArray),none)),(f,0,(putS tb 2,none)),(f,1,(txD v,some v))]=some H'∧okH H'∧H'.length=H.length∧hdF (pvL H' f)=true∧ofF (pvL H' f)=tb∧atF (pvL H' f) 1=some v∧
    (∀ m,m≠f→pvL H' m=pvL H m)∧∀ k,k≠1→atF (pvL H' f) k=none:=by
 have hr1:=right_kind hl
 have hs2:=putS2_size tb
 have hsv:(txD v).size≤309:=(show Desc (txD v) (some v) from ⟨hv,rfl⟩).le
 have hd1:Desc (putS tb 2) none:=by show (putS tb 2).size < 8; omega
 have hp1:okP (1,lsn,[]):=⟨hr1,fun i hi=>by cases hi⟩
 have hz0:sizeT (plainL (fstI []))=0:=rfl
 have he1:putErr 1 lsn (fstI []) 0 (putS tb 2)=0:=putErr_small hr1 (by omega) (by omega) (by rw [hz0,hs2]; decide)
 have hp2:okP (1,lsn,putI [] 0 (putS tb 2,none)):=hp1.put (j:=0) (i:=(putS tb 2,none)) hl hd1 he1
 have hz2:sizeT (plainL (fstI (putI [] 0 (putS tb 2,none))))≤4:=by
  have h1:=sizeT_plain (fstI (putI [] 0 (putS tb 2,none)))
  have h2:sizeT (fstI (putI [] 0 (putS tb 2,none)))≤sizeT (withL (fstI []) 0 (putS tb 2)):=by rw [putI_fst]; exact sizeT_plain _
  have h3:=sizeT_with (fstI []) 0 (putS tb 2)
  omega
 have he2:putErr 1 lsn (fstI (putI [] 0 (putS tb 2,none))) 1 (txD v)=0:=putErr_small hp2.1 (by omega) (by omega) (by show sizeT (plainL (fstI (putI [] 0 (putS tb 2,none))))+2*(1+1)+(txD v).size≤498; omega)
 have hp3:okP (1,lsn,putI (putI [] 0 (putS tb 2,none)) 1 (txD v,some v)):=hp2.put (j:=1) (i:=(txD v,some v)) hl ⟨hv,rfl⟩ he2
 have hc1:clean ([]:List Itm):=fun x hx=>by cases hx
 have hci:(putS tb 2,(none:Option VerD)).1.size=0→(putS tb 2,(none:Option VerD))=it0:=fun h=>by rw [hs2] at h; cases h
 have hg1:=fun j=>putI_get (K:=0) (i:=(putS tb 2,(none:Option VerD))) hc1 hci j
 have hg2:=fun j=>putI_get (K:=1) (i:=(txD v,some v)) hp2.clean (Desc.clean (x:=(txD v,some v)) ⟨hv,rfl⟩) j
 have h00:(putI (putI [] 0 (putS tb 2,none)) 1 (txD v,some v)).getD 0 it0=(putS tb 2,none):=by rw [hg2,if_neg (by decide),hg1,if_pos rfl]
 have hl1:(H.set f.toNat (1,lsn,[])).length=H.length:=List.length_set ..
 have hl2:((H.set f.toNat (1,lsn,[])).set f.toNat (1,lsn,putI [] 0 (putS tb 2,none))).length=H.length:=by rw [List.length_set,hl1]
 have s1:doL lsn H [(f, -1,((⟨#[1]⟩:ByteArray),none))]=some (H.set f.toNat (1,lsn,[])):=doL_one (e:=(f, -1,((⟨#[1]⟩:ByteArray),none))) hf (by rw [do1,if_pos rfl,if_pos rfl])
 have s2:doL lsn (H.set f.toNat (1,lsn,[])) [(f,0,(putS tb 2,none))]=some ((H.set f.toNat (1,lsn,[])).set f.toNat (1,lsn,putI [] 0 (putS tb 2,none))):=
  doL_one (e:=(f,0,(putS tb 2,none))) (by rw [hl1]; exact hf) (by rw [getD_set' hf,do1,if_neg (show ¬ (0:Int)= -1 by decide),if_pos he1]; rfl)
 have s3:doL lsn ((H.set f.toNat (1,lsn,[])).set f.toNat (1,lsn,putI [] 0 (putS tb 2,none))) [(f,1,(txD v,some v))]=some (((H.set f.toNat (1,lsn,[])).set f.toNat (1,lsn,putI [] 0 (putS tb 2,none))).set f.toNat (1,lsn,putI (putI [] 0 (putS tb 2,none)) 1 (txD v,some v))):=
  doL_one (e:=(f,1,(txD v,some v))) (by rw [hl2]; exact hf) (by rw [getD_set' (by rw [hl1]; exact hf),do1,if_neg (show ¬ (1:Int)= -1 by decide),if_pos he2]; rfl)
 have hpv:=pvL_at (H:=(H.set f.toNat (1,lsn,[])).set f.toNat (1,lsn,putI [] 0 (putS tb 2,none))) (n:=f) (p:=(1,lsn,putI (putI [] 0 (putS tb 2,none)) 1 (txD v,some v))) (by rw [hl2]; exact hf)
 obtain ⟨H',hH'⟩:∃ z,((H.set f.toNat (1,lsn,[])).set f.toNat (1,lsn,putI [] 0 (putS tb 2,none))).set f.toNat (1,lsn,putI (putI [] 0 (putS tb 2,none)) 1 (txD v,some v))=z:=⟨_,rfl⟩
 rw [hH'] at hpv s3
 have hh:hdF (pvL H' f)=true:=by rw [hpv,hdF_eq]; dsimp only; rw [h00]; dsimp only; rw [hs2]; rfl
 refine ⟨H',?_,?_,?_,hh,?_,?_,fun m hm=>?_,fun k hk=>?_⟩
 ·have:=doL_app (fs:=[(f,0,(putS tb 2,none)),(f,1,(txD v,some v))]) s1
  rw [show ([(f, -1,((⟨#[1]⟩:ByteArray),none)),(f,0,(putS tb 2,none)),(f,1,(txD v,some v))]:List EdI)=[(f, -1,((⟨#[1]⟩:ByteArray),none))]++[(f,0,(putS tb 2,none)),(f,1,(txD v,some v))] from rfl,this]
  have h2:=doL_app (fs:=[(f,1,(txD v,some v))]) s2
  rw [show ([(f,0,(putS tb 2,none)),(f,1,(txD v,some v))]:List EdI)=[(f,0,(putS tb 2,none))]++[(f,1,(txD v,some v))] from rfl,h2,s3]
 ·rw [← hH']; exact ((hH.set hp1).set hp2).set hp3
 ·rw [← hH',List.length_set,hl2]
 ·rw [ofF_eq,if_pos hh,hpv]
  dsimp only
  rw [h00]
  dsimp only
  rw [numS_at (a:=[]) (b:=bl (putS tb 2)) (c:=[]) (p:=0) (k:=2) (by simp) rfl (putS_bl _ 2 (by omega))]
  exact putS_num2 tb htb.1 htb.2
 ·rw [atF_eq,if_pos ⟨hh,by decide⟩,hpv]
  dsimp only
  rw [show (1:Int).toNat=1 from rfl,hg2,if_pos rfl]
 ·rw [← hH',pvL_ne hf.1 hm,pvL_ne hf.1 hm,pvL_ne hf.1 hm]
 ·rw [atF_eq,hpv]
  dsimp only
  split
  ·rename_i h1
   rw [hg2,if_neg (by omega),hg1]
   split
   ·rfl
   ·rfl
  ·rfl
/-- an edit's cells -/
def edD (e:EdI):EdD:=(e.1,e.2.1,e.2.2.1)
theorem edD_cells (es:List EdI):(es.map edD).flatMap cellsE=es.flatMap cellsI:=by rw [List.flatMap_map]; rfl
theorem okD_new {xid:Int} (hot:Bool) {rs:List Val} (hx:3≤xid∧xid < 128) (h1:rrightF rs=true) (h2:NsOk rs) (h3:plainR rs=rs):okD (xid,0, -1,0,hot,rs):=by
 refine ⟨?_,h2,h3⟩
 show trightF xid 0 (-1) 0 rs=true
 have e:trightF xid 0 (-1) 0 rs=((xid==2||onF xid)&&true&&true&&rrightF rs):=rfl
 have e2:onF xid=true:=by rw [onF,decide_eq_true hx.1,decide_eq_true hx.2]; rfl
 rw [e,h1,e2,Bool.or_true]
 rfl
theorem okD_old {v:VerD} {xid a b:Int} (h:okD v) (hx:3≤xid∧xid < 128) (hab:(a= -1∧b=0)∨(0≤a∧a < 400∧0≤b∧b < 24)):okD (v.1,xid,a,b,v.2.2.2.2.1,v.2.2.2.2.2):=by
 obtain ⟨h1,h2,h3⟩:=h
 refine ⟨?_,h2,h3⟩
 show trightF v.1 xid a b v.2.2.2.2.2=true
 simp only [trightF,onZ,onF,tnextF,Bool.and_eq_true,Bool.or_eq_true,beq_iff_eq,decide_eq_true_eq] at h1 ⊢
 refine ⟨⟨⟨h1.1.1.1, .inr hx⟩,?_⟩,h1.2⟩
 omega
theorem newB_tx (xid:Int) (hot:Bool) (rs:List Val):newB xid hot rs=txD (xid,0, -1,0,hot,rs):=rfl
theorem ne_emp {v:VerD} (h:okD v):((txD v).toList==(⟨#[]⟩:ByteArray).toList)=false:=by
 have h1:=txD_size h
 rw [beq_eq_false_iff_ne]
 intro h2
 have h3:=ba_inj_z h2
 rw [h3] at h1
 have h4:(⟨#[]⟩:ByteArray).size=0:=rfl
 omega
theorem insP_some {pv:Int→PV} {tb:Int} {s:ByteArray}:∀ {ns:List Int} {q:Int×Int},insP pv tb s ns=some q→hdF (pv q.1)=true∧ofF (pv q.1)=tb∧0 < roomI (pv q.1) s∧q.2=roomI (pv q.1) s∧q.1∈ns
 | [],q,h=>by cases h
 | n::l,q,h=>by
   rw [insP] at h
   split at h
   ·rename_i h1
    simp only [Bool.and_eq_true,beq_iff_eq,decide_eq_true_eq] at h1
    obtain rfl:=Option.some.inj h
    exact ⟨h1.1.1,h1.1.2,h1.2,rfl,by simp⟩
   ·obtain ⟨h1,h2,h3,h4,h5⟩:=insP_some h
    exact ⟨h1,h2,h3,h4,by simp [h5]⟩
theorem insBad_no {v:VerD} {fresh tb:Int} (hv:okD v) (htb:0≤tb∧tb < 65536) (hf:fresh < 400):insBad (txD v) fresh tb=false:=by
 rw [insBad,ne_emp hv]
 simp only [Bool.false_or,Bool.or_eq_false_iff,decide_eq_false_iff_not]
 omega
/-- what Insert's edits do -/
theorem ins_law {H:List PgI} {lsn fresh tb:Int} {ns:List Int} {v:VerD} (hH:okH H) (hl:0≤lsn∧lsn≤2147483647) (hv:okD v) (htb:0≤tb∧tb < 65536) (hf:fresh < 400∧fresh < H.length):
  ((insA (pvL H) fresh tb ns (txD v)).2.2=23∧(insA (pvL H) fresh tb ns (txD v)).2.1=[]∧fresh < 0)∨((insA (pvL H) fresh tb ns (txD v)).2.2=0∧∃ es H',es.map edD=(insA (pvL H) fresh tb ns (txD v)).2.1∧(∀ e∈es,Desc e.2.2.1 e.2.2.2)∧doL lsn H es=some H'∧okH H'∧H'.length=H.length∧
    atF (pvL H' (insA (pvL H) fresh tb ns (txD v)).1.1) (insA (pvL H) fresh tb ns (txD v)).1.2=some v∧(0≤(insA (pvL H) fresh tb ns (txD v)).1.1∧(insA (pvL H) fresh tb ns (txD v)).1.1 < H.length)∧(1≤(insA (pvL H) fresh tb ns (txD v)).1.2∧(insA (pvL H) fresh tb ns (txD v)).1.2 < 24)∧
    (∀ m k,m≠fresh→m≠(insA (pvL H) fresh tb ns (txD v)).1.1∨k≠(insA (pvL H) fresh tb ns (txD v)).1.2→atF (pvL H' m) k=atF (pvL H m) k)∧((insA (pvL H) fresh tb ns (txD v)).1.1≠fresh→atF (pvL H (insA (pvL H) fresh tb ns (txD v)).1.1) (insA (pvL H) fresh tb ns (txD v)).1.2=none)):=by
 have hR:insA (pvL H) fresh tb ns (txD v)=insR (pvL H) fresh tb ns (txD v):=by rw [insA,if_neg (by rw [insBad_no hv htb hf.1]; decide)]
 cases hq:insP (pvL H) tb (txD v) ns with
 | none=>
   by_cases h0:fresh < 0
   ·have hR2:insA (pvL H) fresh tb ns (txD v)=((0,0),[],23):=by
     rw [hR,insR,hq]
     show (if fresh < 0 then _ else _)= _
     rw [if_pos h0]
    rw [hR2]
    exact .inl ⟨rfl,rfl,h0⟩
   ·have hR2:insA (pvL H) fresh tb ns (txD v)=((fresh,1),bgL fresh tb++[(fresh,1,txD v)],0):=by
     rw [hR,insR,hq]
     show (if fresh < 0 then _ else _)= _
     rw [if_neg h0]
    rw [hR2]
    obtain ⟨H',g1,g2,g3,g4,g5,g6,g7,g8⟩:=put_fresh (f:=fresh) hH hl ⟨by omega,hf.2⟩ hv htb
    refine .inr ⟨rfl, _,H',rfl,fun e he=>?_,g1,g2,g3,g6,⟨by show 0≤fresh; omega,hf.2⟩,⟨by show (1:Int)≤1; decide,by show (1:Int) < 24; decide⟩,fun m k hm _=>by rw [g7 m hm],fun h=>absurd rfl h⟩
    simp only [List.mem_cons,List.not_mem_nil,or_false] at he
    rcases he with rfl | rfl | rfl
    ·show (1:Nat) < 8; decide
    ·show (putS tb 2).size < 8; rw [putS2_size]; decide
    ·exact ⟨hv,rfl⟩
 | some q=>
   have hR2:insA (pvL H) fresh tb ns (txD v)=(q,[(q.1,q.2,txD v)],0):=by rw [hR,insR,hq]
   rw [hR2]
   obtain ⟨h1,h2,h3,h4,h5⟩:=insP_some hq
   obtain ⟨H',g1,g2,g3,g4,g5,g6,g7⟩:=put_new (lsn:=lsn) hH hl hv h3 h1
   obtain ⟨r1,r2,r3,r4⟩:=roomI_pos h3
   have hn:=pvL_ok r1
   obtain ⟨q1,q2⟩:=q
   dsimp only at h1 h2 h3 h4 h5 g1 g2 g3 g4 g5 g6 g7 r1 r2 r3 r4 hn ⊢
   subst h4
   refine .inr ⟨rfl,[(q1,roomI (pvL H q1) (txD v),(txD v,some v))],H',rfl,fun e he=>?_,g1,g2,g3,g5,hn,⟨by omega,r3⟩,fun m k _ hmk=>g7 m k hmk,fun _=>g6⟩
   rw [List.mem_singleton] at he
   subst he
   exact ⟨hv,rfl⟩
theorem at_in {H:List PgI} {n j:Int} {v:VerD} (h:atF (pvL H n) j=some v):(0≤n∧n < H.length)∧hdF (pvL H n)=true∧1≤j:=by
 rw [atF_eq] at h
 split at h
 ·rename_i h1
  have h2:=h1.1
  rw [hdF_eq,Bool.and_eq_true] at h2
  exact ⟨pvL_ok h2.1,h1.1,h1.2⟩
 ·cases h
theorem at_ok {H:List PgI} (hH:okH H) {n j:Int} {v:VerD} (h:atF (pvL H n) j=some v):okD v:=by
 have h1:=at_in h
 have hd:Desc ((pvL H n).its.getD j.toNat it0).1 ((pvL H n).its.getD j.toNat it0).2:=by
  rw [pvL_in h1.1]
  rcases getD_mem_or (H.getD n.toNat pgi0).2.2 it0 j.toNat with h2 | h2
  ·exact (hH.get (by omega)).2 _ h2
  ·dsimp only
   rw [h2]; show (0:Nat) < 8; decide
 rw [atF_eq,if_pos ⟨h1.2.1,h1.2.2⟩] at h
 rw [h] at hd
 exact hd.1
/-- the old version is marked behind a new one that lies elsewhere -/
theorem upd_two {H:List PgI} {lsn n j xid q1 q2:Int} {v v2:VerD} {es:List EdI} {H1:List PgI} (hl:0≤lsn∧lsn≤2147483647) (hx:3≤xid∧xid < 128) (ha:atF (pvL H n) j=some v) (hH:okH H) (hlen:H.length≤400)
  (h1:doL lsn H es=some H1) (hed:∀ e∈es,Desc e.2.2.1 e.2.2.2) (hH1:okH H1) (hl1:H1.length=H.length) (hat:atF (pvL H1 q1) q2=some v2) (hq1:0≤q1∧q1 < H.length) (hq2:1≤q2∧q2 < 24) (hne:n≠q1∨j≠q2) (hold:atF (pvL H1 n) j=some v):
  ∃ H',doL lsn H (es++[(n,j,(oldB v xid q1 q2,some (v.1,xid,q1,q2,v.2.2.2.2.1,v.2.2.2.2.2)))])=some H'∧(∀ e∈es++[((n,j,(oldB v xid q1 q2,some (v.1,xid,q1,q2,v.2.2.2.2.1,v.2.2.2.2.2))):EdI)],Desc e.2.2.1 e.2.2.2)∧okH H'∧H'.length=H.length∧atF (pvL H' n) j=some (v.1,xid,q1,q2,v.2.2.2.2.1,v.2.2.2.2.2)∧atF (pvL H' q1) q2=some v2:=by
 have hv':=okD_old (xid:=xid) (a:=q1) (b:=q2) (at_ok hH ha) hx (.inr ⟨hq1.1,by omega,by omega,hq2.2⟩)
 obtain ⟨H',g1,g2,g3,g4,g5,g6⟩:=put_old (lsn:=lsn) hH1 hl hold hv' rfl
 refine ⟨H',by rw [doL_app h1]; exact g1,fun e he=>?_,g2,by rw [g3,hl1],g5,by rw [g6 q1 q2 (hne.imp (fun h e=>h e.symm) (fun h e=>h e.symm))]; exact hat⟩
 rcases List.mem_append.1 he with h2 | h2
 ·exact hed e h2
 ·rw [List.mem_singleton] at h2
  subst h2
  exact ⟨hv',rfl⟩
/-- what Update's edits do, no fresh page -/
theorem upd_law {H:List PgI} {lsn tb n j xid:Int} {ns:List Int} {hot:Bool} {rs:List Val} {v:VerD} (hH:okH H) (hl:0≤lsn∧lsn≤2147483647) (hlen:H.length≤400) (ha:atF (pvL H n) j=some v) (hx:3≤xid∧xid < 128) (htb:0≤tb∧tb < 65536) (h1:rrightF rs=true) (h2:NsOk rs) (h3:plainR rs=rs):
  (updA (pvL H) (-1) tb ns n j xid hot rs).2.2.2=23∨((updA (pvL H) (-1) tb ns n j xid hot rs).2.2.2=0∧∃ es H',es.map edD=(updA (pvL H) (-1) tb ns n j xid hot rs).2.2.1∧(∀ e∈es,Desc e.2.2.1 e.2.2.2)∧doL lsn H es=some H'∧okH H'∧H'.length=H.length∧
   atF (pvL H' n) j=some (v.1,xid,(updA (pvL H) (-1) tb ns n j xid hot rs).1.1,(updA (pvL H) (-1) tb ns n j xid hot rs).1.2,v.2.2.2.2.1,v.2.2.2.2.2)∧
   atF (pvL H' (updA (pvL H) (-1) tb ns n j xid hot rs).1.1) (updA (pvL H) (-1) tb ns n j xid hot rs).1.2=some (xid,0, -1,0,(updA (pvL H) (-1) tb ns n j xid hot rs).2.1,rs)∧
   ((updA (pvL H) (-1) tb ns n j xid hot rs).2.1=true→(updA (pvL H) (-1) tb ns n j xid hot rs).1.1=n∧hot=true)):=by
 have hon:onF xid=true:=by rw [onF,decide_eq_true hx.1,decide_eq_true hx.2]; rfl
 have hvT:=okD_new true hx h1 h2 h3
 have hvF:=okD_new false hx h1 h2 h3
 have hin:=at_in ha
 have hbad:updBad xid (newB xid true rs) (-1) tb=false:=by
  rw [updBad,hon,newB_tx,ne_emp hvT]
  simp only [Bool.not_true,Bool.false_or,Bool.or_eq_false_iff,decide_eq_false_iff_not]
  omega
 have hR:updA (pvL H) (-1) tb ns n j xid hot rs=updR (pvL H) (-1) tb ns n j xid hot rs:=by rw [updA,ha,if_neg (by simp),if_neg (by rw [hbad]; decide)]
 by_cases hq:0 < updQ (pvL H) n hot (newB xid true rs)
 ·have hh:hot=true:=by
   cases hot with
   | true=>rfl
   | false=>rw [updQ,if_neg (by decide)] at hq; omega
  subst hh
  have hq':0 < roomI (pvL H n) (txD (xid,0, -1,0,true,rs)):=by rw [updQ,if_pos rfl,newB_tx] at hq; exact hq
  have hR2:updA (pvL H) (-1) tb ns n j xid true rs=((n,roomI (pvL H n) (txD (xid,0, -1,0,true,rs))),true,[(n,roomI (pvL H n) (txD (xid,0, -1,0,true,rs)),txD (xid,0, -1,0,true,rs)),(n,j,oldB v xid n (roomI (pvL H n) (txD (xid,0, -1,0,true,rs))))],0):=by
   rw [hR,updR,if_pos hq,ha]; rfl
  rw [hR2]
  obtain ⟨H1,g1,g2,g3,g4,g5,g6,g7⟩:=put_new (lsn:=lsn) hH hl hvT hq' hin.2.1
  obtain ⟨r1,r2,r3,r4⟩:=roomI_pos hq'
  have hjq:j≠roomI (pvL H n) (txD (xid,0, -1,0,true,rs)):=fun e=>by rw [e,g6] at ha; cases ha
  obtain ⟨H',k1,k2,k3,k4,k5,k6⟩:=upd_two (xid:=xid) hl hx ha hH hlen g1 (fun e he=>by rw [List.mem_singleton] at he; subst he; exact ⟨hvT,rfl⟩) g2 g3 g5 hin.1 ⟨by omega,r3⟩ (.inr hjq) (by rw [g7 n j (.inr hjq)]; exact ha)
  exact .inr ⟨rfl, _,H',rfl,k2,k1,k3,k4,k5,k6,fun _=>⟨rfl,rfl⟩⟩
 ·rcases ins_law (lsn:=lsn) (fresh:= -1) (tb:=tb) (ns:=ns) hH hl hvF htb ⟨by decide,by omega⟩ with ⟨g1, _, _⟩ | ⟨g0,es,H1,g1,g2,g3,g4,g5,g6,g7,g8,g9,g10⟩
  ·left
   rw [hR,updR,if_neg hq,newB_tx,if_pos (by rw [g1]; decide)]
   exact g1
  ·obtain ⟨RI,hRI⟩:∃ z,insA (pvL H) (-1) tb ns (txD (xid,0, -1,0,false,rs))=z:=⟨_,rfl⟩
   rw [hRI] at g0 g1 g6 g7 g8 g9 g10
   have hR2:updA (pvL H) (-1) tb ns n j xid hot rs=(RI.1,false,RI.2.1++[(n,j,oldB v xid RI.1.1 RI.1.2)],0):=by
    rw [hR,updR,if_neg hq,newB_tx,hRI,if_neg (by rw [g0]; decide),ha]; rfl
   rw [hR2]
   have hne:n≠RI.1.1∨j≠RI.1.2:=by
    rcases Decidable.em (n=RI.1.1) with e1 | e1
    ·refine .inr fun e2=>?_
     have:=g10 (by omega)
     rw [← e1,← e2,ha] at this
     cases this
    ·exact .inl e1
   obtain ⟨H',k1,k2,k3,k4,k5,k6⟩:=upd_two (xid:=xid) hl hx ha hH hlen g3 g2 g4 g5 g6 g7 g8 hne (by rw [g9 n j (by omega) hne]; exact ha)
   exact .inr ⟨rfl, _,H',by rw [List.map_append,g1]; rfl,k2,k1,k3,k4,k5,k6,fun h=>by cases h⟩
end
section
open Go.RowKit
theorem r01size2 (w:World):Calls Tryz.prog 193 #[.int .i64 2] w (Ret (.int .i64 2) w):=
 (rosize_any 2 w).mono fun e w' h=>by obtain ⟨rfl,rfl⟩:=h; exact Ret.of rfl (Ext.refl _)
theorem shN_bd {x:Int} (k:Nat) (h:0≤x∧x < 65536):0≤shN x k∧shN x k < 65536:=by
 rw [shN]
 have h1:0≤x / 256 ^ k:=Int.ediv_nonneg h.1 (Int.le_of_lt (Int.pow_pos (by omega)))
 have h2:x / 256 ^ k≤x:=Int.ediv_le_self _ h.1
 omega
theorem shN_quo {x:Int} (k:Nat) (h:0≤shN x k∧shN x k < 65536):IntKind.u64.wrap ((shN x k).tdiv 256)=shN x (k+1):=by
 rw [← shN_succ,Int.tdiv_eq_ediv_of_nonneg h.1,Int.fdiv_eq_ediv_of_nonneg _ (by decide)]
 exact IntWalk.u64_in _ (by omega)
theorem rput_ok {k l:Int} {A:Option Addr} {c:Nat} {ss:List ByteArray} {slot:Int} {s:ByteArray} {w:World} (hA:At w A (ss.map Value.string)) (hs:Small ss) (hc:ss.length≤c) (hss:s.size≤400) (h:putErr k l ss slot s=0):
  Calls Tryz.prog 120 #[.agg #[.int .i64 k, .int .i64 l, .slice A ss.length c], .int .i64 slot, .string s] w (GotPost k l (plainL (withL ss slot.toNat s)) 0 w):=by
 have h2:=rput_any k l A _ c ss slot s w rfl hA hs hc (by omega)
 rwa [RPutPost,if_pos h] at h2
theorem rput_bad {k l:Int} {A:Option Addr} {c:Nat} {ss:List ByteArray} {slot:Int} {s:ByteArray} {w:World} (hA:At w A (ss.map Value.string)) (hs:Small ss) (hc:ss.length≤c) (hss:s.size≤400) (h:putErr k l ss slot s≠0):
  Calls Tryz.prog 120 #[.agg #[.int .i64 k, .int .i64 l, .slice A ss.length c], .int .i64 slot, .string s] w (GotPost 0 0 [] (putErr k l ss slot s) w):=by
 have h2:=rput_any k l A _ c ss slot s w rfl hA hs hc (by omega)
 rwa [RPutPost,if_neg h] at h2
theorem right_small' {k l:Int} {ss:List ByteArray} (h:rightB k l ss=true):Small ss:=by
 obtain ⟨_, _,⟨h1,h2⟩, _⟩:=right_parts h
 exact ⟨by omega,fun s hs=>by have:=h2 s hs; omega⟩
theorem rput_md {V:List Int} {n i:Nat} {A:Option Addr} {c:Nat} {w:World} (hr:rightB (mdK V) (V.getD 0 0) (mdSs V n i)=true) (hA:At w A ((mdSs V n i).map Value.string)) (hc:(mdSs V n i).length≤c) (hss:(mdI V n i).size≤400) (h0:1≤i) (h:putErr (mdK V) (V.getD 0 0) (mdSs V n i) (i:Int) (mdI V n i)=0):
  Calls Tryz.prog 120 #[.agg #[.int .i64 (mdK V), .int .i64 (V.getD 0 0), .slice A (mdSs V n i).length c], .int .i64 (i:Int), .string (mdI V n i)] w (GotPost (mdK V) (V.getD 0 0) (mdSs V n (i+1)) 0 w):=by
 have:=rput_ok hA (right_small' hr) hc hss h
 rwa [Int.toNat_natCast,← mdSs_yes h0 h] at this
theorem Tryz.infoPage:(Tryz.prog.info? 64).map (fun i=>(i.zero,i.size,i.bytes))=some (some (.agg #[.int .i64 0, .int .i64 0, .slice none 0 0]),3,40):=by kernel_rfl
theorem At.eqv {w:World} {A:Option Addr} {xs ys:List Value} (h:At w A xs) (e:xs=ys):At w A ys:=e ▸ h
theorem r01put2 (x:Int) (w:World) (hx:0≤x∧x < 65536):
  Calls Tryz.prog 118 #[.int .i64 x, .int .i64 2] w (Ret (.string (putS x 2)) w):=by
 go_enter Tryz.func118,Tryz.ntmps118
 have hst0:=St.start w
 refine wp_seq (sqr (sqp [.k 4 (.string ⟨#[]⟩)] ?_))
 refine then_normal (wp_seq (sqr (sqp [.k 5 (.string ⟨#[]⟩)] ?_)))
 refine then_normal (wp_seq (sqr (sqp [.m 8 0,sW 9 .u64 x x (IntWalk.u64_in _ (by omega)), .m 6 9] ?_)))
 refine then_normal (wp_seq (wp_seq (sqr (sqp [.k 7 (vi 0)] ?_))))
 refine then_normal (wp_block ?_)
 refine wp_loopT (fun t_ mz az W=>∃ k:Nat,k≤2∧mz=2 - k∧az=⟨(ovr (jv az) [(5,5,0,[.string (putS x k), .int .u64 (shN x k),vi ((k:Int))]),(2,10,15,[])] t_).toArray,[]⟩∧St w [] [] W) (2 - 0) ?_ ?_
 · -- the loop begins
   exact ⟨0,by omega,rfl,(by rw [shN_0,putS_0]; rfl),hst0.pk []⟩
 rintro n7 a7 W7 ⟨k,hk,rfl,hj_,hst7⟩
 refine ovz hj_ fun u7_=>?_
 have hsb:=shN_bd k hx
 refine wp_seq (wp_seq (sqr (sqp [.m 10 7, .m 11 1] ?_)))
 refine sqk (vi 2) hst7 (fun cx=>⟨_,r01size2 _,(map1 (cx.ou 11))⟩) fun W10 hst10=>?_
 refine sqp [.k 13 (.bool (decide ((k:Int) < 2)))] ?_
 refine then_normal (wds (fun hs12 hs12p=>?_) fun hs12 hs12p=>?_)
 ·refine wp_skip (then_normal (wp_seq (wp_block (wp_seq (sqr (sqp [.m 16 6,sRe 17 .u64 (shN x k) 256 ((shN x k) % 256) (Int.tmod_eq_emod_of_nonneg (by omega)),sW 18 .u8 ((shN x k) % 256) ((shN x k) % 256) (IntWalk.u8_in _ (by omega))] ?_))))))
  refine sqn1 (fun x_=>sA x_) (fun A19_16=> .slice A19_16 1 1) (fun A19_16=>eO 5 1 (.slice A19_16 1 1) 1 ([.int .u8 ((shN x k) % 256)])) hst10 (by
    refine svA fun ρ β W X cx=>?_
    have fF18:ρ (.tmp 18)= .int .u8 ((shN x k) % 256):=(cx.ou 18)
    exact dv_lit (e:=5) (xs:=[.int .u8 ((shN x k) % 256)]) rfl (by simp [go_sem,fF18]) rfl (by decide) rfl rfl (fun σ β' X' hs hb hv hx=>⟨hv,hx⟩)) fun A19_16 W16 hst16=>?_
  refine sql (.string (strOfNums ([((shN x k) % 256)]))) hst16 (fun cx=>run_convB (e:=5) rfl (by kernel_rfl) (by kernel_rfl) (by kernel_rfl) (cx.ou 19) (cx.ri 0 rfl)) ?_
  refine sqp [.m 21 5] ?_
  refine sql (.string (putS x (k+1))) hst16 (fun cx=>(by rw [putS_succ x (by omega)]; exact run_strcat rfl (cx.ou 20) (cx.ou 21) (by rw [strOfNums_size,putS_size x k (by omega)]; first | omega | (simp only [List.length_cons,List.length_nil]; omega)))) ?_
  refine sqp [.m 5 22] ?_
  refine then_normal (sqr (sqp [.m 23 6,sQu 24 .u64 (shN x k) 256 (shN x (k+1)) (shN_quo k hsb), .m 6 24] ?_))
  refine blk_normal (then_normal (sqr (sqp [.m 14 7,sI 15 ((k:Int)+1) (by omega), .m 7 15] ?_)))
  refine then_normal ?_
  refine ⟨2 - ((k+1)),by omega,?_⟩
  exact ⟨(k+1),by omega,rfl,(by kernel_rfl),hst16.pk []⟩
 refine wp_exit (then_exit (then_exit (blk_eq (then_normal (wp_seq (sqr (sqp [.m 25 5, .m 4 25] ?_)))))))
 refine then_normal (wp_ret ?_)
 refine bpr (.string (putS x k)) (results_1 Tryz.results118 rpt) ?_
 exact Ret.of (by rw [show k=2 by omega]) hst10.ext
theorem rmade9_any (LA:Option Addr) (lc:Nat) (s:List Int) (w:World) (hA:At w LA (s.map (Value.int .i64))) (hl:s.length≤1000000):
  Calls Tryz.prog 48 #[.slice LA s.length lc] w (MadePost s w):=by
 go_enter Tryz.func48,Tryz.ntmps48
 have hst0:=St.start w
 refine wp_seq (sqr (sqal #[.slice none 0 0] hst0 fun B2_1 W1 hst1=>?_))
 refine then_normal (wp_seq (sqr (sqp [.k 15 (.agg #[.slice none 0 0])] ?_)))
 refine sqal #[.slice none 0 0] hst1 fun B3_3 W3 hst3=>?_
 refine sqst (n:=1) 1 #[.slice none 0 0] hst3 fun W4 hst4=>?_
 refine then_normal (wp_seq (sqr (sqp [.k 4 (vi 0)] ?_)))
 refine then_normal (wp_seq (wp_seq (sqr (sqp [.k 5 (vi 0)] ?_))))
 refine then_normal (wp_block ?_)
 have hn7:=nilrowN hst4 64 3
 simp only [List.cons_append,List.nil_append] at hn7
 have hn_8:St _ _ (_++[ePs []]) _:=St.emNil hn7
 refine wp_loopT (fun t_ mz az W=>∃ n:Nat,∃ PA:Option Addr,∃ PC:Nat,∃ Ps:List PgD,n≤5∧Ps.length=n∧(∀ i,i < n→MdOk s i (Ps.getD i p0))∧mz=5 - n∧az=⟨(ovr (jv az) [(4,4,0,[vi (((40*n:Nat):Int)),vi ((n:Int))]),(0,6,9,[]),(1,16,127,[])] t_).toArray,[]⟩∧St w [] [eB B2_1 30 #[.slice none 0 0],eB B3_3 30 #[.slice PA n PC],eO 64 3 (.slice PA n PC) n (Ps.flatMap pgC),ePs Ps] W) (5 - 0) ?_ ?_
 · -- the loop begins
   exact ⟨0,none,0,[],by omega,rfl,fun i hi=>absurd hi (Nat.not_lt_zero i),rfl,(by kernel_rfl),hn_8.pk [0,1,2,3]⟩
 rintro n9 a9 W9 ⟨n,PA,PC,Ps,hn5,hPl,hM,rfl,hj_,hst9⟩
 refine ovz hj_ fun u9_=>?_
 refine wp_seq (wp_seq (sqr (sqp [.m 16 5, .k 17 (.bool (decide ((n:Int) < 5)))] ?_)))
 refine then_normal (wds (fun hs12 hs12p=>?_) fun hs12 hs12p=>?_)
 ·refine wp_skip (then_normal (wp_seq (wp_block (wp_seq (sqr (sqp [.k 20 (.agg #[vi 0,vi 0,vi 0,vi 0,vi 0,vi 0,vi 0,vi 0,vi 0,vi 0,vi 0,vi 0,vi 0,vi 0,vi 0,vi 0,vi 0,vi 0,vi 0,vi 0,vi 0,vi 0,vi 0,vi 0,vi 0,vi 0,vi 0,vi 0,vi 0,vi 0,vi 0,vi 0,vi 0,vi 0,vi 0,vi 0,vi 0,vi 0,vi 0,vi 0])] ?_))))))
  refine sqn1 (fun x_=>pb x_) (fun B6_14=>vp B6_14) (fun B6_14=>eB B6_14 220 ((List.replicate 40 (0:Int)).map (Value.int .i64)).toArray) hst9 (by
    refine svA fun ρ β W X cx=>?_
    exact dv_alloc (cs:=((List.replicate 40 (0:Int)).map (Value.int .i64)).toArray) rfl (by kernel_rfl) rfl rfl (fun σ β' X' hs hb hv hx=>⟨hv,hx⟩)) fun B6_14 W14 hst14=>?_
  refine sqc (eB B6_14 220 ((List.replicate 40 (0:Int)).map (Value.int .i64)).toArray) 4 hst14 (by
    refine svA fun ρ β W X cx=>?_
    exact dv_storeL (n:=40) rfl (cx.ou 6) ((show _= _ from (show _=Value.agg #[vi 0,vi 0,vi 0,vi 0,vi 0,vi 0,vi 0,vi 0,vi 0,vi 0,vi 0,vi 0,vi 0,vi 0,vi 0,vi 0,vi 0,vi 0,vi 0,vi 0,vi 0,vi 0,vi 0,vi 0,vi 0,vi 0,vi 0,vi 0,vi 0,vi 0,vi 0,vi 0,vi 0,vi 0,vi 0,vi 0,vi 0,vi 0,vi 0,vi 0] from (cx.ou 20))).trans (by kernel_rfl: _=Value.agg ((List.replicate 40 (0:Int)).map (Value.int .i64)).toArray)) (by kernel_rfl) (by simp [mdC_len]) (by simp [mdC_len]) (by simp [pgC,Value.oneCell']) cx (cx.init 4 _ rfl) rfl rfl rfl rfl (fun σ β' X' hs hb hx=>hx)) fun W15 hst15=>?_
  refine then_normal (wp_seq (wp_seq (sqr (sqp [.k 7 (vi 0)] ?_))))
  refine then_normal (wp_block ?_)
  rw [← mdC_0 s n] at hst15
  refine wp_loopT (fun t_ mz az W=>∃ i:Nat,i≤40∧mz=40 - i∧az=⟨(ovr (jv az) [(4,4,0,[vi (((40*n+i:Nat):Int))]),(2,7,0,[vi ((i:Int))]),(13,21,17,[])] t_).toArray,[]⟩∧St w [] [eB B2_1 30 #[.slice none 0 0],eB B3_3 30 #[.slice PA n PC],eO 64 3 (.slice PA n PC) n (Ps.flatMap pgC),ePs Ps,eB B6_14 220 ((mdC s n i).map (Value.int .i64)).toArray] W) (40 - 0) ?_ ?_
  · -- the loop begins
    exact ⟨0,by omega,rfl,(by kernel_rfl),hst15.pk [0,1,2,3,4]⟩
  rintro n17 a17 W17 ⟨i,hi40,rfl,hj_,hst17⟩
  refine ovz hj_ fun u17_=>?_
  have hCl:=mdC_len s n i
  refine wp_seq (wp_seq (sqr (sqp [.m 21 7, .k 22 (.bool (decide ((i:Int) < 40)))] ?_)))
  refine then_normal (wds (fun hs20 hs20p=>?_) fun hs20 hs20p=>?_)
  ·refine wp_skip (then_normal (wp_seq (wp_block (wp_seq (wp_seq (sqr (sqp [.m 25 4, .m 26 0, .k 27 (vi ((s.length:Int))), .k 28 (.bool (decide (((40*n+i:Nat):Int) < (s.length:Int))))] ?_)))))))
   refine then_normal (wds (fun hs25 hs25p=>?_) fun hs25 hs25p=>?_)
   ·refine sqr (sqp [.m 29 7, .m 30 0, .m 31 4] ?_)
    refine sql (.pointer (some ((ad LA).add (((40*n+i:Nat)))))) hst17 (fun cx=>run_indexSl (e:=3) (m:=((40*n+i:Nat))) rfl (by kernel_rfl) (by kernel_rfl) (cx.ou 30) (cx.ou 31) (by omega) (by omega) (hA.ext cx.upd.to_ext) (by simp)) ?_
    refine sql (vi (s.getD ((40*n+i:Nat)) 0)) hst17 (fun cx=>run_load1 rfl (by kernel_rfl) (cx.ou 32) (At.cellAd (hA.ext cx.upd.to_ext) (getD_int (by omega)))) ?_
    refine sqp [sAn 34 .i64 (s.getD ((40*n+i:Nat)) 0) 65535 ((s.getD ((40*n+i:Nat)) 0) % 65536) (bits_mask (s.getD ((40*n+i:Nat)) 0) 16 (by decide))] ?_
    refine sql (.pointer (some ⟨B6_14,i,none⟩)) hst17 (fun cx=>run_indexArrB (n:=40) (sz:=1) (m:=i) (q:=i) rfl (by kernel_rfl) (cx.ou 6) (cx.ou 29) (by omega) (by omega) (by omega)) ?_
    refine sqc (eB B6_14 220 ((mdC s n (i+1)).map (Value.int .i64)).toArray) 4 hst17 (by
      refine svA fun ρ β W X cx=>?_
      exact dv_storeAr (m:=i) rfl (cx.ou 35) (show _=Value.int .i64 ((s.getD ((40*n+i:Nat)) 0) % 65536) from (cx.ou 34)) (by kernel_rfl) rfl rfl cx (cx.init 4 _ rfl) rfl (by simp only [List.length_map,mdC_len]; omega) rfl (by rw [← List.map_set,mdC_set s n i (by omega)]) rfl rfl (fun σ β' X' hs hb hx=>hx)) fun W33 hst33=>?_
    refine then_normal (sqr (sqp [.m 36 4,sI 37 (((40*n+i:Nat):Int)+1) (by omega), .m 4 37] ?_))
    refine blk_normal (then_normal (sqr (sqp [.m 23 7,sI 24 ((i:Int)+1) (by omega), .m 7 24] ?_)))
    refine then_normal ?_
    refine ⟨40 - ((i+1)),by omega,?_⟩
    exact ⟨(i+1),by omega,rfl,(by kernel_rfl),hst33.pk [0,1,2,3,4]⟩
   refine wp_skip (then_normal (sqr (sqp [.m 36 4,sI 37 (((40*n+i:Nat):Int)+1) (by omega), .m 4 37] ?_)))
   refine blk_normal (then_normal (sqr (sqp [.m 23 7,sI 24 ((i:Int)+1) (by omega), .m 7 24] ?_)))
   refine then_normal ?_
   rw [mdC_no s n i (by omega)] at hst17
   refine ⟨40 - ((i+1)),by omega,?_⟩
   exact ⟨(i+1),by omega,rfl,(by kernel_rfl),hst17.pk [0,1,2,3,4]⟩
  refine wp_exit (then_exit (then_exit (blk_eq (then_normal (wp_seq ?_)))))
  obtain rfl:i=40:=by omega
  obtain ⟨V,hV⟩:∃ z,mdV s n=z:=⟨_,rfl⟩
  rw [show mdC s n (40:Nat)=V from hV] at hst17
  have hVl:V.length=40:=by rw [← hV]; exact mdV_len s n
  have hVb:∀ i,0≤V.getD i 0∧V.getD i 0≤65535:=fun i=>by rw [← hV]; exact mdV_bd s n i
  have hVb1:=hVb 1
  have hVb2:=hVb 2
  have hVb3:=hVb 3
  refine wp_region_Y [0,1,0,4,12,28,60,124,255,0,1023] [[],[4],[],[4],[],[],[],[],[],[],[6]] [[],[],[],[],[],[],[],[5],[],[6],[7]] [[],[],[],[],[],[],[],[],[],[],[6]] [.c 38 (vp B6_14), .c 39 (vi (V.getD 0 0)), .c 40 (.pointer (some ⟨B6_14,1,none⟩)), .c 41 (vi (V.getD 1 0)),tRe 42 .i64 (V.getD 1 0) 2 ((V.getD 1 0) % 2) (Int.tmod_eq_emod_of_nonneg (by omega)),tI 43 (1+((V.getD 1 0) % 2)) (by omega), .c 44 (.string (putS (1+((V.getD 1 0) % 2)) 2)), .a 45, .a 46, .a 8, .n] (fun ix σ β X=>match ix with | 0=>True | 1=>True | 2=>True | 3=>True | 4=>True | 5=>True | 6=>True | 7=>σ 45= .slice (sA (β 45)) 1 1∧X 5=eO 9 1 (.slice (sA (β 45)) 1 1) 1 ([.string (putS (1+((V.getD 1 0) % 2)) 2)]) | 8=>σ 46= .agg #[vi 1,vi (V.getD 0 0), .slice (sA (β 45)) 1 1] | 9=>σ 8=vp (pb (β 8))∧X 6=eB (pb (β 8)) 64 #[vi 0,vi 0, .slice none 0 0] | 10=>X 7=eB (pb (β 8)) 64 #[vi 1,vi (V.getD 0 0), .slice (sA (β 45)) 1 1] | _=>True) [0,1,2,3,4,5,7] [0,1,2,3,6,7,8,9,10] [(8,9,1,9),(29,0,9,38)] hst17 ?_ ?_ ?_
  ·exact fun ix _ _ _ _ _ _ hs hb hx h=>match ix,h with
   | 7,h=>by dsimp only; rw [← hs 45 rfl,← hb 45 rfl,← hx 5 rfl]; exact h
   | 8,h=>by dsimp only; rw [← hs 46 rfl,← hb 45 rfl]; exact h
   | 9,h=>by dsimp only; rw [← hs 8 rfl,← hb 8 rfl,← hx 6 rfl]; exact h
   | 10,h=>by dsimp only; rw [← hb 8 rfl,← hb 45 rfl,← hx 7 rfl]; exact h
   | 0, _ | 1, _ | 2, _ | 3, _ | 4, _ | 5, _ | 6, _ | _+11, _=>trivial
  ·refine ⟨?_,?_,?_,?_,?_,?_,?_,?_,?_,trivial⟩
   ·exact xs4 rfl id fun cx=>run_indexArrB (n:=40) (sz:=1) (m:=0) (q:=0) rfl (by kernel_rfl) (cx.ou 6) (cx.co _) (by omega) (by omega) (by omega)
   ·exact xs4 rfl id fun cx=>run_load1 rfl (by kernel_rfl) (cx.an 0) (((cx.bi 4 rfl).cell 0).trans ((List.getElem?_toArray ..).trans (getD_int (by omega))))
   ·exact xs4 rfl id fun cx=>run_indexArrB (n:=40) (sz:=1) (m:=1) (q:=1) rfl (by kernel_rfl) (cx.ou 6) (cx.co _) (by omega) (by omega) (by omega)
   ·exact xs4 rfl id fun cx=>run_load1 rfl (by kernel_rfl) (cx.an 2) (((cx.bi 4 rfl).cell 1).trans ((List.getElem?_toArray ..).trans (getD_int (by omega))))
   ·exact xsc rfl id rfl rfl fun cx=>⟨_,r01put2 (1+((V.getD 1 0) % 2)) _ (by omega),(map2 (cx.an 5) (cx.co _))⟩
   ·refine svA fun ρ β W X cx=>?_
    have fF44:ρ (.tmp 44)= .string (putS (1+((V.getD 1 0) % 2)) 2):=(cx.an 6)
    exact dv_lit (e:=9) (xs:=[.string (putS (1+((V.getD 1 0) % 2)) 2)]) rfl (by simp [go_sem,fF44]) rfl (by decide) rfl rfl (fun σ β' X' hs hb hv hx=>⟨hv,hx⟩)
   ·exact sv rfl rfl rfl rfl rfl _ (fun _ _ _ h=>h) (fun β β' h=>by rw [h 45 (by decide)]) fun ρ β W X cx=>run_buildL rfl (pmc (cx.co _) (pmc (cx.an 1) (pmc (dTn (cx.an 7)).1 pmn))) (by kernel_rfl)
   ·refine svA fun ρ β W X cx=>?_
    exact dv_alloc (cs:=#[vi 0,vi 0, .slice none 0 0]) rfl (by kernel_rfl) rfl rfl (fun σ β' X' hs hb hv hx=>⟨hv,hx⟩)
   ·refine svA fun ρ β W X cx=>?_
    exact dv_store (n:=3) rfl (dTn (cx.an 9)).1 (dTn (cx.an 8)) (by kernel_rfl) (by kernel_rfl) (by kernel_rfl) cx (dTn (cx.an 9)).2 rfl (nle rfl) (by kernel_rfl) rfl rfl rfl (fun σ β' X' hs hb hx=>by rw [hb 8,hb 45]; exact hx)
  intro σ β X W46 hD hst46 fr hfr
  obtain ⟨A45_46,hu_A45_46⟩:∃ z,sA (β 45)=z:=⟨_,rfl⟩
  obtain ⟨B8_46,hu_B8_46⟩:∃ z,pb (β 8)=z:=⟨_,rfl⟩
  simp only [exq 5 ((dTn (hD 7 lq)).2),exq 7 ((dTn (hD 10 lq))),hu_A45_46,hu_B8_46] at hst46
  simp only [ed 45 ((dTn (hD 7 lq)).1),ed 46 ((dTn (hD 8 lq))),ed 8 ((dTn (hD 9 lq)).1),hu_A45_46,hu_B8_46] at hfr
  clear hD hu_A45_46 hu_B8_46; subst hfr; clear σ β X
  refine then_normal ?_
  refine wp_cutT (fun t_ az W=>∃ K:Int,K=mdK V∧az=⟨(ovr (jv az) [(47,47,8,[])] t_).toArray,[]⟩∧St w [] [eB B2_1 30 #[.slice none 0 0],eB B3_3 30 #[.slice PA n PC],eO 64 3 (.slice PA n PC) n (Ps.flatMap pgC),ePs Ps,eB B6_14 220 (V.map (Value.int .i64)).toArray,eO 9 1 (.slice A45_46 1 1) 1 ([.string (putS (1+((V.getD 1 0) % 2)) 2)]),eB B8_46 64 #[vi K,vi (V.getD 0 0), .slice A45_46 1 1]] W) ?_ ?_
  ·refine wp_seq (sqr ?_)
   refine sql (.pointer (some ⟨B6_14,2,none⟩)) hst46 (fun cx=>run_indexArrB (n:=40) (sz:=1) (m:=2) (q:=2) rfl (by kernel_rfl) (cx.ou 6) (cx.co _) (by omega) (by omega) (by omega)) ?_
   refine sql (vi (V.getD 2 0)) hst46 (fun cx=>run_load1 rfl (by kernel_rfl) (cx.ou 47) (((cx.bi 4 rfl).cell 2).trans ((List.getElem?_toArray ..).trans (getD_int (by omega))))) ?_
   refine sqp [sRe 49 .i64 (V.getD 2 0) 9 ((V.getD 2 0) % 9) (Int.tmod_eq_emod_of_nonneg (by omega)), .k 50 (.bool (((V.getD 2 0) % 9)==4))] ?_
   refine then_normal (wbs (fun hs52=>?_) fun hs52=>?_)
   ·have hs52p:=beq_iff_eq.1 hs52
    refine sqr ?_
    refine sql (.pointer (some ⟨B6_14,3,none⟩)) hst46 (fun cx=>run_indexArrB (n:=40) (sz:=1) (m:=3) (q:=3) rfl (by kernel_rfl) (cx.ou 6) (cx.co _) (by omega) (by omega) (by omega)) ?_
    refine sql (vi (V.getD 3 0)) hst46 (fun cx=>run_load1 rfl (by kernel_rfl) (cx.ou 51) (((cx.bi 4 rfl).cell 3).trans ((List.getElem?_toArray ..).trans (getD_int (by omega))))) ?_
    refine sqp [sRe 53 .i64 (V.getD 3 0) 3 ((V.getD 3 0) % 3) (Int.tmod_eq_emod_of_nonneg (by omega)), .k 54 (vp B8_46)] ?_
    refine sqst (n:=1) 6 #[vi ((V.getD 3 0) % 3),vi (V.getD 0 0), .slice A45_46 1 1] hst46 fun W57 hst57=>?_
    refine then_normal ?_
    exact ⟨((V.getD 3 0) % 3),by rw [mdK]; split<;>first | rfl | (exfalso; omega),(by kernel_rfl),hst57.pk [0,1,2,3,4,5,6]⟩
   have hs52p:=beq_eq_false_iff_ne.1 hs52
   refine wp_skip (then_normal ?_)
   exact ⟨1,by rw [mdK]; split<;>first | rfl | (exfalso; omega),(by kernel_rfl),hst46.pk [0,1,2,3,4,5,6]⟩
  rintro a47 W47 ⟨K,hK,hj_,hst47⟩
  refine ovz hj_ fun u47_=>?_
  subst hK
  refine wp_cutT (fun t_ az W=>∃ H:ByteArray,H=mdH V∧az=⟨(ovr (jv az) [(55,55,7,[])] t_).toArray,[]⟩∧St w [] [eB B2_1 30 #[.slice none 0 0],eB B3_3 30 #[.slice PA n PC],eO 64 3 (.slice PA n PC) n (Ps.flatMap pgC),ePs Ps,eB B6_14 220 (V.map (Value.int .i64)).toArray,eO 9 1 (.slice A45_46 1 1) 1 ([.string H]),eB B8_46 64 #[vi (mdK V),vi (V.getD 0 0), .slice A45_46 1 1]] W) ?_ ?_
  ·refine wp_seq (sqr ?_)
   refine sql (.pointer (some ⟨B6_14,2,none⟩)) hst47 (fun cx=>run_indexArrB (n:=40) (sz:=1) (m:=2) (q:=2) rfl (by kernel_rfl) (cx.ou 6) (cx.co _) (by omega) (by omega) (by omega)) ?_
   refine sql (vi (V.getD 2 0)) hst47 (fun cx=>run_load1 rfl (by kernel_rfl) (cx.ou 55) (((cx.bi 4 rfl).cell 2).trans ((List.getElem?_toArray ..).trans (getD_int (by omega))))) ?_
   refine sqp [sRe 57 .i64 (V.getD 2 0) 11 ((V.getD 2 0) % 11) (Int.tmod_eq_emod_of_nonneg (by omega)), .k 58 (.bool (((V.getD 2 0) % 11)==5))] ?_
   refine then_normal (wbs (fun hs63=>?_) fun hs63=>?_)
   ·have hs63p:=beq_iff_eq.1 hs63
    refine sqr (sqp [.k 59 (.pointer (some ⟨B8_46,2,none⟩))] ?_)
    refine sqld 6 hst47 ?_
    refine sql (.pointer (some ((ad A45_46).add 0))) hst47 (fun cx=>run_indexSl (e:=9) (m:=0) rfl (by kernel_rfl) (by kernel_rfl) (cx.ou 60) (cx.co _) (by omega) (by omega) (At.of_own (cx.ri 5 rfl)) (by simp)) ?_
    refine sqc (eO 9 1 (.slice A45_46 1 1) 1 (([.string (putS (1+((V.getD 1 0) % 2)) 2)]).set 0 (.string ⟨#[120]⟩))) 5 hst47 (by
      refine svA fun ρ β W X cx=>?_
      exact dv_storeRow (m:=0) (n:=1) rfl (cx.ou 61) (cx.co _) (by kernel_rfl) rfl rfl cx (cx.init 5 _ rfl) rfl (by omega) rfl (rfl) rfl rfl (fun σ β' X' hs hb hx=>hx)) fun W67 hst67=>?_
    refine then_normal ?_
    exact ⟨(⟨#[120]⟩:ByteArray),by rw [mdH]; split<;>first | rfl | (exfalso; omega),(by kernel_rfl),hst67.pk [0,1,2,3,4,5,6]⟩
   have hs63p:=beq_eq_false_iff_ne.1 hs63
   refine wp_skip (then_normal ?_)
   exact ⟨(putS (1+((V.getD 1 0) % 2)) 2),by rw [mdH]; split<;>first | rfl | (exfalso; omega),(by kernel_rfl),hst47.pk [0,1,2,3,4,5,6]⟩
  rintro a58 W58 ⟨H,hH,hj_,hst58⟩
  refine ovz hj_ fun u58_=>?_
  subst hH
  refine wp_seq (wp_seq (sqr (sqp [.k 9 (vi 1)] ?_)))
  refine then_normal (wp_block ?_)
  refine wp_loopT (fun t_ mz az W=>∃ i:Nat,∃ IA:Option Addr,∃ IC:Nat,1≤i∧i≤12∧mz=12 - i∧az=⟨(ovr (jv az) [(9,9,0,[vi ((i:Int))]),(0,10,5,[]),(47,62,75,[])] t_).toArray,[]⟩∧St w [] [eB B2_1 30 #[.slice none 0 0],eB B3_3 30 #[.slice PA n PC],eO 64 3 (.slice PA n PC) n (Ps.flatMap pgC),ePs Ps,eB B6_14 220 (V.map (Value.int .i64)).toArray,eO 9 1 (.slice IA ((mdSs V n i).length) IC) ((mdSs V n i).length) ((mdSs V n i).map Value.string),eB B8_46 64 #[vi (mdK V),vi (V.getD 0 0), .slice IA ((mdSs V n i).length) IC]] W) (12 - 1) ?_ ?_
  · -- the loop begins
    exact ⟨1,A45_46,1,by omega,by omega,rfl,(by kernel_rfl),hst58.pk [0,1,2,3,4,5,6]⟩
  rintro n69 a69 W69 ⟨i,IA,IC,hi1,hi12,rfl,hj_,hst69⟩
  refine ovz hj_ fun u69_=>?_
  refine wp_seq (wp_seq (sqr (sqp [.m 62 9, .k 63 (.bool (decide ((i:Int) < 12))), .m 64 63] ?_)))
  refine sqw' 64 [65,66,67,68] ?_ rfl (fun hq=>?_) ?_
  rotate_left
  ·have hq_:=of_decide_eq_true hq
   refine sqp [.m 65 9,sJ 66 (3*(i:Int)) ((3*i:Nat):Int) (by omega) (by omega),sJ 67 (((3*i:Nat):Int)+2) ((3*i+2:Nat):Int) (by omega) (by omega), .k 68 (.bool (decide (((3*i+2:Nat):Int) < 40)))] ?_
   exact sqe
  refine sqwx ?_
  refine sqp [sPa 69 (decide ((i:Int) < 12)) (decide (((3*i+2:Nat):Int) < 40))] ?_
  refine then_normal (wbs (fun hs78=>?_) fun hs78=>?_)
  ·have hs78p:=hs78
   simp only [zB] at hs78p
   obtain ⟨hs78p1,hs78p2⟩:=hs78p
   refine wp_skip (then_normal (wp_seq (wp_block (wp_seq (sqr (sqp [.m 72 9,sJ 73 (3*(i:Int)) ((3*i:Nat):Int) (by omega) (by omega)] ?_))))))
   refine sql (.pointer (some ⟨B6_14,((3*i:Nat)),none⟩)) hst69 (fun cx=>run_indexArrB (n:=40) (sz:=1) (m:=((3*i:Nat))) (q:=((3*i:Nat))) rfl (by kernel_rfl) (cx.ou 6) (cx.ou 73) (by omega) (by omega) (by omega)) ?_
   refine sql (vi (V.getD ((3*i:Nat)) 0)) hst69 (fun cx=>run_load1 rfl (by kernel_rfl) (cx.ou 74) (((cx.bi 4 rfl).cell ((3*i:Nat))).trans ((List.getElem?_toArray ..).trans (getD_int (by omega))))) ?_
   refine sqp [.m 10 75] ?_
   refine then_normal (wp_seq ?_)
   obtain ⟨x,hN_x⟩:∃ z,V.getD ((3*i:Nat)) 0=z:=⟨_,rfl⟩
   rw [hN_x]
   have hxb:0≤x∧x≤65535:=by rw [← hN_x]; exact hVb _
   refine sqr (sqp [.m 76 9,sJ 77 (3*(i:Int)) ((3*i:Nat):Int) (by omega) (by omega),sJ 78 (((3*i:Nat):Int)+1) ((3*i+1:Nat):Int) (by omega) (by omega)] ?_)
   refine sql (.pointer (some ⟨B6_14,((3*i+1:Nat)),none⟩)) hst69 (fun cx=>run_indexArrB (n:=40) (sz:=1) (m:=((3*i+1:Nat))) (q:=((3*i+1:Nat))) rfl (by kernel_rfl) (cx.ou 6) (cx.ou 78) (by omega) (by omega) (by omega)) ?_
   refine sql (vi (V.getD ((3*i+1:Nat)) 0)) hst69 (fun cx=>run_load1 rfl (by kernel_rfl) (cx.ou 79) (((cx.bi 4 rfl).cell ((3*i+1:Nat))).trans ((List.getElem?_toArray ..).trans (getD_int (by omega))))) ?_
   refine sqp [.m 11 80] ?_
   refine then_normal (wp_seq ?_)
   obtain ⟨y,hN_y⟩:∃ z,V.getD ((3*i+1:Nat)) 0=z:=⟨_,rfl⟩
   rw [hN_y]
   have hyb:0≤y∧y≤65535:=by rw [← hN_y]; exact hVb _
   obtain ⟨z,hN_z⟩:∃ z,V.getD (3*i+2) 0=z:=⟨_,rfl⟩
   have hvm:=vmax_0 (mdL x y z)
   refine sqr (sqp [.m 81 10, .m 82 11, .m 83 9,sJ 84 (3*(i:Int)) ((3*i:Nat):Int) (by omega) (by omega),sJ 85 (((3*i:Nat):Int)+2) ((3*i+2:Nat):Int) (by omega) (by omega)] ?_)
   refine sql (.pointer (some ⟨B6_14,((3*i+2:Nat)),none⟩)) hst69 (fun cx=>run_indexArrB (n:=40) (sz:=1) (m:=((3*i+2:Nat))) (q:=((3*i+2:Nat))) rfl (by kernel_rfl) (cx.ou 6) (cx.ou 85) (by omega) (by omega) (by omega)) ?_
   refine sql (vi (V.getD ((3*i+2:Nat)) 0)) hst69 (fun cx=>run_load1 rfl (by kernel_rfl) (cx.ou 86) (((cx.bi 4 rfl).cell ((3*i+2:Nat))).trans ((List.getElem?_toArray ..).trans (getD_int (by omega))))) ?_
   refine sqp [.m 88 10,sRe 89 .i64 x 2 (x % 2) (Int.tmod_eq_emod_of_nonneg (by omega)), .m 90 11, .m 91 10] ?_
   refine sqn1 (fun x_=>sA x_) (fun A92_101=> .slice A92_101 6 6) (fun A92_101=>eO 3 1 (.slice A92_101 6 6) 6 ([vi (x),vi (y),vi (V.getD ((3*i+2:Nat)) 0),vi (x % 2),vi (y),vi (x)])) hst69 (by
     refine svA fun ρ β W X cx=>?_
     have fF81:ρ (.tmp 81)=vi (x):=(cx.ou 81)
     have fF82:ρ (.tmp 82)=vi (y):=(cx.ou 82)
     have fF87:ρ (.tmp 87)=vi (V.getD ((3*i+2:Nat)) 0):=(cx.ou 87)
     have fF89:ρ (.tmp 89)=vi (x % 2):=(cx.ou 89)
     have fF90:ρ (.tmp 90)=vi (y):=(cx.ou 90)
     have fF91:ρ (.tmp 91)=vi (x):=(cx.ou 91)
     exact dv_lit (e:=3) (xs:=[vi (x),vi (y),vi (V.getD ((3*i+2:Nat)) 0),vi (x % 2),vi (y),vi (x)]) rfl (by simp [go_sem,fF81,fF82,fF87,fF89,fF90,fF91]) rfl (by decide) rfl rfl (fun σ β' X' hs hb hv hx=>⟨hv,hx⟩)) fun A92_101 W101 hst101=>?_
   refine sqk2 (fun A93_102 c93_102=> .agg #[vi ((vminF (mdL x y z))),vi ((vmaxF (mdL x y z))),vi ((vpgF (mdL x y z))),vi ((vslF (mdL x y z))), .bool (vhotF (mdL x y z)), .slice A93_102 ((vrowF (mdL x y z)).length) c93_102]) (fun A93_102 c93_102=>eO 45 3 (.slice A93_102 ((vrowF (mdL x y z)).length) c93_102) ((vrowF (mdL x y z)).length) (flatR (vrowF (mdL x y z)))) hst101 (fun cx=>have hR_:=(cx.init 7 _ rfl); have hR2_:=At.of_own (cx.row hR_ rfl); ⟨_,(made08_any _ _ (mdL x y z) _ (At.eqv hR2_ (by rw [← hN_z]; rfl)) (by show 6≤9223372036854775807; decide)).mono (by rintro e W1 ⟨A4,c4,rfl,ho,hx⟩; exact ⟨_, _,rfl,St.one hx (eO_new ho)⟩),(map1 (cx.ou 92))⟩) fun A93_102 c93_102 W102 hst102=>?_
   refine sqal #[vi 0,vi 0,vi 0,vi 0, .bool false, .slice none 0 0] hst102 fun B12_103 W103 hst103=>?_
   refine sqst (n:=6) 9 #[vi ((vminF (mdL x y z))),vi ((vmaxF (mdL x y z))),vi ((vpgF (mdL x y z))),vi ((vslF (mdL x y z))), .bool (vhotF (mdL x y z)), .slice A93_102 ((vrowF (mdL x y z)).length) c93_102] hst103 fun W104 hst104=>?_
   refine then_normal (wp_seq (sqr (sqp [.m 94 10,sRe 95 .i64 x 59 (x % 59) (Int.tmod_eq_emod_of_nonneg (by omega)),sI 96 (2+(x % 59)) (by omega), .k 97 (vp B12_103)] ?_)))
   refine sqst (n:=1) 9 #[vi (2+(x % 59)),vi ((vmaxF (mdL x y z))),vi ((vpgF (mdL x y z))),vi ((vslF (mdL x y z))), .bool (vhotF (mdL x y z)), .slice A93_102 ((vrowF (mdL x y z)).length) c93_102] hst104 fun W109 hst109=>?_
   refine then_normal ?_
   refine wp_cutT (fun t_ az W=>∃ b9:Int,b9=(itV n x y z).2.1∧az=⟨(ovr (jv az) [(98,98,7,[])] t_).toArray,[]⟩∧St w [] [eB B2_1 30 #[.slice none 0 0],eB B3_3 30 #[.slice PA n PC],eO 64 3 (.slice PA n PC) n (Ps.flatMap pgC),ePs Ps,eB B6_14 220 (V.map (Value.int .i64)).toArray,eO 9 1 (.slice IA ((mdSs V n i).length) IC) ((mdSs V n i).length) ((mdSs V n i).map Value.string),eB B8_46 64 #[vi (mdK V),vi (V.getD 0 0), .slice IA ((mdSs V n i).length) IC],eO 3 1 (.slice A92_101 6 6) 6 ([vi (x),vi (y),vi (V.getD ((3*i+2:Nat)) 0),vi (x % 2),vi (y),vi (x)]),eO 45 3 (.slice A93_102 ((vrowF (mdL x y z)).length) c93_102) ((vrowF (mdL x y z)).length) (flatR (vrowF (mdL x y z))),eB B12_103 41 #[vi (2+(x % 59)),vi b9,vi ((vpgF (mdL x y z))),vi ((vslF (mdL x y z))), .bool (vhotF (mdL x y z)), .slice A93_102 ((vrowF (mdL x y z)).length) c93_102]] W) ?_ ?_
   ·refine wp_seq (sqr (sqp [.k 98 (.pointer (some ⟨B12_103,1,none⟩))] ?_))
    refine sqld 9 hst109 ?_
    refine sqp [.k 100 (.bool (decide (0 < (vmaxF (mdL x y z)))))] ?_
    refine then_normal (wds (fun hs114 hs114p=>?_) fun hs114 hs114p=>?_)
    ·refine sqr (sqp [.m 101 11,sRe 102 .i64 y 58 (y % 58) (Int.tmod_eq_emod_of_nonneg (by omega)),sI 103 (3+(y % 58)) (by omega), .k 104 (.pointer (some ⟨B12_103,1,none⟩))] ?_)
     refine sqst (n:=1) 9 #[vi (2+(x % 59)),vi (3+(y % 58)),vi ((vpgF (mdL x y z))),vi ((vslF (mdL x y z))), .bool (vhotF (mdL x y z)), .slice A93_102 ((vrowF (mdL x y z)).length) c93_102] hst109 fun W119 hst119=>?_
     refine then_normal ?_
     exact ⟨3+(y % 58),by rw [itV]; dsimp only; split<;>first | rfl | (exfalso; omega),(by kernel_rfl),hst119.pk [0,1,2,3,4,5,6,7,8,9]⟩
    refine wp_skip (then_normal ?_)
    exact ⟨(vmaxF (mdL x y z)),by rw [itV]; dsimp only; split<;>first | rfl | (exfalso; omega),(by kernel_rfl),hst109.pk [0,1,2,3,4,5,6,7,8,9]⟩
   rintro a110 W110 ⟨b9,hb9,hj_,hst110⟩
   refine ovz hj_ fun u110_=>?_
   subst hb9
   refine wp_cutT (fun t_ az W=>∃ n19:Int,∃ n29:Int,n19=(itV n x y z).2.2.1∧n29=(itV n x y z).2.2.2.1∧az=⟨(ovr (jv az) [(105,105,9,[])] t_).toArray,[]⟩∧St w [] [eB B2_1 30 #[.slice none 0 0],eB B3_3 30 #[.slice PA n PC],eO 64 3 (.slice PA n PC) n (Ps.flatMap pgC),ePs Ps,eB B6_14 220 (V.map (Value.int .i64)).toArray,eO 9 1 (.slice IA ((mdSs V n i).length) IC) ((mdSs V n i).length) ((mdSs V n i).map Value.string),eB B8_46 64 #[vi (mdK V),vi (V.getD 0 0), .slice IA ((mdSs V n i).length) IC],eO 3 1 (.slice A92_101 6 6) 6 ([vi (x),vi (y),vi (V.getD ((3*i+2:Nat)) 0),vi (x % 2),vi (y),vi (x)]),eO 45 3 (.slice A93_102 ((vrowF (mdL x y z)).length) c93_102) ((vrowF (mdL x y z)).length) (flatR (vrowF (mdL x y z))),eB B12_103 41 #[vi (2+(x % 59)),vi (itV n x y z).2.1,vi n19,vi n29, .bool (vhotF (mdL x y z)), .slice A93_102 ((vrowF (mdL x y z)).length) c93_102]] W) ?_ ?_
   ·refine wp_seq (sqr (sqp [.m 105 11,sRe 106 .i64 y 3 (y % 3) (Int.tmod_eq_emod_of_nonneg (by omega)), .k 107 (.bool (decide (0 < y % 3)))] ?_))
    refine then_normal (wds (fun hs124 hs124p=>?_) fun hs124 hs124p=>?_)
    ·refine sqr (sqp [.m 108 5, .m 109 10,sRe 110 .i64 x 12 (x % 12) (Int.tmod_eq_emod_of_nonneg (by omega)),sI 111 (1+(x % 12)) (by omega), .k 112 (.agg #[vi ((n:Int)),vi (1+(x % 12))]), .k 113 (.pointer (some ⟨B12_103,2,none⟩))] ?_)
     refine sqst (n:=2) 9 #[vi (2+(x % 59)),vi (itV n x y z).2.1,vi ((n:Int)),vi (1+(x % 12)), .bool (vhotF (mdL x y z)), .slice A93_102 ((vrowF (mdL x y z)).length) c93_102] hst110 fun W131 hst131=>?_
     refine then_normal ?_
     exact ⟨(n:Int),1+(x % 12),by rw [itV]; dsimp only; split<;>first | rfl | (exfalso; omega),by rw [itV]; dsimp only; split<;>first | rfl | (exfalso; omega),(by kernel_rfl),hst131.pk [0,1,2,3,4,5,6,7,8,9]⟩
    refine wp_skip (then_normal ?_)
    exact ⟨(vpgF (mdL x y z)),(vslF (mdL x y z)),by rw [itV]; dsimp only; split<;>first | rfl | (exfalso; omega),by rw [itV]; dsimp only; split<;>first | rfl | (exfalso; omega),(by kernel_rfl),hst110.pk [0,1,2,3,4,5,6,7,8,9]⟩
   rintro a120 W120 ⟨n19,n29,hn19,hn29,hj_,hst120⟩
   refine ovz hj_ fun u120_=>?_
   subst hn19
   subst hn29
   refine wp_seq (sqr ?_)
   refine sqlb 9 6 hst120 ?_
   refine sqk (.string ((txD (itV n x y z)))) hst120 (fun cx=>⟨_,r08bytes_any _ _ _ _ _ _ _ (vrowF (mdL x y z)) _ (At.of_ownN (cx.ri 8 rfl)) (by rw [vrowF,madeR_len]; omega),(map1 (cx.ou 114))⟩) fun W133 hst133=>?_
   refine sqp [.m 13 115] ?_
   refine then_normal ?_
   refine wp_cutT (fun t_ az W=>∃ s13:ByteArray,s13=it1 x (txD (itV n x y z))∧az=⟨(ovr (jv az) [(13,13,0,[.string s13]),(102,116,3,[])] t_).toArray,[]⟩∧St w [] [eB B2_1 30 #[.slice none 0 0],eB B3_3 30 #[.slice PA n PC],eO 64 3 (.slice PA n PC) n (Ps.flatMap pgC),ePs Ps,eB B6_14 220 (V.map (Value.int .i64)).toArray,eO 9 1 (.slice IA ((mdSs V n i).length) IC) ((mdSs V n i).length) ((mdSs V n i).map Value.string),eB B8_46 64 #[vi (mdK V),vi (V.getD 0 0), .slice IA ((mdSs V n i).length) IC]] W) ?_ ?_
   ·refine wp_seq (sqr (sqp [.m 116 10,sRe 117 .i64 x 13 (x % 13) (Int.tmod_eq_emod_of_nonneg (by omega)), .k 118 (.bool ((x % 13)==3))] ?_))
    refine then_normal (wbs (fun hs139=>?_) fun hs139=>?_)
    ·have hs139p:=beq_iff_eq.1 hs139
     refine sqr (sqp [.k 13 (.string ⟨#[]⟩)] ?_)
     refine then_normal ?_
     exact ⟨(⟨#[]⟩:ByteArray),by rw [it1]; split<;>first | rfl | (exfalso; omega),(by kernel_rfl),hst133.pk [0,1,2,3,4,5,6]⟩
    have hs139p:=beq_eq_false_iff_ne.1 hs139
    refine wp_skip (then_normal ?_)
    exact ⟨(txD (itV n x y z)),by rw [it1]; split<;>first | rfl | (exfalso; omega),(by kernel_rfl),hst133.pk [0,1,2,3,4,5,6]⟩
   rintro a135 W135 ⟨s13,hs13,hj_,hst135⟩
   refine ovz hj_ fun u135_=>?_
   subst hs13
   refine wp_cutT (fun t_ az W=>∃ s13:ByteArray,s13=it2 x (it1 x (txD (itV n x y z)))∧az=⟨(ovr (jv az) [(13,13,0,[.string s13]),(105,119,3,[])] t_).toArray,[]⟩∧St w [] [eB B2_1 30 #[.slice none 0 0],eB B3_3 30 #[.slice PA n PC],eO 64 3 (.slice PA n PC) n (Ps.flatMap pgC),ePs Ps,eB B6_14 220 (V.map (Value.int .i64)).toArray,eO 9 1 (.slice IA ((mdSs V n i).length) IC) ((mdSs V n i).length) ((mdSs V n i).map Value.string),eB B8_46 64 #[vi (mdK V),vi (V.getD 0 0), .slice IA ((mdSs V n i).length) IC]] W) ?_ ?_
   ·refine wp_seq (sqr (sqp [.m 119 10,sRe 120 .i64 x 17 (x % 17) (Int.tmod_eq_emod_of_nonneg (by omega)), .k 121 (.bool ((x % 17)==5))] ?_))
    refine then_normal (wbs (fun hs145=>?_) fun hs145=>?_)
    ·have hs145p:=beq_iff_eq.1 hs145
     refine sqr (sqp [.k 13 (.string ⟨#[111,100,100]⟩)] ?_)
     refine then_normal ?_
     exact ⟨(⟨#[111,100,100]⟩:ByteArray),by rw [it2]; split<;>first | rfl | (exfalso; omega),(by kernel_rfl),hst135.pk [0,1,2,3,4,5,6]⟩
    have hs145p:=beq_eq_false_iff_ne.1 hs145
    refine wp_skip (then_normal ?_)
    exact ⟨(it1 x (txD (itV n x y z))),by rw [it2]; split<;>first | rfl | (exfalso; omega),(by kernel_rfl),hst135.pk [0,1,2,3,4,5,6]⟩
   rintro a141 W141 ⟨s13,hs13,hj_,hst141⟩
   refine ovz hj_ fun u141_=>?_
   subst hs13
   refine wp_cutT (fun t_ az W=>∃ s13:ByteArray,s13=it3 x y (it2 x (it1 x (txD (itV n x y z))))∧az=⟨(ovr (jv az) [(13,13,0,[.string s13]),(108,122,6,[])] t_).toArray,[]⟩∧St w [] [eB B2_1 30 #[.slice none 0 0],eB B3_3 30 #[.slice PA n PC],eO 64 3 (.slice PA n PC) n (Ps.flatMap pgC),ePs Ps,eB B6_14 220 (V.map (Value.int .i64)).toArray,eO 9 1 (.slice IA ((mdSs V n i).length) IC) ((mdSs V n i).length) ((mdSs V n i).map Value.string),eB B8_46 64 #[vi (mdK V),vi (V.getD 0 0), .slice IA ((mdSs V n i).length) IC]] W) ?_ ?_
   ·refine wp_seq (sqr (sqp [.m 122 10,sRe 123 .i64 x 10 (x % 10) (Int.tmod_eq_emod_of_nonneg (by omega)), .k 124 (.bool ((x % 10)==7))] ?_))
    refine then_normal (wbs (fun hs151=>?_) fun hs151=>?_)
    ·have hs151p:=beq_iff_eq.1 hs151
     refine sqr (sqp [.m 125 11,sRe 126 .i64 y 13 (y % 13) (Int.tmod_eq_emod_of_nonneg (by omega))] ?_)
     refine sqk (.string (strOfNums [0,(y % 13)])) hst141 (fun cx=>⟨_,rto_any (y % 13) _ (by omega),(map1 (cx.ou 126))⟩) fun W154 hst154=>?_
     refine sqp [.m 13 127] ?_
     refine then_normal ?_
     exact ⟨strOfNums [0,(y % 13)],by rw [it3]; split<;>first | rfl | (exfalso; omega),(by kernel_rfl),hst154.pk [0,1,2,3,4,5,6]⟩
    have hs151p:=beq_eq_false_iff_ne.1 hs151
    refine wp_skip (then_normal ?_)
    exact ⟨(it2 x (it1 x (txD (itV n x y z)))),by rw [it3]; split<;>first | rfl | (exfalso; omega),(by kernel_rfl),hst141.pk [0,1,2,3,4,5,6]⟩
   rintro a147 W147 ⟨s13,hs13,hj_,hst147⟩
   refine ovz hj_ fun u147_=>?_
   subst hs13
   rw [show it3 x y (it2 x (it1 x (txD (itV n x y z))))=mdI V n i by rw [mdI,hN_x,hN_y,hN_z,itS]]
   refine wp_seq ?_
   have hri:rightB (mdK V) (V.getD 0 0) (mdSs V n i)=true:=by rw [← hV]; exact mdSs_right s n i
   have hsi:(mdI V n i).size≤400:=by obtain ⟨o,ho⟩:=itS_desc n (V.getD (3*i) 0) (V.getD (3*i+1) 0) (V.getD (3*i+2) 0) (by omega); have:=ho.le; rw [mdI]; omega
   rcases Decidable.em (putErr (mdK V) (V.getD 0 0) (mdSs V n i) (i:Int) (mdI V n i)=0) with hpe | hpe
   ·refine sqr ?_
    refine sqlb 6 3 hst147 ?_
    refine sqp [.m 129 9, .m 130 13] ?_
    refine sqk2 (fun A131_159 c131_159=> .agg #[vi ((mdK V)),vi ((V.getD 0 0)), .slice A131_159 ((mdSs V n (i+1)).length) c131_159,vi 0]) (fun A131_159 c131_159=>eO 9 1 (.slice A131_159 ((mdSs V n (i+1)).length) c131_159) ((mdSs V n (i+1)).length) ((mdSs V n (i+1)).map Value.string)) hst147 (fun cx=>⟨_,(rput_md hri (At.of_own (cx.ri 5 rfl)) (by have:=eown_cap (cx.ri 5 rfl); simpa using this) hsi (by omega) hpe).mono (by rintro e W1 ⟨A4,c4,rfl,ho,hx⟩; exact ⟨_, _,rfl,St.one hx (eO_new ho)⟩),(map3 (cx.ou 128) (cx.ou 129) (cx.ou 130))⟩) fun A131_159 c131_159 W159 hst159=>?_
    refine sqal #[vi 0,vi 0, .slice none 0 0,vi 0] hst159 fun B14_160 W160 hst160=>?_
    refine sqst (n:=4) 8 #[vi ((mdK V)),vi ((V.getD 0 0)), .slice A131_159 ((mdSs V n (i+1)).length) c131_159,vi 0] hst160 fun W161 hst161=>?_
    refine then_normal (wp_seq (sqr (sqp [.k 132 (.pointer (some ⟨B14_160,3,none⟩))] ?_)))
    refine sqld 8 hst161 ?_
    refine sqp [.k 134 (.bool true)] ?_
    refine then_normal (wct rfl (sqr (sqp [.k 135 (vp B14_160)] ?_)))
    refine sqlb 8 3 hst161 ?_
    refine sqst (n:=3) 6 #[vi ((mdK V)),vi ((V.getD 0 0)), .slice A131_159 ((mdSs V n (i+1)).length) c131_159] hst161 fun W167 hst167=>?_
    refine blk_normal (then_normal (sqr (sqp [.m 70 9,sI 71 ((i:Int)+1) (by omega), .m 9 71] ?_)))
    refine then_normal ?_
    refine ⟨12 - ((i+1)),by omega,?_⟩
    exact ⟨(i+1),A131_159,c131_159,by omega,by omega,rfl,(by kernel_rfl),hst167.pk [0,1,2,3,4,7,6]⟩
   ·refine sqr ?_
    refine sqlb 6 3 hst147 ?_
    refine sqp [.m 129 9, .m 130 13] ?_
    refine sqk2 (fun A131_174 c131_174=> .agg #[vi 0,vi 0, .slice A131_174 (([]:List ByteArray).length) c131_174,vi ((putErr (mdK V) (V.getD 0 0) (mdSs V n i) (i:Int) (mdI V n i)))]) (fun A131_174 c131_174=>eO 9 1 (.slice A131_174 (([]:List ByteArray).length) c131_174) (([]:List ByteArray).length) (([]:List ByteArray).map Value.string)) hst147 (fun cx=>⟨_,(rput_bad (At.of_own (cx.ri 5 rfl)) (right_small' hri) (by have:=eown_cap (cx.ri 5 rfl); simpa using this) hsi hpe).mono (by rintro e W1 ⟨A4,c4,rfl,ho,hx⟩; exact ⟨_, _,rfl,St.one hx (eO_new ho)⟩),(map3 (cx.ou 128) (cx.ou 129) (cx.ou 130))⟩) fun A131_174 c131_174 W174 hst174=>?_
    refine sqal #[vi 0,vi 0, .slice none 0 0,vi 0] hst174 fun B14_175 W175 hst175=>?_
    refine sqst (n:=4) 8 #[vi 0,vi 0, .slice A131_174 (([]:List ByteArray).length) c131_174,vi ((putErr (mdK V) (V.getD 0 0) (mdSs V n i) (i:Int) (mdI V n i)))] hst175 fun W176 hst176=>?_
    refine then_normal (wp_seq (sqr (sqp [.k 132 (.pointer (some ⟨B14_175,3,none⟩))] ?_)))
    refine sqld 8 hst176 ?_
    have hd180:((putErr (mdK V) (V.getD 0 0) (mdSs V n i) (i:Int) (mdI V n i))==0)=false:=(by simpa using hpe)
    refine sqp [.e 134 (.bool ((putErr (mdK V) (V.getD 0 0) (mdSs V n i) (i:Int) (mdI V n i))==0)) (.bool false) (congrArg Value.bool hd180)] ?_
    refine then_normal (wcf rfl (wp_skip (blk_normal (then_normal (sqr (sqp [.m 70 9,sI 71 ((i:Int)+1) (by omega), .m 9 71] ?_))))))
    refine then_normal ?_
    rw [← mdSs_no (by omega) hpe] at hst176
    refine ⟨12 - ((i+1)),by omega,?_⟩
    exact ⟨(i+1),IA,IC,by omega,by omega,rfl,(by kernel_rfl),hst176.pk [0,1,2,3,4,5,6]⟩
  have hs78p:=hs78
  simp only [zB] at hs78p
  refine wp_exit (then_exit (then_exit (blk_eq (then_normal ?_))))
  obtain rfl:i=12:=by omega
  obtain ⟨its,hits,hdes⟩:=its_of (hV ▸ mdSs_desc s n 12 (by omega):∀ x∈mdSs V n 12,∃ o,Desc x o)
  rw [← hits,List.length_map,← strs_map] at hst69
  refine sqr (sqp [.k 137 (vp B3_3)] ?_)
  refine sqld 1 hst69 ?_
  refine sqlb 6 3 hst69 ?_
  refine sqli 64 3 1 (pgC (PgD.mk (mdK V) (V.getD 0 0) IA IC its)) hst69 (@fun ρ β W X cx=>by have fF139:ρ (.tmp 139)= .agg #[vi (mdK V),vi (V.getD 0 0), .slice IA its.length IC]:=(cx.ou 139); simp [go_sem,fF139,pgC]) fun B140_187 W187 hst187=>?_
  refine sqap (n+1) ((Ps++[(PgD.mk (mdK V) (V.getD 0 0) IA IC its)]).flatMap pgC) 2 hst187 Tryz.infoPage (fun cx=>(At.of_ownN (cx.ri 7 rfl))) (h1:=by simp [pgC,Value.oneCell']) (hxs:=pgs_snoc _ _) fun A141_188 c141_188 W188 hst188=>?_
  refine sqp [.k 142 (vp B3_3)] ?_
  refine sqst (n:=1) 1 #[.slice A141_188 (n+1) c141_188] hst188 fun W190 hst190=>?_
  refine blk_normal (then_normal (sqr (sqp [.m 18 5,sI 19 ((n:Int)+1) (by omega), .m 5 19] ?_)))
  refine then_normal ?_
  have hm194:=St.mergeP (Ps:=Ps) (p:=(PgD.mk (mdK V) (V.getD 0 0) IA IC its)) (L:=[eB B2_1 30 #[.slice none 0 0],eB B3_3 30 #[.slice A141_188 (n+1) c141_188],eO 64 3 (.slice A141_188 (n+1) c141_188) (n+1) ((Ps++[(PgD.mk (mdK V) (V.getD 0 0) IA IC its)]).flatMap pgC),eB B6_14 220 (V.map (Value.int .i64)).toArray,eB B8_46 64 #[vi (mdK V),vi (V.getD 0 0), .slice IA its.length IC],eO 64 3 (.slice ((some ⟨B140_187,0,none⟩)) 1 1) 1 (pgC (PgD.mk (mdK V) (V.getD 0 0) IA IC its))]) (hst190.pick [0,1,2,4,6,7,3,5] (by decide) rfl)
  refine ⟨5 - ((n+1)),by omega,?_⟩
  exact ⟨(n+1),A141_188,c141_188,(Ps++[(PgD.mk (mdK V) (V.getD 0 0) IA IC its)]),by omega,by rw [List.length_append,hPl]; rfl,md_snoc hPl hM ⟨by rw [hV],by rw [hV],by rw [hV]; exact hits,hdes⟩,rfl,(by kernel_rfl),hm194.pk [0,1,2,6]⟩
 refine wp_exit (then_exit (then_exit (blk_eq (then_normal (wp_seq (sqr ?_))))))
 refine sqlb 1 1 hst9 ?_
 refine sqst (n:=1) 0 #[.slice PA n PC] hst9 fun W196 hst196=>?_
 refine then_normal (wp_ret ?_)
 refine bpr (.agg #[.slice PA n PC]) (results_cell (n:=1) Tryz.results48 rfl (by kernel_rfl) (by kernel_rfl) (hst196.blk 0 rfl) rfl) ?_
 exact St.made (by omega) hPl hM (hst196.pick [3,2] (by decide) rfl)
end
section
open Go.RowKit
def GotI (k l:Int) (its:List Itm) (w:World) (e:Ending) (w':World):Prop:=∃ A c,e= .returned (.agg #[.int .i64 k, .int .i64 l, .slice A its.length c, .int .i64 0])∧
 w'.ownsRow w.heap.size 9 1 (.slice A its.length c) its.length (strs its)∧Ext w w'
theorem rput_i {k l:Int} {A:Option Addr} {c:Nat} {its:List Itm} {slot:Int} {i:Itm} {w:World} (hA:At w A (strs its)) (hr:rightB k l (fstI its)=true) (hc:its.length≤c) (hss:i.1.size≤400) (h:putErr k l (fstI its) slot i.1=0):
  Calls Tryz.prog 120 #[.agg #[.int .i64 k, .int .i64 l, .slice A its.length c], .int .i64 slot, .string i.1] w (GotI k l (putI its slot.toNat i) w):=by
 rw [strs_map] at hA
 have h2:=rput_ok (c:=c) hA (right_small' hr) (by rw [List.length_map]; exact hc) hss h
 rw [List.length_map] at h2
 refine h2.mono fun e w' hp=>?_
 obtain ⟨A',c',he,ho,hx⟩:=hp
 have e1:plainL (withL (its.map Prod.fst) slot.toNat i.1)=(putI its slot.toNat i).map Prod.fst:=(putI_fst its slot.toNat i).symm
 rw [e1,List.length_map] at he ho
 exact ⟨A',c',he,by rw [strs_map]; exact ho,hx⟩
theorem rright_i {k l:Int} {A:Option Addr} {c:Nat} {its:List Itm} {w:World} (hA:At w A (strs its)) (hr:rightB k l (fstI its)=true) (hc:its.length≤c):
  Calls Tryz.prog 194 #[.agg #[.int .i64 k, .int .i64 l, .slice A its.length c]] w (Ret (.bool true) w):=by
 rw [strs_map] at hA
 have h2:=rright_any k l A its.length c (fstI its) w (fstI_len its).symm hA (right_small' hr) hc
 rw [hr] at h2
 exact h2
/-- the pages that Do leaves: of the old ones and of new ones Qs -/
def eDo (Ps:List PgD) (H:List PgI) (n:Nat) (A:Option Addr) (fp:List Nat):Ent:=⟨fp,fun W=>∃ (c:Nat) (Cs Qs:List PgD),Cs.map absP=H∧(∀ p∈Cs,p∈Ps∨p∈Qs)∧fp=(eM (Qs.map entP++[eO 64 3 (.slice A n c) n (Cs.flatMap pgC)])).fp∧(eM (Qs.map entP++[eO 64 3 (.slice A n c) n (Cs.flatMap pgC)])).holds W⟩
theorem eDo_loc (Ps:List PgD) (H:List PgI) (n:Nat) (A:Option Addr) (fp:List Nat):(eDo Ps H n A fp).loc:=fun W W' hk h=>by
 obtain ⟨c,Cs,Qs,h1,h2,h3,h4⟩:=h
 exact ⟨c,Cs,Qs,h1,h2,h3,eM_loc _ W W' (fun k hk'=>hk k (by rw [eDo,h3]; exact hk')) h4⟩
theorem ePs_at {Qs:List PgD} {W:World} (h:(ePs Qs).holds W):∀ p∈Qs,At W p.A (strs p.its)∧p.its.length≤p.c:=fun p hp=>by
 have h5:=(h (entP p) (List.mem_map.2 ⟨_,hp,rfl⟩)).1
 exact ⟨At.of_own h5,eown_cap h5⟩
theorem eDo_at {Ps:List PgD} {H:List PgI} {n:Nat} {A A0:Option Addr} {fp:List Nat} {W:World} (h:(eDo Ps H n A fp).holds W) (hP:PgsAt W A0 Ps) (hH:okH H) (hl:H.length≤1000):∃ Ps',Ps'.map absP=H∧PgsAt W A Ps':=by
 obtain ⟨c,Cs,Qs,h1,h2,h3,h4⟩:=h
 refine ⟨Cs,h1,?_,by rw [← h1,List.length_map] at hl; exact hl,fun p hp=>?_⟩
 ·have h5:=(h4 _ (List.mem_append_right _ (List.mem_singleton.2 rfl))).1
  exact At.of_ownN h5
 ·rcases h2 p hp with h6 | h6
  ·exact hP.its p h6
  ·have h7:=ePs_at (W:=W) (Qs:=Qs) (fun e he=>h4 e (List.mem_append_left _ he)) p h6
   have h8:okP (absP p):=hH _ (by rw [← h1]; exact List.mem_map.2 ⟨_,hp,rfl⟩)
   exact ⟨h7.1,h8.its,h7.2,h8.2⟩
def DoPost (Ps:List PgD) (H:List PgI) (n:Nat) (w:World) (e:Ending) (w':World):Prop:=∃ A c fp,e= .returned (.tuple #[.agg #[.slice A n c], .bool true])∧St w [] [eDo Ps H n A fp] w'
theorem St.done {w0 W:World} {Ps Cs Qs:List PgD} {H:List PgI} {A:Option Addr} {c n:Nat} (h1:Cs.map absP=H) (h2:∀ p∈Cs,p∈Ps∨p∈Qs) (h:St w0 [] [ePs Qs,eO 64 3 (.slice A n c) n (Cs.flatMap pgC)] W):DoPost Ps H n w0 (.returned (.tuple #[.agg #[.slice A n c], .bool true])) W:=by
 have h3:=St.merge (L:=[]) h
 exact ⟨A,c, _,rfl,St.repl (L1:=[]) (L2:=[]) h3 rfl (fun hh=>⟨c,Cs,Qs,h1,h2,rfl,hh⟩) (eDo_loc _ _ _ _ _)⟩
theorem mem_set_new {Ps Cs Qs:List PgD} (hC:∀ p∈Cs,p∈Ps∨p∈Qs) (n:Nat) (q:PgD):∀ p∈Cs.set n q,p∈Ps∨p∈Qs++[q]:=fun p hp=>by
 rcases List.mem_or_eq_of_mem_set hp with h | rfl
 ·exact (hC p h).imp id (List.mem_append_left _)
 ·exact .inr (by simp)
theorem map_set' (Cs:List PgD) (n:Nat) (q:PgD):(Cs.set n q).map absP=(Cs.map absP).set n (absP q):=List.map_set
theorem rdo3_kind (k l:Int) (A:Option Addr) (c:Nat) (its:List Itm) (pg lsn:Int) (w:World) (hA:At w A (strs its)) (hr:rightB k l (fstI its)=true) (hc:its.length≤c) (hl:0≤lsn∧lsn≤2147483647):
  Calls Tryz.prog 128 #[.agg #[.int .i64 k, .int .i64 l, .slice A its.length c], .agg #[.int .i64 pg, .int .i64 (-1), .string ((⟨#[1]⟩:ByteArray))], .int .i64 lsn] w (GotI 1 lsn [] w):=by
 go_enter Tryz.func128,Tryz.ntmps128
 have hst0:=St.start w
 refine wp_seq (sqr ?_)
 refine sqbx #[vi k,vi l, .slice A its.length c] hst0 fun B3_1 W1 hst1=>?_
 refine sqbx #[vi pg,vi (-1), .string ((⟨#[1]⟩:ByteArray))] hst1 fun B4_2 W2 hst2=>?_
 refine sqal #[vi 0,vi 0, .slice none 0 0,vi 0] hst2 fun B6_3 W3 hst3=>?_
 refine then_normal (wp_seq (wp_seq (sqr ?_)))
 refine sqlb 0 3 hst3 ?_
 refine sqk (.bool true) hst3 (fun cx=>⟨_,rright_i (hA.ext cx.upd.to_ext) hr hc,(map1 (cx.ou 8))⟩) fun W5 hst5=>?_
 refine sqp [.k 10 (.bool false)] ?_
 refine then_normal (wcf rfl (wp_skip (then_normal (wp_seq (wp_seq (sqr (sqp [.m 12 2, .k 13 (.bool (decide (lsn < 0))), .m 14 13] ?_)))))))
 refine sqw 14 [15,16] rfl (fun _=>sqp [.m 15 2, .k 16 (.bool (decide (2147483647 < lsn)))] sqe) ?_
 have hd13:((decide (lsn < 0))||(decide (2147483647 < lsn)))=false:=(by rw [Bool.or_eq_false_iff,decide_eq_false_iff_not,decide_eq_false_iff_not]; omega)
 refine sqp [sPok 17 (decide (lsn < 0)) (decide (2147483647 < lsn)) false hd13] ?_
 refine then_normal (wcf rfl (wp_skip (then_normal (wp_seq (wp_seq (sqr (sqp [.k 19 (.pointer (some ⟨B4_2,1,none⟩))] ?_)))))))
 refine sqld 1 hst5 ?_
 refine sqp [.k 21 (.bool true)] ?_
 refine then_normal (wct rfl (wp_seq (wp_seq (sqr (sqp [.k 22 (.pointer (some ⟨B4_2,2,none⟩))] ?_)))))
 refine sqld 1 hst5 ?_
 refine sqp [.k 24 (vi 1), .k 25 (.bool false), .k 26 (.bool false)] ?_
 refine sqgy 26 [27,28,29,30] rfl rfl ?_
 refine sqp [.k 27 (.pointer (some ⟨B4_2,2,none⟩))] ?_
 refine sqld 1 hst5 ?_
 refine sql (.int .u8 1) hst5 (fun cx=>run_indexStr (l:=[1]) (m:=0) rfl (by kernel_rfl) (cx.ou 28) (cx.co _) rfl (by decide)) ?_
 refine sqp [.k 30 (.bool false)] ?_
 refine sqp [.k 31 (.bool false)] ?_
 refine then_normal (wcf rfl (wp_skip (then_normal (wp_seq (sqr (sqp [.k 33 (.pointer (some ⟨B4_2,2,none⟩))] ?_))))))
 refine sqld 1 hst5 ?_
 refine sql (.int .u8 1) hst5 (fun cx=>run_indexStr (l:=[1]) (m:=0) rfl (by kernel_rfl) (cx.ou 34) (cx.co _) rfl (by decide)) ?_
 refine sqp [sW 36 .i64 1 1 (by decide), .m 37 2, .k 38 (.agg #[vi 1,vi lsn, .slice none 0 0]), .k 39 (.agg #[vi 1,vi lsn, .slice none 0 0,vi 0])] ?_
 refine sqst (n:=4) 2 #[vi 1,vi lsn, .slice none 0 0,vi 0] hst5 fun W34 hst34=>?_
 refine then_normal (wp_ret (then_ret ?_))
 refine bpr (.agg #[vi 1,vi lsn, .slice none 0 0,vi 0]) (results_cell (n:=4) Tryz.results128 rfl (by kernel_rfl) (by kernel_rfl) (hst34.blk 2 rfl) rfl) ?_
 exact ⟨none,0,rfl,World.ownsRow_nil _ _ _ _,hst34.ext⟩
theorem rdo3_put (k l:Int) (A:Option Addr) (c:Nat) (its:List Itm) (pg slot:Int) (s:ByteArray) (od:Option VerD) (lsn:Int) (w:World) (hA:At w A (strs its)) (hr:rightB k l (fstI its)=true) (hc:its.length≤c) (hl:0≤lsn∧lsn≤2147483647) (hs:s.size≤400) (hp:putErr k l (fstI its) slot s=0) (hn1:slot≠ -1):
  Calls Tryz.prog 128 #[.agg #[.int .i64 k, .int .i64 l, .slice A its.length c], .agg #[.int .i64 pg, .int .i64 slot, .string s], .int .i64 lsn] w (GotI k lsn (putI its slot.toNat (s,od)) w):=by
 go_enter Tryz.func128,Tryz.ntmps128
 have hst0:=St.start w
 refine wp_seq (sqr ?_)
 refine sqbx #[vi k,vi l, .slice A its.length c] hst0 fun B3_1 W1 hst1=>?_
 refine sqbx #[vi pg,vi slot, .string s] hst1 fun B4_2 W2 hst2=>?_
 refine sqal #[vi 0,vi 0, .slice none 0 0,vi 0] hst2 fun B6_3 W3 hst3=>?_
 refine then_normal (wp_seq (wp_seq (sqr ?_)))
 refine sqlb 0 3 hst3 ?_
 refine sqk (.bool true) hst3 (fun cx=>⟨_,rright_i (hA.ext cx.upd.to_ext) hr hc,(map1 (cx.ou 8))⟩) fun W5 hst5=>?_
 refine sqp [.k 10 (.bool false)] ?_
 refine then_normal (wcf rfl (wp_skip (then_normal (wp_seq (wp_seq (sqr (sqp [.m 12 2, .k 13 (.bool (decide (lsn < 0))), .m 14 13] ?_)))))))
 refine sqw 14 [15,16] rfl (fun _=>sqp [.m 15 2, .k 16 (.bool (decide (2147483647 < lsn)))] sqe) ?_
 have hd13:((decide (lsn < 0))||(decide (2147483647 < lsn)))=false:=(by rw [Bool.or_eq_false_iff,decide_eq_false_iff_not,decide_eq_false_iff_not]; omega)
 refine sqp [sPok 17 (decide (lsn < 0)) (decide (2147483647 < lsn)) false hd13] ?_
 refine then_normal (wcf rfl (wp_skip (then_normal (wp_seq (wp_seq (sqr (sqp [.k 19 (.pointer (some ⟨B4_2,1,none⟩))] ?_)))))))
 refine sqld 1 hst5 ?_
 have hd17:(slot==(-1))=false:=(by simpa using hn1)
 refine sqp [.e 21 (.bool (slot==(-1))) (.bool false) (congrArg Value.bool hd17)] ?_
 refine then_normal (wcf rfl (wp_skip (then_normal (wp_seq (sqr ?_)))))
 refine sqlb 0 3 hst5 ?_
 refine sqp [.k 41 (.pointer (some ⟨B4_2,1,none⟩))] ?_
 refine sqld 1 hst5 ?_
 refine sqp [.k 43 (.pointer (some ⟨B4_2,2,none⟩))] ?_
 refine sqld 1 hst5 ?_
 refine sqk2 (fun A45_23 c45_23=> .agg #[vi k,vi l, .slice A45_23 ((putI its slot.toNat (s,od)).length) c45_23,vi 0]) (fun A45_23 c45_23=>eO 9 1 (.slice A45_23 ((putI its slot.toNat (s,od)).length) c45_23) ((putI its slot.toNat (s,od)).length) (strs (putI its slot.toNat (s,od)))) hst5 (fun cx=>⟨_,(rput_i (i:=(s,od)) (hA.ext cx.upd.to_ext) hr hc hs hp).mono (by rintro e W1 ⟨A4,c4,rfl,ho,hx⟩; exact ⟨_, _,rfl,St.one hx (eO_new ho)⟩),(map3 (cx.ou 40) (cx.ou 42) (cx.ou 44))⟩) fun A45_23 c45_23 W23 hst23=>?_
 refine sqal #[vi 0,vi 0, .slice none 0 0,vi 0] hst23 fun B7_24 W24 hst24=>?_
 refine sqst (n:=4) 4 #[vi k,vi l, .slice A45_23 ((putI its slot.toNat (s,od)).length) c45_23,vi 0] hst24 fun W25 hst25=>?_
 refine then_normal (wp_seq (wp_seq (sqr (sqp [.k 46 (.pointer (some ⟨B7_24,3,none⟩))] ?_))))
 refine sqld 4 hst25 ?_
 refine sqp [.k 48 (.bool true)] ?_
 refine then_normal (wct rfl (sqr (sqp [.m 49 2, .k 50 (vp B7_24), .k 51 (.pointer (some ⟨B7_24,1,none⟩))] ?_)))
 refine sqst (n:=1) 4 #[vi k,vi lsn, .slice A45_23 ((putI its slot.toNat (s,od)).length) c45_23,vi 0] hst25 fun W32 hst32=>?_
 refine then_normal (wp_seq (sqr ?_))
 refine sqlb 4 4 hst32 ?_
 refine sqst (n:=4) 2 #[vi k,vi lsn, .slice A45_23 ((putI its slot.toNat (s,od)).length) c45_23,vi 0] hst32 fun W34 hst34=>?_
 refine then_normal (wp_ret ?_)
 refine bpr (.agg #[vi k,vi lsn, .slice A45_23 ((putI its slot.toNat (s,od)).length) c45_23,vi 0]) (results_cell (n:=4) Tryz.results128 rfl (by kernel_rfl) (by kernel_rfl) (hst34.blk 2 rfl) rfl) ?_
 exact ⟨_, _,rfl,hst34.own' 3 rfl,hst34.ext⟩
end
section
open Go.RowKit
theorem rdo3_kind' {k l:Int} {A:Option Addr} {c:Nat} {its:List Itm} {pg slot lsn:Int} {s:ByteArray} {w:World} (h1:slot= -1) (h2:s=(⟨#[1]⟩:ByteArray)) (hA:At w A (strs its)) (hr:rightB k l (fstI its)=true) (hc:its.length≤c) (hl:0≤lsn∧lsn≤2147483647):
  Calls Tryz.prog 128 #[.agg #[.int .i64 k, .int .i64 l, .slice A its.length c], .agg #[.int .i64 pg, .int .i64 slot, .string s], .int .i64 lsn] w (GotI 1 lsn [] w):=by
 subst h1 h2
 exact rdo3_kind k l A c its pg lsn w hA hr hc hl
theorem do1_cases {lsn:Int} {p p':PgI} {e:EdI} (h:do1 lsn p e=some p'):(e.2.1= -1∧e.2.2.1=(⟨#[1]⟩:ByteArray)∧p'=(1,lsn,[]))∨(e.2.1≠ -1∧putErr p.1 p.2.1 (fstI p.2.2) e.2.1 e.2.2.1=0∧p'=(p.1,lsn,putI p.2.2 e.2.1.toNat e.2.2)):=by
 rw [do1] at h
 split at h
 ·rename_i h1
  split at h
  ·rename_i h2
   exact .inl ⟨h1,h2,(Option.some.inj h).symm⟩
  ·cases h
 ·rename_i h1
  split at h
  ·rename_i h2
   exact .inr ⟨h1,h2,(Option.some.inj h).symm⟩
  ·cases h
theorem pgC_flat (Ps:List PgD):(Ps.flatMap pgC).length=Ps.length*3:=by
 induction Ps with
 | nil=>rfl
 | cons p Ps ih=>rw [List.flatMap_cons,List.length_append,ih,pgC_len,List.length_cons]; omega
theorem pgC_one (Ps:List PgD):∀ u∈Ps.flatMap pgC,Value.oneCell' u=true:=fun u hu=>by
 obtain ⟨p, _,hp⟩:=List.mem_flatMap.1 hu
 simp only [pgC,List.mem_cons,List.not_mem_nil,or_false] at hp
 rcases hp with rfl | rfl | rfl<;>rfl
theorem mem_getD {T:Type} {l:List T} {n:Nat} {d p:T} (h:n < l.length) (hp:l.getD n d=p):l[n]? =some p∧p∈l:=by
 rw [← hp,List.getD_eq_getElem?_getD,List.getElem?_eq_getElem h]
 exact ⟨rfl,List.getElem_mem _⟩
theorem pgm_its {Ps Cs Qs:List PgD} {W:World} {A0:Option Addr} (hP:PgsAt W A0 Ps) (hQ:(ePs Qs).holds W) (hC:∀ p∈Cs,p∈Ps∨p∈Qs) {p:PgD} (hm:p∈Cs):At W p.A (strs p.its):=by
 rcases hC _ hm with h | h
 ·exact (hP.its _ h).1
 ·exact (ePs_at hQ _ h).1
theorem pgm_cap {Ps Cs Qs:List PgD} {W:World} {A0:Option Addr} (hP:PgsAt W A0 Ps) (hQ:(ePs Qs).holds W) (hC:∀ p∈Cs,p∈Ps∨p∈Qs) {p:PgD} (hm:p∈Cs):p.its.length≤p.c:=by
 rcases hC _ hm with h | h
 ·exact (hP.its _ h).2.2.1
 ·exact (ePs_at hQ _ h).2
theorem rdo9_any (pa:Addr) (pc:Nat) (Ps:List PgD) (LA:Option Addr) (lc:Nat) (es:List EdI) (lsn:Int) (H':List PgI) (w:World) (hP:PgsAt w (some pa) Ps) (hL:At w LA (es.flatMap cellsI)) (hel:es.length≤100000) (hed:∀ e∈es,Desc e.2.2.1 e.2.2.2) (hl:0≤lsn∧lsn≤2147483647) (hok:okH (Ps.map absP)) (hdo:doL lsn (Ps.map absP) es=some H'):
  Calls Tryz.prog 58 #[.agg #[.slice ((some pa)) Ps.length pc], .slice LA es.length lc, .int .i64 lsn] w (DoPost Ps H' Ps.length w):=by
 have hPl:=hP.len
 go_enter Tryz.func58,Tryz.ntmps58
 have hst0:=St.start w
 refine wp_seq (sqr ?_)
 refine sqbx #[.slice ((some pa)) Ps.length pc] hst0 fun B3_1 W1 hst1=>?_
 refine sqal #[.slice none 0 0] hst1 fun B6_2 W2 hst2=>?_
 refine sqp [.k 7 (.bool false)] ?_
 refine then_normal (wp_seq (sqr ?_))
 refine sqli 64 3 0 [] hst2 (@fun ρ β W X cx=>by simp [go_sem]) fun B11_4 W4 hst4=>?_
 refine sqp [.k 12 (vp B3_1)] ?_
 refine sqld 0 hst4 ?_
 refine sqap Ps.length (Ps.flatMap pgC) 2 hst4 Tryz.infoPage (fun cx=>(hP.at_.ext cx.upd.to_ext)) (hl:=pgC_flat _) (h1:=pgC_one _) fun A14_7 c14_7 W7 hst7=>?_
 refine sqp [.k 15 (.agg #[.slice A14_7 Ps.length c14_7])] ?_
 refine sqal #[.slice none 0 0] hst7 fun B8_9 W9 hst9=>?_
 refine sqst (n:=1) 3 #[.slice A14_7 Ps.length c14_7] hst9 fun W10 hst10=>?_
 refine then_normal (wp_seq (wp_seq (sqr (sqp [.k 9 (vi 0)] ?_))))
 refine then_normal (wp_block ?_)
 have hn_12:St _ _ (_++[ePs []]) _:=St.emNil hst10
 refine wp_loopT (fun t_ mz az W=>∃ j:Nat,∃ Cs:List PgD,∃ Qs:List PgD,∃ OA:Option Addr,∃ OC:Nat,j≤es.length∧Cs.length=Ps.length∧(∀ p∈Cs,p∈Ps∨p∈Qs)∧doL lsn (Cs.map absP) (es.drop j)=some H'∧okH (Cs.map absP)∧mz=es.length - j∧az=⟨(ovr (jv az) [(7,7,1,[]),(1,9,0,[vi ((j:Int))]),(0,10,1,[]),(5,16,53,[])] t_).toArray,[]⟩∧St w [] [eB B3_1 30 #[.slice ((some pa)) Ps.length pc],eB B6_2 30 #[.slice none 0 0],eB B8_9 30 #[.slice OA Ps.length OC],eO 64 3 (.slice OA Ps.length OC) Ps.length (Cs.flatMap pgC),ePs Qs] W) (es.length - 0) ?_ ?_
 · -- the loop begins
   exact ⟨0,Ps,[],A14_7,c14_7,Nat.zero_le _,rfl,fun p hp=> .inl hp,hdo,hok,rfl,(by kernel_rfl),hn_12.pk [0,1,3,2,4]⟩
 rintro n13 a13 W13 ⟨j,Cs,Qs,OA,OC,hj,hCl,hCs,hdj,hokC,rfl,hj_,hst13⟩
 refine ovz hj_ fun u13_=>?_
 refine wp_seq (wp_seq (sqr (sqp [.m 16 9, .m 17 1, .k 18 (vi ((es.length:Int))), .k 19 (.bool (decide ((j:Int) < (es.length:Int))))] ?_)))
 refine then_normal (wds (fun hs18 hs18p=>?_) fun hs18 hs18p=>?_)
 ·refine wp_skip (then_normal (wp_seq (wp_block (wp_seq (wp_seq ?_)))))
  obtain ⟨hN5,p5,hd5,hr5⟩:=doL_step (by omega) hdj
  obtain ⟨dd,hN_dd⟩:∃ z,es.getD j ei0=z:=⟨_,rfl⟩
  rw [hN_dd] at hN5 hd5 hr5
  rw [List.length_map,hCl] at hN5
  have hmdd:=mem_getD (by omega) hN_dd
  obtain ⟨pg,hN_pg⟩:∃ z,Cs.getD (dd.1).toNat p0=z:=⟨_,rfl⟩
  have hmpg:=mem_getD (by omega) hN_pg
  rw [absP_get,hN_pg] at hd5
  have hpok:okP (absP pg):=hokC _ (List.mem_map.2 ⟨_,hmpg.2,rfl⟩)
  have hdes:=hed _ hmdd.2
  have h5ok:=hpok.do hl hdes hd5
  have hdle:=hdes.le
  have hd20:((decide (dd.1 < 0))||(decide ((Ps.length:Int)≤dd.1)))=false:=(by rw [Bool.or_eq_false_iff,decide_eq_false_iff_not,decide_eq_false_iff_not]; omega)
  refine wp_region_Z [0,0,3,7,15,31,63,127,127,511,1023,2047,127,4223,12415,32767,65535] [[],[],[],[],[],[],[],[],[],[],[],[],[],[2]] [.k 22 (.slice LA es.length lc), .k 23 (vi ((j:Int))), .c 24 (.pointer (some ((ad LA).add (j*3)))), .c 25 (.pointer (some ((ad LA).add (j*3+0)))), .c 26 (vi dd.1), .k 27 (.bool (decide (dd.1 < 0))), .k 28 (.bool (decide (dd.1 < 0))), .z 29 (!(decide (dd.1 < 0))) (.slice LA es.length lc), .z 30 (!(decide (dd.1 < 0))) (vi ((j:Int))), .y 31 (!(decide (dd.1 < 0))) (.pointer (some ((ad LA).add (j*3)))), .y 32 (!(decide (dd.1 < 0))) (.pointer (some ((ad LA).add (j*3+0)))), .y 33 (!(decide (dd.1 < 0))) (vi dd.1), .z 34 (!(decide (dd.1 < 0))) (vp B8_9), .y 35 (!(decide (dd.1 < 0))) (.slice OA Ps.length OC), .z 36 (!(decide (dd.1 < 0))) (vi ((Ps.length:Int))), .z 37 (!(decide (dd.1 < 0))) (.bool (decide ((Ps.length:Int)≤dd.1))),tOk' 38 (decide (dd.1 < 0)) (decide ((Ps.length:Int)≤dd.1)) false hd20] [0,1,2,3,4] [2,3,4,9,10,11,13] [(22,0,17,39)] hst13 ?_ fun W19 hst19=>?_
  ·refine ⟨?_,?_,?_,?_,?_,?_,?_,trivial⟩
   ·exact xs4 rfl id fun cx=>run_indexSlM (e:=49) (m:=j) (sz:=3) rfl (by kernel_rfl) (by kernel_rfl) (cx.an 0) (cx.an 1) (by omega) (by omega) (hL.ext cx.upd.to_ext) (flatPos (sz:=3) cellsI_len (by decide) (by omega))
   ·exact xs4 rfl id fun cx=>run_fieldAd rfl (by kernel_rfl) (cx.an 2)
   ·exact xs4 rfl id fun cx=>run_load1 rfl (by kernel_rfl) (cx.an 3) (At.eltc (f:=cellsI) (k:=0) cellsI_len (hL.ext cx.upd.to_ext) hmdd.1 rfl)
   ·exact m2 rfl (fun _ _ _ h=>h) (fun cx=>(cx.an 6)) fun cx hq=>run_indexSlM (e:=49) (m:=j) (sz:=3) rfl (by kernel_rfl) (by kernel_rfl) (mbv (cx.an 7) hq) (mbv (cx.an 8) hq) (by have hq_:=hq; simp only [zB] at hq_; omega) (by have hq_:=hq; simp only [zB] at hq_; omega) (hL.ext cx.upd.to_ext) (flatPos (sz:=3) cellsI_len (by decide) (by have hq_:=hq; simp only [zB] at hq_; omega))
   ·exact m2 rfl (fun _ _ _ h=>h) (fun cx=>(cx.an 6)) fun cx hq=>run_fieldAd rfl (by kernel_rfl) (mbv (cx.an 9) hq)
   ·exact m2 rfl (fun _ _ _ h=>h) (fun cx=>(cx.an 6)) fun cx hq=>run_load1 rfl (by kernel_rfl) (mbv (cx.an 10) hq) (At.eltc (f:=cellsI) (k:=0) cellsI_len (hL.ext cx.upd.to_ext) hmdd.1 rfl)
   ·exact m2 rfl (fun _ _ _ h=>h) (fun cx=>(cx.an 6)) fun cx hq=>run_load1 rfl (by kernel_rfl) (mbv (cx.an 12) hq) ((cx.bi 2 rfl).cell 0)
  refine then_normal (wcf rfl (wp_skip (then_normal (wp_seq ?_))))
  rcases do1_cases hd5 with ⟨hs1,hs2,rfl⟩ | ⟨hs1,hs2,rfl⟩
  ·refine wp_region_Y [0,1,0,0,12,28,60,127,255,0,0,1536,3584,0,16383,0,65535] [[],[2],[],[],[],[],[],[3],[3],[],[],[],[],[],[4],[],[6]] [[],[],[],[],[],[],[],[],[],[],[],[],[],[],[5],[6],[7]] [[],[],[],[],[],[],[],[],[],[],[],[],[],[],[],[],[6]] [.k 40 (vp B8_9), .c 41 (.slice OA Ps.length OC), .k 42 (.slice LA es.length lc), .k 43 (vi ((j:Int))), .c 44 (.pointer (some ((ad LA).add (j*3)))), .c 45 (.pointer (some ((ad LA).add (j*3+0)))), .c 46 (vi dd.1), .c 47 (.pointer (some ((ad OA).add (((dd.1).toNat)*3)))), .c 48 (.agg #[vi pg.k,vi pg.l, .slice pg.A pg.its.length pg.c]), .k 49 (.slice LA es.length lc), .k 50 (vi ((j:Int))), .c 51 (.pointer (some ((ad LA).add (j*3)))), .c 52 (.agg #[vi dd.1,vi dd.2.1, .string dd.2.2.1]), .k 53 (vi lsn), .a 54, .a 10, .n] (fun ix σ β X=>match ix with | 0=>True | 1=>True | 2=>True | 3=>True | 4=>True | 5=>True | 6=>True | 7=>True | 8=>True | 9=>True | 10=>True | 11=>True | 12=>True | 13=>True | 14=>σ 54= .agg #[vi 1,vi lsn, .slice (sA (tg (β 54) 2)) (([]:List Itm).length) (sC (tg (β 54) 2)),vi 0]∧X 5=eO 9 1 (.slice (sA (tg (β 54) 2)) (([]:List Itm).length) (sC (tg (β 54) 2))) (([]:List Itm).length) (strs ([]:List Itm)) | 15=>σ 10=vp (pb (β 10))∧X 6=eB (pb (β 10)) 224 #[vi 0,vi 0, .slice none 0 0,vi 0] | 16=>X 7=eB (pb (β 10)) 224 #[vi 1,vi lsn, .slice (sA (tg (β 54) 2)) (([]:List Itm).length) (sC (tg (β 54) 2)),vi 0] | _=>True) [0,1,2,3,4,5,7] [1,4,5,6,7,8,11,12,14,15,16] [(10,15,1,11),(29,0,15,44)] hst19 ?_ ?_ ?_
   ·exact fun ix _ _ _ _ _ _ hs hb hx h=>match ix,h with
    | 14,h=>by dsimp only; rw [← hs 54 rfl,← hb 54 rfl,← hx 5 rfl]; exact h
    | 15,h=>by dsimp only; rw [← hs 10 rfl,← hb 10 rfl,← hx 6 rfl]; exact h
    | 16,h=>by dsimp only; rw [← hb 10 rfl,← hb 54 rfl,← hx 7 rfl]; exact h
    | 0, _ | 1, _ | 2, _ | 3, _ | 4, _ | 5, _ | 6, _ | 7, _ | 8, _ | 9, _ | 10, _ | 11, _ | 12, _ | 13, _ | _+17, _=>trivial
   ·refine ⟨?_,?_,?_,?_,?_,?_,?_,?_,?_,?_,?_,trivial⟩
    ·exact xs4 rfl id fun cx=>run_load1 rfl (by kernel_rfl) (cx.an 0) ((cx.bi 2 rfl).cell 0)
    ·exact xs4 rfl id fun cx=>run_indexSlM (e:=49) (m:=j) (sz:=3) rfl (by kernel_rfl) (by kernel_rfl) (cx.an 2) (cx.an 3) (by omega) (by omega) (hL.ext cx.upd.to_ext) (flatPos (sz:=3) cellsI_len (by decide) (by omega))
    ·exact xs4 rfl id fun cx=>run_fieldAd rfl (by kernel_rfl) (cx.an 4)
    ·exact xs4 rfl id fun cx=>run_load1 rfl (by kernel_rfl) (cx.an 5) (At.eltc (f:=cellsI) (k:=0) cellsI_len (hL.ext cx.upd.to_ext) hmdd.1 rfl)
    ·exact xs4 rfl id fun cx=>run_indexSlM (e:=64) (m:=(dd.1).toNat) (sz:=3) rfl (by kernel_rfl) (by kernel_rfl) (cx.an 1) (cx.an 6) (by omega) (by omega) (At.of_ownN (cx.ri 3 rfl)) (flatPos (sz:=3) pgC_len (by decide) (by omega))
    ·exact xs4 rfl id fun cx=>run_loadElt (f:=pgC) (m:=((dd.1).toNat)) (sz:=3) (off:=0) (n:=3) rfl (by kernel_rfl) (by kernel_rfl) (cx.an 7) rfl pgC_len (At.of_ownN (cx.ri 3 rfl)) hmpg.1 (fun k hk=>match k,hk with | 0, _=>rfl | 1, _=>rfl | 2, _=>rfl | k+3,hk=>absurd hk (by omega))
    ·exact xs4 rfl id fun cx=>run_indexSlM (e:=49) (m:=j) (sz:=3) rfl (by kernel_rfl) (by kernel_rfl) (cx.an 9) (cx.an 10) (by omega) (by omega) (hL.ext cx.upd.to_ext) (flatPos (sz:=3) cellsI_len (by decide) (by omega))
    ·exact xs4 rfl id fun cx=>run_loadElt (f:=cellsI) (m:=j) (sz:=3) (off:=0) (n:=3) rfl (by kernel_rfl) (by kernel_rfl) (cx.an 11) rfl cellsI_len (hL.ext cx.upd.to_ext) hmdd.1 (fun k hk=>match k,hk with | 0, _=>rfl | 1, _=>rfl | 2, _=>rfl | k+3,hk=>absurd hk (by omega))
    ·refine svA fun ρ β W X cx=>?_
     refine DoesU.call (run_callF (args:=#[.agg #[vi pg.k,vi pg.l, .slice pg.A pg.its.length pg.c], .agg #[vi dd.1,vi dd.2.1, .string dd.2.2.1],vi lsn]) rfl cx.sees rfl (by kernel_rfl) (map3 (cx.an 8) (cx.an 12) (cx.an 13))) ?_
     refine (rdo3_kind' hs1 hs2 (pgm_its (hP.ext cx.upd.to_ext) (CtxV.holdE cx (cx.init 4 _ rfl) rfl) hCs hmpg.2) hpok.1 (pgm_cap (hP.ext cx.upd.to_ext) (CtxV.holdE cx (cx.init 4 _ rfl) rfl) hCs hmpg.2) hl).mono ?_
     rintro e W1 ⟨A4,c4,rfl,ho,hx⟩
     refine ⟨_,rfl,post_call [eO 9 1 (.slice A4 (([]:List Itm).length) c4) (([]:List Itm).length) (strs ([]:List Itm))] rfl rfl hx (one_new (eO_new ho)) (List.pairwise_singleton _ _) (fun σ β' X' hs hb hv hN=>?_)⟩
     have hv1:=(hv 54 rfl).1; have hv2:=(hv 54 rfl).2
     exact ⟨hv1.trans (by rw [hv2]; rfl),(by rw [hv2]; exact (List.cons.inj hN).1)⟩
    ·refine svA fun ρ β W X cx=>?_
     exact dv_alloc (cs:=#[vi 0,vi 0, .slice none 0 0,vi 0]) rfl (by kernel_rfl) rfl rfl (fun σ β' X' hs hb hv hx=>⟨hv,hx⟩)
    ·refine svA fun ρ β W X cx=>?_
     exact dv_store (n:=4) rfl (dTn (cx.an 15)).1 (dTn (cx.an 14)).1 (by kernel_rfl) (by kernel_rfl) (by kernel_rfl) cx (dTn (cx.an 15)).2 rfl (nle rfl) (by kernel_rfl) rfl rfl rfl (fun σ β' X' hs hb hx=>by rw [hb 10,hb 54]; exact hx)
   intro σ β X W21 hD hst21 fr hfr
   obtain ⟨A54_21,hu_A54_21⟩:∃ z,sA (tg (β 54) 2)=z:=⟨_,rfl⟩
   obtain ⟨c54_21,hu_c54_21⟩:∃ z,sC (tg (β 54) 2)=z:=⟨_,rfl⟩
   obtain ⟨B10_21,hu_B10_21⟩:∃ z,pb (β 10)=z:=⟨_,rfl⟩
   simp only [exq 5 ((dTn (hD 14 lq)).2),exq 7 ((dTn (hD 16 lq))),hu_A54_21,hu_c54_21,hu_B10_21] at hst21
   simp only [ed 54 ((dTn (hD 14 lq)).1),ed 10 ((dTn (hD 15 lq)).1),hu_A54_21,hu_c54_21,hu_B10_21] at hfr
   clear hD hu_A54_21 hu_c54_21 hu_B10_21; subst hfr; clear σ β X
   refine then_normal (wp_seq (wp_seq (sqr (sqp [.k 55 (.pointer (some ⟨B10_21,3,none⟩))] ?_))))
   refine sqld 6 hst21 ?_
   refine sqp [.k 57 (.bool false)] ?_
   refine then_normal (wcf rfl (wp_skip (then_normal (wp_region_Y [0,1,0,0,12,28,60,0,128,511,1023] [[],[2],[],[],[],[],[],[],[6],[3],[3]] [[],[],[],[],[],[],[],[],[],[],[7]] [[],[],[],[],[],[],[],[],[],[],[3]] [.k 59 (vp B8_9), .c 60 (.slice OA Ps.length OC), .k 61 (.slice LA es.length lc), .k 62 (vi ((j:Int))), .c 63 (.pointer (some ((ad LA).add (j*3)))), .c 64 (.pointer (some ((ad LA).add (j*3+0)))), .c 65 (vi dd.1), .k 66 (vp B10_21), .c 67 (.agg #[vi 1,vi lsn, .slice A54_21 (([]:List Itm).length) c54_21]), .c 68 (.pointer (some ((ad OA).add (((dd.1).toNat)*3)))), .n] (fun ix σ β X=>match ix with | 0=>True | 1=>True | 2=>True | 3=>True | 4=>True | 5=>True | 6=>True | 7=>True | 8=>True | 9=>True | 10=>X 7=eO 64 3 (.slice OA Ps.length OC) Ps.length ((Cs.set (dd.1).toNat (PgD.mk 1 lsn A54_21 c54_21 ([]:List Itm))).flatMap pgC) | _=>True) [0,1,2,4,5,6,7] [1,4,5,6,8,9,10] [(59,0,10,69)] hst21 ?_ ?_ ?_))))
   ·exact fun ix _ _ _ _ _ _ hs hb hx h=>match ix,h with
    | 10,h=>by dsimp only; rw [← hx 7 rfl]; exact h
    | 0, _ | 1, _ | 2, _ | 3, _ | 4, _ | 5, _ | 6, _ | 7, _ | 8, _ | 9, _ | _+11, _=>trivial
   ·refine ⟨?_,?_,?_,?_,?_,?_,?_,trivial⟩
    ·exact xs4 rfl id fun cx=>run_load1 rfl (by kernel_rfl) (cx.an 0) ((cx.bi 2 rfl).cell 0)
    ·exact xs4 rfl id fun cx=>run_indexSlM (e:=49) (m:=j) (sz:=3) rfl (by kernel_rfl) (by kernel_rfl) (cx.an 2) (cx.an 3) (by omega) (by omega) (hL.ext cx.upd.to_ext) (flatPos (sz:=3) cellsI_len (by decide) (by omega))
    ·exact xs4 rfl id fun cx=>run_fieldAd rfl (by kernel_rfl) (cx.an 4)
    ·exact xs4 rfl id fun cx=>run_load1 rfl (by kernel_rfl) (cx.an 5) (At.eltc (f:=cellsI) (k:=0) cellsI_len (hL.ext cx.upd.to_ext) hmdd.1 rfl)
    ·exact xs4 rfl id fun cx=>run_loadB (n:=3) rfl (by kernel_rfl) (by kernel_rfl) (cx.an 7) (cx.bi 6 rfl) (nle rfl) rfl
    ·exact xs4 rfl id fun cx=>run_indexSlM (e:=64) (m:=(dd.1).toNat) (sz:=3) rfl (by kernel_rfl) (by kernel_rfl) (cx.an 1) (cx.an 6) (by omega) (by omega) (At.of_ownN (cx.ri 3 rfl)) (flatPos (sz:=3) pgC_len (by decide) (by omega))
    ·refine svA fun ρ β W X cx=>?_
     exact dv_storeElt (m:=((dd.1).toNat)*3) (n:=Ps.length) (sz:=3) (k:=3) rfl (cx.an 9) (cx.an 8) (by kernel_rfl) (by kernel_rfl) (by kernel_rfl) cx (cx.init 3 _ rfl) rfl (by omega) (by decide) rfl (putL_flat pgC_len (by omega) (PgD.mk 1 lsn A54_21 c54_21 ([]:List Itm))) rfl rfl (fun σ β' X' hs hb hx=>hx)
   intro σ β X W25 hD hst25 fr hfr
   simp only [exq 7 ((dTn (hD 10 lq)))] at hst25
   clear hD; subst hfr; clear σ β X
   refine blk_normal (then_normal (sqr (sqp [.m 20 9,sI 21 ((j:Int)+1) (by omega), .m 9 21] ?_)))
   refine then_normal ?_
   have hm29:=St.mergeP (Ps:=Qs) (p:=(PgD.mk 1 lsn A54_21 c54_21 ([]:List Itm))) (L:=[eB B3_1 30 #[.slice ((some pa)) Ps.length pc],eB B6_2 30 #[.slice none 0 0],eB B8_9 30 #[.slice OA Ps.length OC],eB B10_21 224 #[vi 1,vi lsn, .slice A54_21 (([]:List Itm).length) c54_21,vi 0],eO 64 3 (.slice OA Ps.length OC) Ps.length ((Cs.set (dd.1).toNat (PgD.mk 1 lsn A54_21 c54_21 ([]:List Itm))).flatMap pgC)]) (hst25.pick [0,1,2,5,6,3,4] (by decide) rfl)
   refine ⟨es.length - ((j+1)),by omega,?_⟩
   exact ⟨(j+1),(Cs.set (dd.1).toNat (PgD.mk 1 lsn A54_21 c54_21 ([]:List Itm))),(Qs++[(PgD.mk 1 lsn A54_21 c54_21 ([]:List Itm))]),OA,OC,by omega,by rw [List.length_set]; exact hCl,mem_set_new hCs _ _,by rw [map_set']; exact hr5,by rw [map_set']; exact hokC.set h5ok,rfl,(by kernel_rfl),hm29.pk [0,1,2,4,5]⟩
  ·refine wp_region_Y [0,1,0,0,12,28,60,127,255,0,0,1536,3584,0,16383,0,65535] [[],[2],[],[],[],[],[],[3],[3],[],[],[],[],[],[4],[],[6]] [[],[],[],[],[],[],[],[],[],[],[],[],[],[],[5],[6],[7]] [[],[],[],[],[],[],[],[],[],[],[],[],[],[],[],[],[6]] [.k 40 (vp B8_9), .c 41 (.slice OA Ps.length OC), .k 42 (.slice LA es.length lc), .k 43 (vi ((j:Int))), .c 44 (.pointer (some ((ad LA).add (j*3)))), .c 45 (.pointer (some ((ad LA).add (j*3+0)))), .c 46 (vi dd.1), .c 47 (.pointer (some ((ad OA).add (((dd.1).toNat)*3)))), .c 48 (.agg #[vi pg.k,vi pg.l, .slice pg.A pg.its.length pg.c]), .k 49 (.slice LA es.length lc), .k 50 (vi ((j:Int))), .c 51 (.pointer (some ((ad LA).add (j*3)))), .c 52 (.agg #[vi dd.1,vi dd.2.1, .string dd.2.2.1]), .k 53 (vi lsn), .a 54, .a 10, .n] (fun ix σ β X=>match ix with | 0=>True | 1=>True | 2=>True | 3=>True | 4=>True | 5=>True | 6=>True | 7=>True | 8=>True | 9=>True | 10=>True | 11=>True | 12=>True | 13=>True | 14=>σ 54= .agg #[vi pg.k,vi lsn, .slice (sA (tg (β 54) 2)) ((putI pg.its dd.2.1.toNat dd.2.2).length) (sC (tg (β 54) 2)),vi 0]∧X 5=eO 9 1 (.slice (sA (tg (β 54) 2)) ((putI pg.its dd.2.1.toNat dd.2.2).length) (sC (tg (β 54) 2))) ((putI pg.its dd.2.1.toNat dd.2.2).length) (strs (putI pg.its dd.2.1.toNat dd.2.2)) | 15=>σ 10=vp (pb (β 10))∧X 6=eB (pb (β 10)) 224 #[vi 0,vi 0, .slice none 0 0,vi 0] | 16=>X 7=eB (pb (β 10)) 224 #[vi pg.k,vi lsn, .slice (sA (tg (β 54) 2)) ((putI pg.its dd.2.1.toNat dd.2.2).length) (sC (tg (β 54) 2)),vi 0] | _=>True) [0,1,2,3,4,5,7] [1,4,5,6,7,8,11,12,14,15,16] [(10,15,1,11),(29,0,15,44)] hst19 ?_ ?_ ?_
   ·exact fun ix _ _ _ _ _ _ hs hb hx h=>match ix,h with
    | 14,h=>by dsimp only; rw [← hs 54 rfl,← hb 54 rfl,← hx 5 rfl]; exact h
    | 15,h=>by dsimp only; rw [← hs 10 rfl,← hb 10 rfl,← hx 6 rfl]; exact h
    | 16,h=>by dsimp only; rw [← hb 10 rfl,← hb 54 rfl,← hx 7 rfl]; exact h
    | 0, _ | 1, _ | 2, _ | 3, _ | 4, _ | 5, _ | 6, _ | 7, _ | 8, _ | 9, _ | 10, _ | 11, _ | 12, _ | 13, _ | _+17, _=>trivial
   ·refine ⟨?_,?_,?_,?_,?_,?_,?_,?_,?_,?_,?_,trivial⟩
    ·exact xs4 rfl id fun cx=>run_load1 rfl (by kernel_rfl) (cx.an 0) ((cx.bi 2 rfl).cell 0)
    ·exact xs4 rfl id fun cx=>run_indexSlM (e:=49) (m:=j) (sz:=3) rfl (by kernel_rfl) (by kernel_rfl) (cx.an 2) (cx.an 3) (by omega) (by omega) (hL.ext cx.upd.to_ext) (flatPos (sz:=3) cellsI_len (by decide) (by omega))
    ·exact xs4 rfl id fun cx=>run_fieldAd rfl (by kernel_rfl) (cx.an 4)
    ·exact xs4 rfl id fun cx=>run_load1 rfl (by kernel_rfl) (cx.an 5) (At.eltc (f:=cellsI) (k:=0) cellsI_len (hL.ext cx.upd.to_ext) hmdd.1 rfl)
    ·exact xs4 rfl id fun cx=>run_indexSlM (e:=64) (m:=(dd.1).toNat) (sz:=3) rfl (by kernel_rfl) (by kernel_rfl) (cx.an 1) (cx.an 6) (by omega) (by omega) (At.of_ownN (cx.ri 3 rfl)) (flatPos (sz:=3) pgC_len (by decide) (by omega))
    ·exact xs4 rfl id fun cx=>run_loadElt (f:=pgC) (m:=((dd.1).toNat)) (sz:=3) (off:=0) (n:=3) rfl (by kernel_rfl) (by kernel_rfl) (cx.an 7) rfl pgC_len (At.of_ownN (cx.ri 3 rfl)) hmpg.1 (fun k hk=>match k,hk with | 0, _=>rfl | 1, _=>rfl | 2, _=>rfl | k+3,hk=>absurd hk (by omega))
    ·exact xs4 rfl id fun cx=>run_indexSlM (e:=49) (m:=j) (sz:=3) rfl (by kernel_rfl) (by kernel_rfl) (cx.an 9) (cx.an 10) (by omega) (by omega) (hL.ext cx.upd.to_ext) (flatPos (sz:=3) cellsI_len (by decide) (by omega))
    ·exact xs4 rfl id fun cx=>run_loadElt (f:=cellsI) (m:=j) (sz:=3) (off:=0) (n:=3) rfl (by kernel_rfl) (by kernel_rfl) (cx.an 11) rfl cellsI_len (hL.ext cx.upd.to_ext) hmdd.1 (fun k hk=>match k,hk with | 0, _=>rfl | 1, _=>rfl | 2, _=>rfl | k+3,hk=>absurd hk (by omega))
    ·refine svA fun ρ β W X cx=>?_
     refine DoesU.call (run_callF (args:=#[.agg #[vi pg.k,vi pg.l, .slice pg.A pg.its.length pg.c], .agg #[vi dd.1,vi dd.2.1, .string dd.2.2.1],vi lsn]) rfl cx.sees rfl (by kernel_rfl) (map3 (cx.an 8) (cx.an 12) (cx.an 13))) ?_
     refine (rdo3_put _ _ _ _ _ _ dd.2.1 dd.2.2.1 dd.2.2.2 _ _ (pgm_its (hP.ext cx.upd.to_ext) (CtxV.holdE cx (cx.init 4 _ rfl) rfl) hCs hmpg.2) hpok.1 (pgm_cap (hP.ext cx.upd.to_ext) (CtxV.holdE cx (cx.init 4 _ rfl) rfl) hCs hmpg.2) hl (by omega) hs2 hs1).mono ?_
     rintro e W1 ⟨A4,c4,rfl,ho,hx⟩
     refine ⟨_,rfl,post_call [eO 9 1 (.slice A4 ((putI pg.its dd.2.1.toNat dd.2.2).length) c4) ((putI pg.its dd.2.1.toNat dd.2.2).length) (strs (putI pg.its dd.2.1.toNat dd.2.2))] rfl rfl hx (one_new (eO_new ho)) (List.pairwise_singleton _ _) (fun σ β' X' hs hb hv hN=>?_)⟩
     have hv1:=(hv 54 rfl).1; have hv2:=(hv 54 rfl).2
     exact ⟨hv1.trans (by rw [hv2]; rfl),(by rw [hv2]; exact (List.cons.inj hN).1)⟩
    ·refine svA fun ρ β W X cx=>?_
     exact dv_alloc (cs:=#[vi 0,vi 0, .slice none 0 0,vi 0]) rfl (by kernel_rfl) rfl rfl (fun σ β' X' hs hb hv hx=>⟨hv,hx⟩)
    ·refine svA fun ρ β W X cx=>?_
     exact dv_store (n:=4) rfl (dTn (cx.an 15)).1 (dTn (cx.an 14)).1 (by kernel_rfl) (by kernel_rfl) (by kernel_rfl) cx (dTn (cx.an 15)).2 rfl (nle rfl) (by kernel_rfl) rfl rfl rfl (fun σ β' X' hs hb hx=>by rw [hb 10,hb 54]; exact hx)
   intro σ β X W30 hD hst30 fr hfr
   obtain ⟨A54_30,hu_A54_30⟩:∃ z,sA (tg (β 54) 2)=z:=⟨_,rfl⟩
   obtain ⟨c54_30,hu_c54_30⟩:∃ z,sC (tg (β 54) 2)=z:=⟨_,rfl⟩
   obtain ⟨B10_30,hu_B10_30⟩:∃ z,pb (β 10)=z:=⟨_,rfl⟩
   simp only [exq 5 ((dTn (hD 14 lq)).2),exq 7 ((dTn (hD 16 lq))),hu_A54_30,hu_c54_30,hu_B10_30] at hst30
   simp only [ed 54 ((dTn (hD 14 lq)).1),ed 10 ((dTn (hD 15 lq)).1),hu_A54_30,hu_c54_30,hu_B10_30] at hfr
   clear hD hu_A54_30 hu_c54_30 hu_B10_30; subst hfr; clear σ β X
   refine then_normal (wp_seq (wp_seq (sqr (sqp [.k 55 (.pointer (some ⟨B10_30,3,none⟩))] ?_))))
   refine sqld 6 hst30 ?_
   refine sqp [.k 57 (.bool false)] ?_
   refine then_normal (wcf rfl (wp_skip (then_normal (wp_region_Y [0,1,0,0,12,28,60,0,128,511,1023] [[],[2],[],[],[],[],[],[],[6],[3],[3]] [[],[],[],[],[],[],[],[],[],[],[7]] [[],[],[],[],[],[],[],[],[],[],[3]] [.k 59 (vp B8_9), .c 60 (.slice OA Ps.length OC), .k 61 (.slice LA es.length lc), .k 62 (vi ((j:Int))), .c 63 (.pointer (some ((ad LA).add (j*3)))), .c 64 (.pointer (some ((ad LA).add (j*3+0)))), .c 65 (vi dd.1), .k 66 (vp B10_30), .c 67 (.agg #[vi pg.k,vi lsn, .slice A54_30 ((putI pg.its dd.2.1.toNat dd.2.2).length) c54_30]), .c 68 (.pointer (some ((ad OA).add (((dd.1).toNat)*3)))), .n] (fun ix σ β X=>match ix with | 0=>True | 1=>True | 2=>True | 3=>True | 4=>True | 5=>True | 6=>True | 7=>True | 8=>True | 9=>True | 10=>X 7=eO 64 3 (.slice OA Ps.length OC) Ps.length ((Cs.set (dd.1).toNat (PgD.mk pg.k lsn A54_30 c54_30 (putI pg.its dd.2.1.toNat dd.2.2))).flatMap pgC) | _=>True) [0,1,2,4,5,6,7] [1,4,5,6,8,9,10] [(59,0,10,69)] hst30 ?_ ?_ ?_))))
   ·exact fun ix _ _ _ _ _ _ hs hb hx h=>match ix,h with
    | 10,h=>by dsimp only; rw [← hx 7 rfl]; exact h
    | 0, _ | 1, _ | 2, _ | 3, _ | 4, _ | 5, _ | 6, _ | 7, _ | 8, _ | 9, _ | _+11, _=>trivial
   ·refine ⟨?_,?_,?_,?_,?_,?_,?_,trivial⟩
    ·exact xs4 rfl id fun cx=>run_load1 rfl (by kernel_rfl) (cx.an 0) ((cx.bi 2 rfl).cell 0)
    ·exact xs4 rfl id fun cx=>run_indexSlM (e:=49) (m:=j) (sz:=3) rfl (by kernel_rfl) (by kernel_rfl) (cx.an 2) (cx.an 3) (by omega) (by omega) (hL.ext cx.upd.to_ext) (flatPos (sz:=3) cellsI_len (by decide) (by omega))
    ·exact xs4 rfl id fun cx=>run_fieldAd rfl (by kernel_rfl) (cx.an 4)
    ·exact xs4 rfl id fun cx=>run_load1 rfl (by kernel_rfl) (cx.an 5) (At.eltc (f:=cellsI) (k:=0) cellsI_len (hL.ext cx.upd.to_ext) hmdd.1 rfl)
    ·exact xs4 rfl id fun cx=>run_loadB (n:=3) rfl (by kernel_rfl) (by kernel_rfl) (cx.an 7) (cx.bi 6 rfl) (nle rfl) rfl
    ·exact xs4 rfl id fun cx=>run_indexSlM (e:=64) (m:=(dd.1).toNat) (sz:=3) rfl (by kernel_rfl) (by kernel_rfl) (cx.an 1) (cx.an 6) (by omega) (by omega) (At.of_ownN (cx.ri 3 rfl)) (flatPos (sz:=3) pgC_len (by decide) (by omega))
    ·refine svA fun ρ β W X cx=>?_
     exact dv_storeElt (m:=((dd.1).toNat)*3) (n:=Ps.length) (sz:=3) (k:=3) rfl (cx.an 9) (cx.an 8) (by kernel_rfl) (by kernel_rfl) (by kernel_rfl) cx (cx.init 3 _ rfl) rfl (by omega) (by decide) rfl (putL_flat pgC_len (by omega) (PgD.mk pg.k lsn A54_30 c54_30 (putI pg.its dd.2.1.toNat dd.2.2))) rfl rfl (fun σ β' X' hs hb hx=>hx)
   intro σ β X W34 hD hst34 fr hfr
   simp only [exq 7 ((dTn (hD 10 lq)))] at hst34
   clear hD; subst hfr; clear σ β X
   refine blk_normal (then_normal (sqr (sqp [.m 20 9,sI 21 ((j:Int)+1) (by omega), .m 9 21] ?_)))
   refine then_normal ?_
   have hm38:=St.mergeP (Ps:=Qs) (p:=(PgD.mk pg.k lsn A54_30 c54_30 (putI pg.its dd.2.1.toNat dd.2.2))) (L:=[eB B3_1 30 #[.slice ((some pa)) Ps.length pc],eB B6_2 30 #[.slice none 0 0],eB B8_9 30 #[.slice OA Ps.length OC],eB B10_30 224 #[vi pg.k,vi lsn, .slice A54_30 ((putI pg.its dd.2.1.toNat dd.2.2).length) c54_30,vi 0],eO 64 3 (.slice OA Ps.length OC) Ps.length ((Cs.set (dd.1).toNat (PgD.mk pg.k lsn A54_30 c54_30 (putI pg.its dd.2.1.toNat dd.2.2))).flatMap pgC)]) (hst34.pick [0,1,2,5,6,3,4] (by decide) rfl)
   refine ⟨es.length - ((j+1)),by omega,?_⟩
   exact ⟨(j+1),(Cs.set (dd.1).toNat (PgD.mk pg.k lsn A54_30 c54_30 (putI pg.its dd.2.1.toNat dd.2.2))),(Qs++[(PgD.mk pg.k lsn A54_30 c54_30 (putI pg.its dd.2.1.toNat dd.2.2))]),OA,OC,by omega,by rw [List.length_set]; exact hCl,mem_set_new hCs _ _,by rw [map_set']; exact hr5,by rw [map_set']; exact hokC.set h5ok,rfl,(by kernel_rfl),hm38.pk [0,1,2,4,5]⟩
 refine wp_exit (then_exit (then_exit (blk_eq (then_normal (wp_seq (sqr ?_))))))
 refine sqlb 2 1 hst13 ?_
 refine sqst (n:=1) 1 #[.slice OA Ps.length OC] hst13 fun W40 hst40=>?_
 refine sqp [.k 7 (.bool true)] ?_
 refine then_normal (wp_ret ?_)
 refine bpr (.tuple #[.agg #[.slice OA Ps.length OC], .bool true]) (results_2 Tryz.results58 (rpa (hst40.blk 1 rfl) 0 1) rpt) ?_
 exact St.done (by rw [List.drop_of_length_le (by omega)] at hdj; exact Option.some.inj hdj) hCs (hst40.pick [4,3] (by decide) rfl)
theorem PgsAt.some {w:World} {A:Option Addr} {Ps:List PgD} (h:PgsAt w A Ps) (h0:0 < Ps.length):∃ a,A=some a:=by
 have hl:=pgC_flat Ps
 obtain ⟨a,ha, _⟩:=h.at_ 0 _ (List.getElem?_eq_getElem (by omega:0 < (Ps.flatMap pgC).length))
 exact ⟨a,ha⟩
/-- Do, the edits with what they say -/
theorem rdo9_n {PA LA:Option Addr} {pc lc n m:Nat} {Ps:List PgD} {es:List EdI} {lsn:Int} {H':List PgI} {w:World} (hn:Ps.length=n) (hm:es.length=m) (h0:0 < n) (hP:PgsAt w PA Ps) (hL:At w LA (es.flatMap cellsI)) (hel:m≤100000) (hed:∀ e∈es,Desc e.2.2.1 e.2.2.2) (hl:0≤lsn∧lsn≤2147483647) (hok:okH (Ps.map absP)) (hdo:doL lsn (Ps.map absP) es=some H'):
  Calls Tryz.prog 58 #[.agg #[.slice PA n pc], .slice LA m lc, .int .i64 lsn] w (DoPost Ps H' n w):=by
 subst hn hm
 obtain ⟨a,rfl⟩:=hP.some h0
 exact rdo9_any a pc Ps LA lc es lsn H' w hP hL hel hed hl hok hdo
end
section
open Go.RowKit
theorem madeCells_cons (z:Array Value) (hz:0 < z.size) (n:Nat):(madeCells z ((n+1)*z.size)).toList=z.toList++(madeCells z (n*z.size)).toList:=by
 apply List.ext_getElem?
 intro j
 have e:∀ m j,(madeCells z m).toList[j]? =if j < m then some (z[j % z.size]!) else none:=fun m j=>by
  by_cases h:j < m
  ·rw [if_pos h]; simp [madeCells,h]
  ·rw [if_neg h]; simp [madeCells,h]
 have hm:(n+1)*z.size=z.size+n*z.size:=by rw [Nat.add_mul]; omega
 rw [e,hm]
 by_cases h:j < z.size
 ·rw [if_pos (by omega),List.getElem?_append_left (by simpa using h),Nat.mod_eq_of_lt h]
  simp [h]
 ·rw [List.getElem?_append_right (by simpa using h),Array.length_toList,e]
  by_cases h2:j < z.size+n*z.size
  ·rw [if_pos h2,if_pos (by omega),Nat.mod_eq_sub_mod (by omega)]
  ·rw [if_neg h2,if_neg (by omega)]
theorem madeCells_flat {T:Type} (f:T→List Value) (t:T) (z:Array Value) (hz:z.toList=f t) (h0:0 < z.size) (n:Nat):(madeCells z (n*z.size)).toList=(List.replicate n t).flatMap f:=by
 induction n with
 | zero=>
   rw [Nat.zero_mul]
   have:(madeCells z 0).toList.length=0:=by rw [Array.length_toList,size_madeCells]
   rw [List.eq_nil_of_length_eq_zero this]; rfl
 | succ n ih=>rw [madeCells_cons z h0,ih,List.replicate_succ,List.flatMap_cons,hz]
section
variable {P:Program} {ops:Array Oper} {L:List Nat} {a0:Act} {w0:World} {bor:List Nat} {X0:List Ent} {us cr kl:List (List Nat)}
 {D:Nat→(Tmp→Value)→(Tmp→Value)→(Nat→Ent)→Prop} {i:Nat} {o:Oper} {ρ:Operand→Value} {β:Tmp→Value} {W:World} {X:Nat→Ent}
theorem dv_makeN {t e:TypeId} {x y:Operand} {k k':IntKind} {n sz:Nat} {j j':Int} {d:Tmp} {q:Nat} {inf:TypeInfo} {z:Value} {bytes:Nat} {xs:List Value} (h:o.op= .makeSlice t x y) (ht:P.underlying t=some (.slice e)) (hi:P.info? e=some inf) (hz:inf.zero=some z) (hsize:inf.size=sz) (hby:inf.bytes=bytes)
  (hx:ρ x= .int k j) (hy:ρ y= .int k' j') (hj:j=(n:Int)) (hj':j'=(n:Int)) (hn:n*sz≤16777216) (hb:bytes*n≤281474976710656) (hml:n≤maxLen) (hxs:(madeCells z.cells (n*sz)).toList=xs) (hd:o.dst=some d) (hc:atV cr i=[q])
  (hD:∀ (σ β':Tmp→Value) (X':Nat→Ent),(∀ t,t≠d→σ t=ρ (.tmp t))→(∀ t,t≠d→β' t=β t)→σ d= .slice (sA (β' d)) n n→X' q=eO e sz (.slice (sA (β' d)) n n) n xs→D i σ β' X'):
  DoesU P o ρ W (PostV cr kl D i o.dst ρ β W X):=by
 subst hj; subst hj'; subst hby; subst hsize; subst hxs
 obtain ⟨W',hrun,ho,hg⟩:=run_makeSlice_full (P:=P) W W.heap.size t e inf z inf.size ht hi hz rfl k k' n hn hb hml (Nat.le_refl _)
 have hr:(execOp ρ o).run P W= .ok (.value (.slice (some ⟨W.heap.size,0,none⟩) n n)) W':=by
  unfold execOp; rw [h]
  simp only [hx,hy,Sem.run_bind,hrun,Result.andThen_ok,Sem.run_pure]
 refine DoesU.value hr ⟨[eO e inf.size (.slice (some ⟨W.heap.size,0,none⟩) n n) n (madeCells z.cells (n*inf.size)).toList],by rw [hc]; rfl,⟨(Upd.refl _ W).grown hg (fun k hk=>by cases hk),fun e' he=>?_,List.pairwise_singleton _ _⟩,fun σ β' X' hs' hv hb hbv hx' hN=>hD σ β' X' (fun t ht=>hs' t (by rw [hd]; simpa using ht.symm)) (fun t ht=>hb t (by rw [hd]; simpa using ht.symm)) ?_ ?_⟩
 ·rw [List.mem_singleton] at he
  subst he
  obtain ⟨h1,h2,h3⟩:=eO_new ho
  exact ⟨h1,h2,fun k hk=>⟨.inr (h3 k hk).1,(h3 k hk).2⟩⟩
 ·rw [hv d hd,hbv d hd]; rfl
 ·rw [hbv d hd]
  rw [hc] at hN
  exact (List.cons.inj hN).1
end
theorem pg_zero (n:Nat):(madeCells (Value.agg #[.int .i64 0, .int .i64 0, .slice none 0 0]).cells (n*3)).toList=(List.replicate n p0).flatMap pgC:=madeCells_flat pgC p0 #[.int .i64 0, .int .i64 0, .slice none 0 0] rfl (by decide) n
def FreePost (n:Nat) (w:World) (e:Ending) (w':World):Prop:=∃ A,e= .returned (.agg #[.slice A n n])∧w'.ownsRow w.heap.size 64 3 (.slice A n n) n ((List.replicate n p0).flatMap pgC)∧Ext w w'
theorem free_at {W:World} {A:Option Addr} {n:Nat} (h:At W A ((List.replicate n p0).flatMap pgC)) (hn:n≤1000):PgsAt W A (List.replicate n p0):=
 ⟨h,by rw [List.length_replicate]; exact hn,fun p hp=>by
   obtain ⟨_,rfl⟩:=List.mem_replicate.1 hp
   exact ⟨At.nil _ _,Nat.zero_le _,Nat.zero_le _,fun i hi=>by cases hi⟩⟩
theorem free_ok (n:Nat):okH ((List.replicate n p0).map absP):=fun p hp=>by
 rw [List.map_replicate] at hp
 obtain ⟨_,rfl⟩:=List.mem_replicate.1 hp
 exact ⟨by decide,fun i hi=>by cases hi⟩
theorem free09_any (n:Nat) (w:World) (hn:n≤1000):
  Calls Tryz.prog 28 #[.int .i64 ((n:Int))] w (FreePost n w):=by
 go_enter Tryz.func28,Tryz.ntmps28
 have hst0:=St.start w
 refine wp_seq (sqr (sqal #[.slice none 0 0] hst0 fun B2_1 W1 hst1=>?_))
 refine then_normal (wp_seq (sqr (sqp [.m 3 0] ?_)))
 refine sqn1 (fun x_=>sA x_) (fun A4_3=> .slice A4_3 n n) (fun A4_3=>eO 64 3 (.slice A4_3 n n) n ((List.replicate n p0).flatMap pgC)) hst1 (by
   refine svA fun ρ β W X cx=>?_
   obtain ⟨i0,hi0,hz0,hz1,hz2⟩:=info_parts Tryz.infoPage
   exact dv_makeN (n:=n) (sz:=3) rfl (by kernel_rfl) hi0 hz0 hz1 hz2 (cx.ou 3) (cx.ou 3) (by omega) (by omega) (by omega) (by omega) (by simp only [maxLen]; omega) (pg_zero n) rfl rfl (fun σ β' X' hs hb hv hx=>⟨hv,hx⟩)) fun A4_3 W3 hst3=>?_
 refine sqp [.k 5 (.agg #[.slice A4_3 n n])] ?_
 refine sqst (n:=1) 0 #[.slice A4_3 n n] hst3 fun W5 hst5=>?_
 refine then_normal (wp_ret ?_)
 refine bpr (.agg #[.slice A4_3 n n]) (results_cell (n:=1) Tryz.results28 rfl (by kernel_rfl) (by kernel_rfl) (hst5.blk 0 rfl) rfl) ?_
 exact ⟨_,rfl,hst5.own' 1 rfl,hst5.ext⟩
def WholePost (x:Int) (w:World) (e:Ending) (w':World):Prop:=∃ A,e= .returned (.slice A 1 1)∧w'.ownsRow w.heap.size 45 3 (.slice A 1 1) 1 (flatR [(1,x,ByteArray.empty)])∧Ext w w'
theorem whole09_any (x:Int) (w:World):
  Calls Tryz.prog 31 #[.int .i64 x] w (WholePost x w):=by
 go_enter Tryz.func31,Tryz.ntmps31
 have hst0:=St.start w
 refine wp_seq (sqr (sqp [.k 2 (.slice none 0 0)] ?_))
 refine then_normal (wp_seq (sqr (sqp [.m 3 0, .k 4 (.agg #[vi 1,vi x, .string ByteArray.empty])] ?_)))
 refine sqli 45 3 1 [vi 1,vi x, .string ByteArray.empty] hst0 (@fun ρ β W X cx=>by have fF4:ρ (.tmp 4)= .agg #[vi 1,vi x, .string ByteArray.empty]:=(cx.ou 4); simp [go_sem,fF4]) fun B5_4 W4 hst4=>?_
 refine sqp [.m 2 5] ?_
 refine then_normal (wp_ret ?_)
 refine bpr (.slice ((some ⟨B5_4,0,none⟩)) 1 1) (results_1 Tryz.results31 rpt) ?_
 exact ⟨_,rfl,hst4.own' 0 rfl,hst4.ext⟩
end
section
open Go.RowKit
/-- the page that a fresh insert leaves -/
def freshP (lsn tb:Int) (v:VerD):PgI:=(1,lsn,putI (putI [] 0 (putS tb 2,none)) 1 (txD v,some v))
theorem fresh_do {H:List PgI} {lsn f tb:Int} {v:VerD} (hl:0≤lsn∧lsn≤2147483647) (hf:0≤f∧f < H.length) (hv:okD v) (hH:okH H) (htb:0≤tb∧tb < 65536):
  doL lsn H [(f, -1,((⟨#[1]⟩:ByteArray),none)),(f,0,(putS tb 2,none)),(f,1,(txD v,some v))]=some (H.set f.toNat (freshP lsn tb v))∧okP (freshP lsn tb v):=by
 obtain ⟨H',h1,h2, _⟩:=put_fresh (f:=f) hH hl hf hv htb
 have hr1:=right_kind hl
 have hs2:=putS2_size tb
 have hsv:(txD v).size≤309:=(show Desc (txD v) (some v) from ⟨hv,rfl⟩).le
 obtain ⟨c1,p1,d1,e1⟩:=doL_cons h1
 obtain ⟨c2,p2,d2,e2⟩:=doL_cons e1
 obtain ⟨c3,p3,d3,e3⟩:=doL_cons e2
 have hp1:p1=(1,lsn,[]):=by
  rw [do1,if_pos rfl,if_pos rfl] at d1; exact (Option.some.inj d1).symm
 subst hp1
 have hp2:p2=(1,lsn,putI [] 0 (putS tb 2,none)):=by
  dsimp only at d2
  rw [getD_set' hf,do1,if_neg (show ¬ (0:Int)= -1 by decide)] at d2
  split at d2
  ·exact (Option.some.inj d2).symm
  ·cases d2
 subst hp2
 have hp3:p3=freshP lsn tb v:=by
  dsimp only at d3
  rw [getD_set' (by rw [List.length_set]; exact hf),do1,if_neg (show ¬ (1:Int)= -1 by decide)] at d3
  split at d3
  ·exact (Option.some.inj d3).symm
  ·cases d3
 subst hp3
 have e4:H'=H.set f.toNat (freshP lsn tb v):=by
  have:=Option.some.inj e3
  dsimp only at this
  rw [List.set_set,List.set_set] at this
  exact this.symm
 refine ⟨by rw [h1,e4],h2 _ ?_⟩
 rw [e4]
 have hlt:f.toNat < (H.set f.toNat (freshP lsn tb v)).length:=by rw [List.length_set]; omega
 have hm:=List.getElem_mem hlt
 rw [List.getElem_set_self] at hm
 exact hm
theorem fresh_its (lsn tb:Int) {v:VerD} (hv:okD v) (j:Nat):(freshP lsn tb v).2.2.getD j it0=if j=1 then (txD v,some v) else if j=0 then (putS tb 2,none) else it0:=by
 have hs2:=putS2_size tb
 have hci:(putS tb 2,(none:Option VerD)).1.size=0→(putS tb 2,(none:Option VerD))=it0:=fun h=>by rw [hs2] at h; cases h
 have hc1:clean ([]:List Itm):=fun x hx=>by cases hx
 have hg1:=fun j=>putI_get (K:=0) (i:=(putS tb 2,(none:Option VerD))) hc1 hci j
 have hc2:clean (putI [] 0 (putS tb 2,none)):=fun x hx h0=>by
  rcases withI_mem (List.mem_of_mem_take hx) with rfl | h1 | h1
  ·exact hci h0
  ·cases h1
  ·exact h1
 have hg2:=fun j=>putI_get (K:=1) (i:=(txD v,some v)) hc2 (Desc.clean (x:=(txD v,some v)) ⟨hv,rfl⟩) j
 show (putI (putI [] 0 (putS tb 2,none)) 1 (txD v,some v)).getD j it0= _
 rw [hg2,hg1]
 rfl
theorem fresh_size (lsn tb:Int) (v:VerD):sizeT (plainL (fstI (freshP lsn tb v).2.2))≤8+(txD v).size:=by
 have hs2:=putS2_size tb
 have h1:=sizeT_plain (fstI (putI [] 0 (putS tb 2,none)))
 have h2:sizeT (fstI (putI [] 0 (putS tb 2,none)))≤sizeT (withL (fstI []) 0 (putS tb 2)):=by rw [putI_fst]; exact sizeT_plain _
 have h3:=sizeT_with (fstI []) 0 (putS tb 2)
 have h0:sizeT (plainL (fstI []))=0:=rfl
 have h4:sizeT (fstI (freshP lsn tb v).2.2)≤sizeT (withL (fstI (putI [] 0 (putS tb 2,none))) 1 (txD v)):=by
  show sizeT (fstI (putI (putI [] 0 (putS tb 2,none)) 1 (txD v,some v)))≤ _
  rw [putI_fst]; exact sizeT_plain _
 have h5:=sizeT_with (fstI (putI [] 0 (putS tb 2,none))) 1 (txD v)
 have h6:=sizeT_plain (fstI (freshP lsn tb v).2.2)
 omega
theorem one_size (x:Int):(vbytesF [(1,x,ByteArray.empty)]).size=10:=by
 have hr:rrightF [(1,x,ByteArray.empty)]=true:=rfl
 rw [vbytesF,if_pos hr,strL_size]
 show (bytesTo [(1,x,ByteArray.empty)] 1).length=10
 have h8:(putS x 8).data.toList.length=8:=by
  have:=putS_size x 8 (by omega)
  rw [← this]; rfl
 simp [bytesTo,valB,h8]
theorem one_row (x:Int) (h: -9223372036854775808≤x∧x≤9223372036854775807):rrightF [(1,x,ByteArray.empty)]=true∧NsOk [(1,x,ByteArray.empty)]∧plainR [(1,x,ByteArray.empty)]=[(1,x,ByteArray.empty)]:=
 ⟨rfl,fun v hv _=>by rw [List.mem_singleton] at hv; subst hv; exact h,rfl⟩
/-- a second version fits behind the first -/
theorem room_two {lsn tb:Int} {v v2:VerD} {ok:Bool} (hok:ok=true) (hp:okP (freshP lsn tb v)) (hv:okD v) (h1:(txD v).size≤100) (h2:(txD v2).size≤100):roomI ⟨(freshP lsn tb v).1,(freshP lsn tb v).2.1,(freshP lsn tb v).2.2,ok⟩ (txD v2)=2:=by
 subst hok
 have hg:=fresh_its lsn tb hv
 have hs:=txD_size hv
 have hfr:freeF (freshP lsn tb v).1 (freshP lsn tb v).2.1 (fstI (freshP lsn tb v).2.2) 1=2:=by
  rw [freeF,if_pos hp.1,show (max (1:Int) 0).toNat=1 from rfl]
  rcases frL_spec (fstI (freshP lsn tb v).2.2) (24 - 1) 1 with ⟨_,h3⟩ | ⟨j,h3,h4,h5,h6,h7⟩
  ·have:=h3 2 (by omega) (by omega)
   rw [item_get,fstI_getD,hg,if_neg (by decide),if_neg (by decide)] at this
   have h8:=(emp_size it0.1).2 rfl
   rw [h8] at this; cases this
  ·rw [h3]
   have e1:j≠1:=fun e=>by
    subst e
    rw [item_get,fstI_getD,hg,if_pos rfl] at h6
    have:=(emp_size _).1 h6
    dsimp only at this
    omega
   have e2:¬ 2 < j:=fun e=>by
    have:=h7 2 (by omega) e
    rw [item_get,fstI_getD,hg,if_neg (by decide),if_neg (by decide)] at this
    have h8:=(emp_size it0.1).2 rfl
    rw [h8] at this; cases this
   omega
 have hz:=fresh_size lsn tb v
 have hpe:putErr (freshP lsn tb v).1 (freshP lsn tb v).2.1 (fstI (freshP lsn tb v).2.2) 2 (txD v2)=0:=putErr_small hp.1 (by omega) (by omega) (by show _+2*(2+1)+ _≤498; omega)
 show (if true=true then (if putErr _ _ (fstI (freshP lsn tb v).2.2) (freeF _ _ (fstI (freshP lsn tb v).2.2) 1) _=0 then freeF _ _ (fstI (freshP lsn tb v).2.2) 1 else 0) else 0)=2
 rw [hfr,if_pos rfl,if_pos hpe]
theorem rd_ver {H:List PgI} (hH:okH H) {n j:Int} {v:VerD} (h:atF (pvL H n) j=some v):rdF (pvL H n) j= -1:=by
 have h1:=at_in h
 have hv:=at_ok hH h
 have hd:Desc ((pvL H n).its.getD j.toNat it0).1 ((pvL H n).its.getD j.toNat it0).2:=by
  rw [pvL_in h1.1]
  rcases getD_mem_or (H.getD n.toNat pgi0).2.2 it0 j.toNat with h2 | h2
  ·exact (hH.get (by omega)).2 _ h2
  ·dsimp only
   rw [h2]; show (0:Nat) < 8; decide
 rw [atF_eq,if_pos ⟨h1.2.1,h1.2.2⟩] at h
 rw [h] at hd
 have hs:=txD_size hd.1
 rw [rdF,if_neg]
 rintro ⟨_, _, _,h4, _⟩
 rw [hd.2] at h4
 omega
theorem ch_two {v:PV} {n:Int} {a b:VerD} (h1:atF v 1=some a) (h2:atF v 2=some b) (hr:rdF v 1= -1) (hn:a.2.2.1=n) (hs:a.2.2.2.1=2) (hh:b.2.2.2.2.1=true) (hb:b.2.2.1≠n):chF v n 1=[(1,a),(2,b)]:=by
 rw [chF,hr,if_neg (by decide),show decide ((0:Int)≤ -1)=false from rfl]
 rw [chR_go (by decide) (by rw [beq_self_eq_true]; rfl) (by rw [h1]; rfl),h1]
 show (1,a)::chR v n false 23 [1] a.2.2.1 a.2.2.2.1= _
 rw [hn,hs,chR_go (by decide) (by rw [beq_self_eq_true]; rfl) (by rw [h2,chStop]; show (false||((false||true)&&!(b.2.2.2.2.1)))=false; rw [hh]; rfl),h2]
 show (1,a)::(2,b)::chR v n false 22 [2,1] b.2.2.1 b.2.2.2.1= _
 rw [chR_no (by rw [beq_false_of_ne hb]; rfl)]
/-- the two versions of the example, and its pages -/
def V1:VerD:=(7,0, -1,0,false,[(1,1,ByteArray.empty)])
def V2:VerD:=(8,0, -1,0,true,[(1,2,ByteArray.empty)])
def H0s:List PgI:=(List.replicate 6 p0).map absP
def H1s:List PgI:=H0s.set 5 (freshP 1 3 V1)
theorem V1_ok:okD V1:=okD_new false (xid:=7) (by decide) (one_row 1 (by decide)).1 (one_row 1 (by decide)).2.1 rfl
theorem V2_ok:okD V2:=okD_new true (xid:=8) (by decide) (one_row 2 (by decide)).1 (one_row 2 (by decide)).2.1 rfl
theorem V1_size:(txD V1).size=18:=by
 rw [txD_size V1_ok]
 show 8+(vbytesF [(1,1,ByteArray.empty)]).size=18
 rw [one_size]
theorem V2_size:(txD V2).size=18:=by
 rw [txD_size V2_ok]
 show 8+(vbytesF [(1,2,ByteArray.empty)]).size=18
 rw [one_size]
theorem H0s_ok:okH H0s:=free_ok 6
theorem H0s_len:H0s.length=6:=rfl
theorem H1s_do:doL 1 H0s [(5, -1,((⟨#[1]⟩:ByteArray),none)),(5,0,(putS 3 2,none)),(5,1,(txD V1,some V1))]=some H1s∧okP (freshP 1 3 V1):=fresh_do (f:=5) (by decide) ⟨by decide,by rw [H0s_len]; decide⟩ V1_ok H0s_ok (by decide)
theorem H1s_ok:okH H1s:=H0s_ok.set H1s_do.2
theorem H1s_len:H1s.length=6:=by rw [H1s,List.length_set]; rfl
theorem H1s_pv:pvL H1s 5=⟨(freshP 1 3 V1).1,(freshP 1 3 V1).2.1,(freshP 1 3 V1).2.2,true⟩:=pvL_at (H:=H0s) (n:=5) ⟨by decide,by rw [H0s_len]; decide⟩
theorem H1s_hd:hdF (pvL H1s 5)=true:=by
 rw [H1s_pv,hdF_eq]
 dsimp only
 rw [fresh_its 1 3 V1_ok,if_neg (by decide),if_pos rfl]
 dsimp only
 rw [putS2_size]; rfl
theorem H1s_at:atF (pvL H1s 5) 1=some V1:=by
 rw [atF_eq,if_pos ⟨H1s_hd,by decide⟩,H1s_pv]
 dsimp only
 rw [show (1:Int).toNat=1 from rfl,fresh_its 1 3 V1_ok,if_pos rfl]
theorem ins_s:insA (pvL H0s) 5 3 [] (txD V1)=((5,1),bgL 5 3++[(5,1,txD V1)],0):=by
 rw [insA,if_neg (by rw [insBad_no V1_ok (by decide) (by decide)]; decide)]
 rfl
theorem upd_s:updA (pvL H1s) (-1) 3 [5] 5 1 8 true [(1,2,ByteArray.empty)]=((5,2),true,[(5,2,txD V2),(5,1,oldB V1 8 5 2)],0):=by
 have hq:updQ (pvL H1s) 5 true (newB 8 true [(1,2,ByteArray.empty)])=2:=by
  rw [updQ,if_pos rfl,H1s_pv]
  exact room_two (v2:=V2) rfl H1s_do.2 V1_ok (by rw [V1_size]; decide) (by rw [V2_size]; decide)
 have hbad:updBad 8 (newB 8 true [(1,2,ByteArray.empty)]) (-1) 3=false:=by
  rw [updBad,show newB 8 true [(1,2,ByteArray.empty)]=txD V2 from rfl,ne_emp V2_ok]; rfl
 rw [updA,H1s_at,if_neg (by simp),if_neg (by rw [hbad]; decide),updR,hq,if_pos (by decide),H1s_at]
 rfl
theorem H2s:∃ H2:List PgI,∃ es:List EdI,es.map edD=[(5,2,txD V2),(5,1,oldB V1 8 5 2)]∧(∀ e∈es,Desc e.2.2.1 e.2.2.2)∧doL 2 H1s es=some H2∧okH H2∧H2.length=6∧chF (pvL H2 5) 5 1=[(1,(7,8,5,2,false,[(1,1,ByteArray.empty)])),(2,V2)]:=by
 have hu:=upd_law (lsn:=2) (tb:=3) (xid:=8) (ns:=[5]) (hot:=true) (rs:=[(1,2,ByteArray.empty)]) H1s_ok (by decide) (by rw [H1s_len]; decide) H1s_at (by decide) (by decide) (one_row 2 (by decide)).1 (one_row 2 (by decide)).2.1 rfl
 rw [upd_s] at hu
 rcases hu with h | h
 ·exact absurd h (by decide)
 ·skip
  obtain ⟨_,es,H2,h1,h2,h3,h4,h5,h6,h7, _⟩:=h
  refine ⟨H2,es,h1,h2,h3,h4,by rw [h5,H1s_len],?_⟩
  exact ch_two (a:=(7,8,5,2,false,[(1,1,ByteArray.empty)])) (b:=V2) h6 h7 (rd_ver h4 h6) rfl rfl rfl (by decide)
end
section
open Go.RowKit
theorem pgs_ok {w:World} {PA:Option Addr} {pc n:Nat} {Ps:List PgD} {H:List PgI} (h:PgsAt w PA Ps) (hl:Ps.length=n) (hH:Ps.map absP=H):PgsOk w 30 (.agg #[.slice PA n pc]) (pvL H):=by
 subst hl hH
 rw [← pvF_abs]
 exact rpages_ok PA pc Ps w h
theorem ins_eq {f:Nat} {args:Array Value} {w:World} {R R':(Int×Int)×List EdD×Int} (h:R=R') (hc:Calls Tryz.prog f args w (InsPost R w)):Calls Tryz.prog f args w (InsPost R' w):=h ▸ hc
theorem upd_eq {f:Nat} {args:Array Value} {w:World} {R R':(Int×Int)×Bool×List EdD×Int} (h:R=R') (hc:Calls Tryz.prog f args w (UpdPost R w)):Calls Tryz.prog f args w (UpdPost R' w):=h ▸ hc
theorem lp_eq {f:Nat} {args:Array Value} {w:World} {t:TypeId} {n:Int} {R R':List (Nat×VerD)} (h:R=R') (hc:Calls Tryz.prog f args w (LPost t R n w)):Calls Tryz.prog f args w (LPost t R' n w):=h ▸ hc
def L1s:List EdD:=bgL 5 3++[(5,1,txD V1)]
def L2s:List EdD:=[(5,2,txD V2),(5,1,oldB V1 8 5 2)]
theorem ins_s1:insA (pvL H0s) 5 3 [] (txD V1)=((5,1),L1s,0):=ins_s
theorem upd_s1:updA (pvL H1s) (-1) 3 [5] 5 1 8 true [(1,2,ByteArray.empty)]=((5,2),true,L2s,0):=upd_s
def es1s:List EdI:=[(5, -1,((⟨#[1]⟩:ByteArray),none)),(5,0,(putS 3 2,none)),(5,1,(txD V1,some V1))]
theorem es1s_desc:∀ e∈es1s,Desc e.2.2.1 e.2.2.2:=fun e he=>by
 simp only [es1s,List.mem_cons,List.not_mem_nil,or_false] at he
 rcases he with rfl | rfl | rfl
 ·show (1:Nat) < 8; decide
 ·show (putS 3 2).size < 8; rw [putS2_size]; decide
 ·exact ⟨V1_ok,rfl⟩
theorem ks_at {ks:List FK} {l:List (Nat×VerD)} {m:Nat} (h:ks.map Prod.fst=l) (hm:m < l.length):(ks.getD m fk0).1=l.getD m (0,zD):=by
 subst h
 rw [List.length_map] at hm
 rw [List.getD_eq_getElem?_getD,List.getD_eq_getElem?_getD,List.getElem?_map,List.getElem?_eq_getElem hm]
 rfl
theorem sanity09_any (w:World) (hN:NoneAt w):
  Calls Tryz.prog 9 #[] w (Ret (.bool true) w):=by
 go_enter Tryz.func9,Tryz.ntmps9
 have hst0:=St.start w
 refine wp_seq (sqr (sqp [.k 0 (.bool false)] ?_))
 refine then_normal (wp_seq (sqr ?_))
 refine sqk1 (fun A14_2=> .agg #[.slice A14_2 6 6]) (fun A14_2=>eO 64 3 (.slice A14_2 6 6) 6 ((List.replicate 6 p0).flatMap pgC)) hst0 (fun cx=>⟨_,(free09_any 6 _ (by decide)).mono (by rintro e W1 ⟨A4,rfl,ho,hx⟩; exact ⟨_,rfl,St.one hx (eO_new ho)⟩),(map1 (cx.co _))⟩) fun A14_2 W2 hst2=>?_
 refine sqal #[.slice none 0 0] hst2 fun B1_3 W3 hst3=>?_
 refine sqst (n:=1) 1 #[.slice A14_2 6 6] hst3 fun W4 hst4=>?_
 refine then_normal (wp_seq ?_)
 have hx5_:=hst4.ext
 have hb5_1:=hst4.blk 1 rfl
 have ha5_0:=At.of_ownN ((hst4.get 0 rfl).holds:World.ownsRow _ 0 64 3 (.slice A14_2 6 6) 6 ((List.replicate 6 p0).flatMap pgC))
 have hN_5:=hN.ext hx5_
 have hS5_:=St.start W4
 clear hst4
 have hP0:=free_at ha5_0 (by decide)
 refine wp_region_Y [0,1,0,0,12,31,63,127,127,127,0,1279,3583,8191] [[],[],[],[],[],[0],[],[],[],[],[],[2]] [[],[],[],[0],[],[1],[],[],[],[],[2],[3]] [[],[],[],[],[],[],[],[],[],[],[],[2]] [.c 16 (.agg #[.slice A14_2 6 6]), .c 17 (.iface 30 (.agg #[.slice A14_2 6 6])), .k 18 (.agg #[vi (-1),vi 0]), .a 19, .a 20, .a 21, .a 15, .c 22 (.agg #[vi 5,vi 1]), .a 23, .c 24 (vi 0), .a 2, .n, .a 3, .k 4 (vi 0)] (fun ix σ β X=>match ix with | 0=>True | 1=>True | 2=>True | 3=>σ 19= .slice (sA (β 19)) 1 1∧X 0=eO 45 3 (.slice (sA (β 19)) 1 1) 1 (flatR [(1,1,ByteArray.empty)]) | 4=>σ 20= .agg #[vi 7,vi 0,vi (-1),vi 0, .bool false, .slice (sA (β 19)) 1 1] | 5=>σ 21= .tuple #[.agg #[vi 5,vi 1], .slice (sA (tg (β 21) 1)) 3 (sC (tg (β 21) 1)),vi 0]∧X 1=eO 49 3 (.slice (sA (tg (β 21) 1)) 3 (sC (tg (β 21) 1))) 3 (L1s.flatMap cellsE) | 6=>σ 15= .tuple #[.agg #[vi 5,vi 1], .slice (sA (tg (β 21) 1)) 3 (sC (tg (β 21) 1)),vi 0] | 7=>True | 8=>σ 23= .slice (sA (tg (β 21) 1)) 3 (sC (tg (β 21) 1)) | 9=>True | 10=>σ 2=vp (pb (β 2))∧X 2=eB (pb (β 2)) 24 #[vi 0,vi 0] | 11=>X 3=eB (pb (β 2)) 24 #[vi 5,vi 1] | 12=>σ 3= .slice (sA (tg (β 21) 1)) 3 (sC (tg (β 21) 1)) | _=>True) [0,1,3] [0,1,3,4,5,6,7,8,9,10,11,12] [(2,10,4,5),(10,6,1,11),(0,0,6,6),(0,7,3,3)] hS5_ ?_ ?_ ?_
 ·exact fun ix _ _ _ _ _ _ hs hb hx h=>match ix,h with
  | 3,h=>by dsimp only; rw [← hs 19 rfl,← hb 19 rfl,← hx 0 rfl]; exact h
  | 4,h=>by dsimp only; rw [← hs 20 rfl,← hb 19 rfl]; exact h
  | 5,h=>by dsimp only; rw [← hs 21 rfl,← hb 21 rfl,← hx 1 rfl]; exact h
  | 6,h=>by dsimp only; rw [← hs 15 rfl,← hb 21 rfl]; exact h
  | 8,h=>by dsimp only; rw [← hs 23 rfl,← hb 21 rfl]; exact h
  | 10,h=>by dsimp only; rw [← hs 2 rfl,← hb 2 rfl,← hx 2 rfl]; exact h
  | 11,h=>by dsimp only; rw [← hb 2 rfl,← hx 3 rfl]; exact h
  | 12,h=>by dsimp only; rw [← hs 3 rfl,← hb 21 rfl]; exact h
  | 0, _ | 1, _ | 2, _ | 7, _ | 9, _ | _+13, _=>trivial
 ·refine ⟨?_,?_,?_,?_,?_,?_,?_,?_,?_,?_,?_,?_,trivial⟩
  ·exact xs4 rfl id fun cx=>run_loadB (n:=1) rfl (by kernel_rfl) (by kernel_rfl) (cx.ou 1) (Blk.ext hb5_1 cx.upd.to_ext) (nle rfl) rfl
  ·exact sv0 rfl rfl rfl rfl rfl (fun _ _ _ h=>h) fun ρ β W X cx=>by
    have fF16:ρ (.tmp 16)= .agg #[.slice A14_2 6 6]:=(cx.an 0)
    simp [go_sem,fF16]
  ·refine svA fun ρ β W X cx=>?_
   refine DoesU.call (run_callF (args:=#[vi 1]) rfl cx.sees rfl (by kernel_rfl) (map1 (cx.co _))) ?_
   refine (whole09_any 1 _).mono ?_
   rintro e W1 ⟨A4,rfl,ho,hx⟩
   refine ⟨_,rfl,post_call [eO 45 3 (.slice A4 1 1) 1 (flatR [(1,1,ByteArray.empty)])] rfl rfl hx (one_new (eO_new ho)) (List.pairwise_singleton _ _) (fun σ β' X' hs hb hv hN=>?_)⟩
   have hv1:=(hv 19 rfl).1; have hv2:=(hv 19 rfl).2
   exact ⟨hv1.trans (by rw [hv2]; rfl),(by rw [hv2]; exact (List.cons.inj hN).1)⟩
  ·exact sv rfl rfl rfl rfl rfl _ (fun _ _ _ h=>h) (fun β β' h=>by rw [h 19 (by decide)]) fun ρ β W X cx=>run_buildL rfl (pmc (cx.co _) (pmc (cx.an 2) (pmc (dTn (cx.an 3)).1 pmn))) (by kernel_rfl)
  ·refine svA fun ρ β W X cx=>?_
   refine DoesU.call (run_callF (args:=#[.iface 30 (.agg #[.slice A14_2 6 6]), .slice none 0 0,vi 5,vi 3, .agg #[vi 7,vi 0,vi (-1),vi 0, .bool false, .slice (sA (β 19)) 1 1]]) rfl cx.sees rfl (by kernel_rfl) (map5 (cx.an 1) (cx.co _) (cx.co _) (cx.co _) (dTn (cx.an 4)))) ?_
   refine (ins_eq ins_s1 (hinsert_any _ _ (pvL H0s) _ _ [] 5 3 7 0 (-1) 0 false _ _ [(1,1,ByteArray.empty)] _ (pgs_ok (hP0.ext cx.upd.to_ext) (List.length_replicate ..) rfl) (At.nil _ _) (by decide) (At.of_ownN (cx.row (dTn (cx.an 3)).2 rfl)) (by decide) (hN_5.ext cx.upd.to_ext))).mono ?_
   rintro e W1 ⟨A4,c4,rfl,ho_,hx⟩
   refine ⟨_,rfl,post_call [eO 49 3 (.slice A4 3 c4) 3 (L1s.flatMap cellsE)] rfl rfl hx (one_new (eO_new (n:=3) (xs:=L1s.flatMap cellsE) ho_)) (List.pairwise_singleton _ _) (fun σ β' X' hs hb hv hN=>?_)⟩
   have hv1:=(hv 21 rfl).1; have hv2:=(hv 21 rfl).2
   exact ⟨hv1.trans (by rw [hv2]; rfl),(by rw [hv2]; exact (List.cons.inj hN).1)⟩
  ·exact sv rfl rfl rfl rfl rfl _ (fun _ _ _ h=>h) (fun β β' h=>by rw [h 21 (by decide)]) fun ρ β W X cx=>run_move' rfl (dTn (cx.an 5)).1
  ·exact xs4 rfl id fun cx=>run_extract' rfl (dTn (cx.an 6)) rfl
  ·exact sv rfl rfl rfl rfl rfl _ (fun _ _ _ h=>h) (fun β β' h=>by rw [h 21 (by decide)]) fun ρ β W X cx=>run_extract' rfl (dTn (cx.an 6)) rfl
  ·exact xs4 rfl id fun cx=>run_extract' rfl (dTn (cx.an 6)) rfl
  ·refine svA fun ρ β W X cx=>?_
   exact dv_alloc (cs:=#[vi 0,vi 0]) rfl (by kernel_rfl) rfl rfl (fun σ β' X' hs hb hv hx=>⟨hv,hx⟩)
  ·refine svA fun ρ β W X cx=>?_
   exact dv_store (n:=2) rfl (dTn (cx.an 10)).1 (cx.an 7) (by kernel_rfl) (by kernel_rfl) (by kernel_rfl) cx (dTn (cx.an 10)).2 rfl (nle rfl) (by kernel_rfl) rfl rfl rfl (fun σ β' X' hs hb hx=>by rw [hb 2]; exact hx)
  ·exact sv rfl rfl rfl rfl rfl _ (fun _ _ _ h=>h) (fun β β' h=>by rw [h 21 (by decide)]) fun ρ β W X cx=>run_assign' rfl (dTn (cx.an 8))
 intro σ β X W6 hD hst6 fr hfr
 obtain ⟨A19_6,hu_A19_6⟩:∃ z,sA (β 19)=z:=⟨_,rfl⟩
 obtain ⟨A21_6,hu_A21_6⟩:∃ z,sA (tg (β 21) 1)=z:=⟨_,rfl⟩
 obtain ⟨c21_6,hu_c21_6⟩:∃ z,sC (tg (β 21) 1)=z:=⟨_,rfl⟩
 obtain ⟨B2_6,hu_B2_6⟩:∃ z,pb (β 2)=z:=⟨_,rfl⟩
 simp only [exq 0 ((dTn (hD 3 lq)).2),exq 1 ((dTn (hD 5 lq)).2),exq 3 ((dTn (hD 11 lq))),hu_A19_6,hu_A21_6,hu_c21_6,hu_B2_6] at hst6
 simp only [ed 19 ((dTn (hD 3 lq)).1),ed 20 ((dTn (hD 4 lq))),ed 21 ((dTn (hD 5 lq)).1),ed 15 ((dTn (hD 6 lq))),ed 23 ((dTn (hD 8 lq))),ed 2 ((dTn (hD 10 lq)).1),ed 3 ((dTn (hD 12 lq))),hu_A19_6,hu_A21_6,hu_c21_6,hu_B2_6] at hfr
 clear hD hu_A19_6 hu_A21_6 hu_c21_6 hu_B2_6; subst hfr; clear σ β X
 refine then_normal (wp_seq (sqr ?_))
 refine sql (.agg #[.slice A14_2 6 6]) hst6 (fun cx=>run_loadB (n:=1) rfl (by kernel_rfl) (by kernel_rfl) (cx.ou 1) (Blk.ext hb5_1 cx.upd.to_ext) (nle rfl) rfl) ?_
 refine sqp [.m 27 3] ?_
 refine sqk2s (fun A28_9 c28_9=> .tuple #[.agg #[.slice A28_9 6 c28_9], .bool true]) (fun A28_9 c28_9 r3_9=>eDo (List.replicate 6 p0) H1s 6 A28_9 r3_9) hst6 (fun cx=>⟨_,(rdo9_n (es:=es1s) (List.length_replicate ..) (by have:=congrArg List.length (rfl:List.map edD es1s=L1s); rw [List.length_map] at this; exact this) (by decide) (hP0.ext cx.upd.to_ext) (by rw [← edD_cells,(rfl:List.map edD es1s=L1s)]; exact (At.of_ownN (cx.ri 1 rfl))) (by first | omega | decide) es1s_desc ⟨by decide,by decide⟩ (by rw [(rfl:List.map absP (List.replicate 6 p0)=H0s)]; exact H0s_ok) (by rw [(rfl:List.map absP (List.replicate 6 p0)=H0s)]; exact H1s_do.1)).mono (by rintro e W1 ⟨A4,c4,fp4,rfl,hc⟩; exact ⟨_, _, _,rfl,hc⟩),(map3 (cx.ou 26) (cx.ou 27) (cx.co _))⟩) fun A28_9 c28_9 r3_9 W9 hst9=>?_
 refine sqp [.m 25 28, .k 29 (.agg #[.slice A28_9 6 c28_9]), .k 30 (.bool true)] ?_
 refine sqal #[.slice none 0 0] hst9 fun B5_13 W13 hst13=>?_
 refine sqst (n:=1) 4 #[.slice A28_9 6 c28_9] hst13 fun W14 hst14=>?_
 refine sqp [.k 6 (.bool true)] ?_
 refine then_normal (wp_seq (wp_seq ?_))
 have hx16_:=hst14.ext
 have hX16_:=hx5_.trans hx16_
 have hB16_0:=Blk.ext hb5_1 hx16_
 have hb16_2:=hst14.blk 2 rfl
 have hb16_4:=hst14.blk 4 rfl
 have hA16_0:=ha5_0.ext hx16_
 have ha16_0:=At.of_ownN ((hst14.get 0 rfl).holds:World.ownsRow _ 0 45 3 (.slice A19_6 1 1) 1 (flatR [(1,1,ByteArray.empty)]))
 have ha16_1:=At.of_ownN ((hst14.get 1 rfl).holds:World.ownsRow _ 0 49 3 (.slice A21_6 3 c21_6) 3 (L1s.flatMap cellsE))
 have hN_16:=hN_5.ext hx16_
 have hP0_16:=hP0.ext hx16_
 obtain ⟨Ps17_,hH17_,hP17_⟩:=eDo_at ((hst14.get 3 rfl).holds) hP0_16 H1s_ok (by rw [H1s_len]; decide)
 have hl17_:Ps17_.length=6:=by have:=congrArg List.length hH17_; rw [List.length_map,H1s_len] at this; exact this
 have hS16_:=St.start W14
 clear hst14
 refine sqr (sqp [.m 31 4, .k 32 (.bool false), .k 33 (.bool false)] ?_)
 refine sqgy 33 [34,35] rfl rfl ?_
 refine sqp [.k 34 (.bool true), .k 35 (.bool false)] ?_
 refine sqp [.k 36 (.bool false), .k 37 (.bool false)] ?_
 refine sqgy 37 [38,39,40] rfl rfl ?_
 refine sql (.agg #[vi 5,vi 1]) hS16_ (fun cx=>run_loadB (n:=2) rfl (by kernel_rfl) (by kernel_rfl) (cx.ou 2) (Blk.ext hb16_2 cx.upd.to_ext) (nle rfl) rfl) ?_
 refine sqp [.k 39 (.agg #[vi 5,vi 1])] ?_
 refine sql (.bool false) hS16_ (fun cx=>run_neT rfl (cx.ou 38) (cx.ou 39) (by decide)) ?_
 refine sqp [.k 41 (.bool false), .k 42 (.bool false)] ?_
 refine sqgy 42 [43,44,45] rfl rfl ?_
 refine sqp [.m 43 3, .k 44 (vi 3), .k 45 (.bool false)] ?_
 refine sqp [.k 46 (.bool false)] ?_
 refine then_normal (wcf rfl (wp_skip (then_normal (wp_seq (wp_region_Y [0,1,0,0,0,31,63,127,127,127,127,0,2303,6655,15359,32767] [[],[],[],[],[],[0,1],[],[],[],[],[],[],[3]] [[],[],[0],[],[1],[2],[],[],[],[],[],[3],[4]] [[],[],[],[],[],[],[],[],[],[],[],[],[3]] [.c 48 (.agg #[.slice A28_9 6 c28_9]), .c 49 (.iface 30 (.agg #[.slice A28_9 6 c28_9])), .a 50, .c 51 (.agg #[vi 5,vi 1]), .a 52, .a 53, .a 47, .c 54 (.agg #[vi 5,vi 2]), .c 55 (.bool true), .a 56, .c 57 (vi 0), .a 7, .n, .k 8 (.bool true), .a 9, .k 10 (vi 0)] (fun ix σ β X=>match ix with | 0=>True | 1=>True | 2=>σ 50= .slice (sA (β 50)) 1 1∧X 0=eO 3 1 (.slice (sA (β 50)) 1 1) 1 ([vi 5]) | 3=>True | 4=>σ 52= .slice (sA (β 52)) 1 1∧X 1=eO 45 3 (.slice (sA (β 52)) 1 1) 1 (flatR [(1,2,ByteArray.empty)]) | 5=>σ 53= .tuple #[.agg #[vi 5,vi 2], .bool true, .slice (sA (tg (β 53) 2)) 2 (sC (tg (β 53) 2)),vi 0]∧X 2=eO 49 3 (.slice (sA (tg (β 53) 2)) 2 (sC (tg (β 53) 2))) 2 (L2s.flatMap cellsE) | 6=>σ 47= .tuple #[.agg #[vi 5,vi 2], .bool true, .slice (sA (tg (β 53) 2)) 2 (sC (tg (β 53) 2)),vi 0] | 7=>True | 8=>True | 9=>σ 56= .slice (sA (tg (β 53) 2)) 2 (sC (tg (β 53) 2)) | 10=>True | 11=>σ 7=vp (pb (β 7))∧X 3=eB (pb (β 7)) 24 #[vi 0,vi 0] | 12=>X 4=eB (pb (β 7)) 24 #[vi 5,vi 2] | 13=>True | 14=>σ 9= .slice (sA (tg (β 53) 2)) 2 (sC (tg (β 53) 2)) | _=>True) [0,1,2,4] [0,1,2,3,4,5,6,7,8,9,10,11,12,14] [(7,11,5,11),(36,6,1,37),(0,0,6,6),(0,7,4,4)] hS16_ ?_ ?_ ?_)))))
 ·exact fun ix _ _ _ _ _ _ hs hb hx h=>match ix,h with
  | 2,h=>by dsimp only; rw [← hs 50 rfl,← hb 50 rfl,← hx 0 rfl]; exact h
  | 4,h=>by dsimp only; rw [← hs 52 rfl,← hb 52 rfl,← hx 1 rfl]; exact h
  | 5,h=>by dsimp only; rw [← hs 53 rfl,← hb 53 rfl,← hx 2 rfl]; exact h
  | 6,h=>by dsimp only; rw [← hs 47 rfl,← hb 53 rfl]; exact h
  | 9,h=>by dsimp only; rw [← hs 56 rfl,← hb 53 rfl]; exact h
  | 11,h=>by dsimp only; rw [← hs 7 rfl,← hb 7 rfl,← hx 3 rfl]; exact h
  | 12,h=>by dsimp only; rw [← hb 7 rfl,← hx 4 rfl]; exact h
  | 14,h=>by dsimp only; rw [← hs 9 rfl,← hb 53 rfl]; exact h
  | 0, _ | 1, _ | 3, _ | 7, _ | 8, _ | 10, _ | 13, _ | _+15, _=>trivial
 ·refine ⟨?_,?_,?_,?_,?_,?_,?_,?_,?_,?_,?_,?_,?_,?_,trivial⟩
  ·exact xs4 rfl id fun cx=>run_loadB (n:=1) rfl (by kernel_rfl) (by kernel_rfl) (cx.ou 5) (Blk.ext hb16_4 cx.upd.to_ext) (nle rfl) rfl
  ·exact sv0 rfl rfl rfl rfl rfl (fun _ _ _ h=>h) fun ρ β W X cx=>by
    have fF48:ρ (.tmp 48)= .agg #[.slice A28_9 6 c28_9]:=(cx.an 0)
    simp [go_sem,fF48]
  ·refine svA fun ρ β W X cx=>?_
   exact dv_lit (e:=3) (xs:=[vi 5]) rfl (by simp [go_sem,cx.sees.const]) rfl (by decide) rfl rfl (fun σ β' X' hs hb hv hx=>⟨hv,hx⟩)
  ·exact xs4 rfl id fun cx=>run_loadB (n:=2) rfl (by kernel_rfl) (by kernel_rfl) (cx.ou 2) (Blk.ext hb16_2 cx.upd.to_ext) (nle rfl) rfl
  ·refine svA fun ρ β W X cx=>?_
   refine DoesU.call (run_callF (args:=#[vi 2]) rfl cx.sees rfl (by kernel_rfl) (map1 (cx.co _))) ?_
   refine (whole09_any 2 _).mono ?_
   rintro e W1 ⟨A4,rfl,ho,hx⟩
   refine ⟨_,rfl,post_call [eO 45 3 (.slice A4 1 1) 1 (flatR [(1,2,ByteArray.empty)])] rfl rfl hx (one_new (eO_new ho)) (List.pairwise_singleton _ _) (fun σ β' X' hs hb hv hN=>?_)⟩
   have hv1:=(hv 52 rfl).1; have hv2:=(hv 52 rfl).2
   exact ⟨hv1.trans (by rw [hv2]; rfl),(by rw [hv2]; exact (List.cons.inj hN).1)⟩
  ·refine svA fun ρ β W X cx=>?_
   refine DoesU.call (run_callF (args:=#[.iface 30 (.agg #[.slice A28_9 6 c28_9]), .slice (sA (β 50)) 1 1,vi (-1),vi 3, .agg #[vi 5,vi 1],vi 8, .slice (sA (β 52)) 1 1, .bool true]) rfl cx.sees rfl (by kernel_rfl) (map8 (cx.an 1) (dTn (cx.an 2)).1 (cx.co _) (cx.co _) (cx.an 3) (cx.co _) (dTn (cx.an 4)).1 (cx.co _))) ?_
   refine (upd_eq upd_s1 (hupdate_any _ _ (pvL H1s) _ _ [5] (-1) 3 5 1 8 _ _ [(1,2,ByteArray.empty)] true _ (pgs_ok (hP17_.ext cx.upd.to_ext) hl17_ hH17_) (At.of_own (cx.row (dTn (cx.an 2)).2 rfl)) (by decide) (At.of_ownN (cx.row (dTn (cx.an 4)).2 rfl)) (by decide) (hN_16.ext cx.upd.to_ext))).mono ?_
   rintro e W1 ⟨A4,c4,rfl,ho_,hx⟩
   refine ⟨_,rfl,post_call [eO 49 3 (.slice A4 2 c4) 2 (L2s.flatMap cellsE)] rfl rfl hx (one_new (eO_new (n:=2) (xs:=L2s.flatMap cellsE) ho_)) (List.pairwise_singleton _ _) (fun σ β' X' hs hb hv hN=>?_)⟩
   have hv1:=(hv 53 rfl).1; have hv2:=(hv 53 rfl).2
   exact ⟨hv1.trans (by rw [hv2]; rfl),(by rw [hv2]; exact (List.cons.inj hN).1)⟩
  ·exact sv rfl rfl rfl rfl rfl _ (fun _ _ _ h=>h) (fun β β' h=>by rw [h 53 (by decide)]) fun ρ β W X cx=>run_move' rfl (dTn (cx.an 5)).1
  ·exact xs4 rfl id fun cx=>run_extract' rfl (dTn (cx.an 6)) rfl
  ·exact xs4 rfl id fun cx=>run_extract' rfl (dTn (cx.an 6)) rfl
  ·exact sv rfl rfl rfl rfl rfl _ (fun _ _ _ h=>h) (fun β β' h=>by rw [h 53 (by decide)]) fun ρ β W X cx=>run_extract' rfl (dTn (cx.an 6)) rfl
  ·exact xs4 rfl id fun cx=>run_extract' rfl (dTn (cx.an 6)) rfl
  ·refine svA fun ρ β W X cx=>?_
   exact dv_alloc (cs:=#[vi 0,vi 0]) rfl (by kernel_rfl) rfl rfl (fun σ β' X' hs hb hv hx=>⟨hv,hx⟩)
  ·refine svA fun ρ β W X cx=>?_
   exact dv_store (n:=2) rfl (dTn (cx.an 11)).1 (cx.an 7) (by kernel_rfl) (by kernel_rfl) (by kernel_rfl) cx (dTn (cx.an 11)).2 rfl (nle rfl) (by kernel_rfl) rfl rfl rfl (fun σ β' X' hs hb hx=>by rw [hb 7]; exact hx)
  ·exact sv rfl rfl rfl rfl rfl _ (fun _ _ _ h=>h) (fun β β' h=>by rw [h 53 (by decide)]) fun ρ β W X cx=>run_assign' rfl (dTn (cx.an 9))
 intro σ β X W34 hD hst34 fr hfr
 obtain ⟨A50_34,hu_A50_34⟩:∃ z,sA (β 50)=z:=⟨_,rfl⟩
 obtain ⟨A52_34,hu_A52_34⟩:∃ z,sA (β 52)=z:=⟨_,rfl⟩
 obtain ⟨A53_34,hu_A53_34⟩:∃ z,sA (tg (β 53) 2)=z:=⟨_,rfl⟩
 obtain ⟨c53_34,hu_c53_34⟩:∃ z,sC (tg (β 53) 2)=z:=⟨_,rfl⟩
 obtain ⟨B7_34,hu_B7_34⟩:∃ z,pb (β 7)=z:=⟨_,rfl⟩
 simp only [exq 0 ((dTn (hD 2 lq)).2),exq 1 ((dTn (hD 4 lq)).2),exq 2 ((dTn (hD 5 lq)).2),exq 4 ((dTn (hD 12 lq))),hu_A50_34,hu_A52_34,hu_A53_34,hu_c53_34,hu_B7_34] at hst34
 simp only [ed 50 ((dTn (hD 2 lq)).1),ed 52 ((dTn (hD 4 lq)).1),ed 53 ((dTn (hD 5 lq)).1),ed 47 ((dTn (hD 6 lq))),ed 56 ((dTn (hD 9 lq))),ed 7 ((dTn (hD 11 lq)).1),ed 9 ((dTn (hD 14 lq))),hu_A50_34,hu_A52_34,hu_A53_34,hu_c53_34,hu_B7_34] at hfr
 clear hD hu_A50_34 hu_A52_34 hu_A53_34 hu_c53_34 hu_B7_34; subst hfr; clear σ β X
 refine then_normal (wp_seq ?_)
 obtain ⟨H2,es2,hem2,hed2,hdo2,hok2,hl2,hch⟩:=H2s
 refine sqr ?_
 refine sql (.agg #[.slice A28_9 6 c28_9]) hst34 (fun cx=>run_loadB (n:=1) rfl (by kernel_rfl) (by kernel_rfl) (cx.ou 5) (Blk.ext hb16_4 cx.upd.to_ext) (nle rfl) rfl) ?_
 refine sqp [.m 60 9] ?_
 refine sqk2s (fun A61_37 c61_37=> .tuple #[.agg #[.slice A61_37 6 c61_37], .bool true]) (fun A61_37 c61_37 r4_37=>eDo Ps17_ H2 6 A61_37 r4_37) hst34 (fun cx=>⟨_,(rdo9_n (es:=es2) hl17_ (by have:=congrArg List.length (hem2:List.map edD es2=L2s); rw [List.length_map] at this; exact this) (by decide) (hP17_.ext cx.upd.to_ext) (by rw [← edD_cells,(hem2:List.map edD es2=L2s)]; exact (At.of_ownN (cx.ri 2 rfl))) (by first | omega | decide) hed2 ⟨by decide,by decide⟩ (by rw [(hH17_:List.map absP Ps17_=H1s)]; exact H1s_ok) (by rw [(hH17_:List.map absP Ps17_=H1s)]; exact hdo2)).mono (by rintro e W1 ⟨A4,c4,fp4,rfl,hc⟩; exact ⟨_, _, _,rfl,hc⟩),(map3 (cx.ou 59) (cx.ou 60) (cx.co _))⟩) fun A61_37 c61_37 r4_37 W37 hst37=>?_
 refine sqp [.m 58 61, .k 62 (.agg #[.slice A61_37 6 c61_37]), .k 63 (.bool true)] ?_
 refine sqal #[.slice none 0 0] hst37 fun B11_41 W41 hst41=>?_
 refine sqst (n:=1) 5 #[.slice A61_37 6 c61_37] hst41 fun W42 hst42=>?_
 refine sqp [.k 12 (.bool true)] ?_
 refine then_normal (wp_seq ?_)
 have hx44_:=hst42.ext
 have hX44_:=hX16_.trans hx44_
 have hB44_0:=Blk.ext hB16_0 hx44_
 have hB44_1:=Blk.ext hb16_2 hx44_
 have hB44_2:=Blk.ext hb16_4 hx44_
 have hb44_3:=hst42.blk 3 rfl
 have hb44_5:=hst42.blk 5 rfl
 have hA44_0:=hA16_0.ext hx44_
 have hA44_1:=ha16_0.ext hx44_
 have hA44_2:=ha16_1.ext hx44_
 have ha44_0:=At.of_own ((hst42.get 0 rfl).holds:World.ownsRow _ 0 3 1 (.slice A50_34 1 1) 1 ([vi 5]))
 have ha44_1:=At.of_ownN ((hst42.get 1 rfl).holds:World.ownsRow _ 0 45 3 (.slice A52_34 1 1) 1 (flatR [(1,2,ByteArray.empty)]))
 have ha44_2:=At.of_ownN ((hst42.get 2 rfl).holds:World.ownsRow _ 0 49 3 (.slice A53_34 2 c53_34) 2 (L2s.flatMap cellsE))
 have hN_44:=hN_16.ext hx44_
 have hP0_44:=hP0_16.ext hx44_
 have hP17__44:=hP17_.ext hx44_
 obtain ⟨Ps45_,hH45_,hP45_⟩:=eDo_at ((hst42.get 4 rfl).holds) hP17__44 hok2 (by rw [hl2]; decide)
 have hl45_:Ps45_.length=6:=by have:=congrArg List.length hH45_; rw [List.length_map,hl2] at this; exact this
 have hS44_:=St.start W42
 clear hst42
 refine sqr ?_
 refine sql (.agg #[.slice A61_37 6 c61_37]) hS44_ (fun cx=>run_loadB (n:=1) rfl (by kernel_rfl) (by kernel_rfl) (cx.ou 11) (Blk.ext hb44_5 cx.upd.to_ext) (nle rfl) rfl) ?_
 refine sqv (.iface 30 (.agg #[.slice A61_37 6 c61_37])) hS44_ (by
   exact sv0 rfl rfl rfl rfl rfl (fun _ _ _ h=>h) fun ρ β W X cx=>by
    have fF64:ρ (.tmp 64)= .agg #[.slice A61_37 6 c61_37]:=(cx.ou 64)
    simp [go_sem,fF64]) fun W47 hst47=>?_
 refine sql (.agg #[vi 5,vi 1]) hst47 (fun cx=>run_loadB (n:=2) rfl (by kernel_rfl) (by kernel_rfl) (cx.ou 2) (Blk.ext hB44_1 cx.upd.to_ext) (nle rfl) rfl) ?_
 refine sqk2 (fun A67_49 c67_49=> .slice A67_49 2 c67_49) (fun A67_49 c67_49=>eFnd 43 (.slice A67_49 2 c67_49) [(1,(7,8,5,2,false,[(1,1,ByteArray.empty)])),(2,V2)] 5) hst47 (fun cx=>⟨_,(lp_eq hch (hchain_any _ _ (pvL H2) 5 1 _ (pgs_ok (hP45_.ext cx.upd.to_ext) hl45_ hH45_) (hN_44.ext cx.upd.to_ext) (by decide))).mono (by rintro e W1 ⟨A4,c4,ks4,hks4,rfl,ho_,hx⟩; exact ⟨_, _,rfl,St.one hx (eFnd_new hks4 ho_)⟩),(map2 (cx.ou 65) (cx.ou 66))⟩) fun A67_49 c67_49 W49 hst49=>?_
 refine sqp [.m 13 67] ?_
 refine then_normal (wp_seq ?_)
 obtain ⟨ks,hks,hKO⟩:=(hst49.get 0 rfl).holds
 have hm51:=St.repl (L1:=[]) (L2:=[]) (E':=eO 43 8 (.slice A67_49 2 c67_49) 2 (ks.flatMap (cellsF 5))) hst49 rfl (fun _=>hKO) (eO_loc _ _ _ _ _)
 simp only [List.cons_append,List.nil_append] at hm51
 have hkl:ks.length=2:=ks_len hks
 have hk0:=ks_at (m:=0) hks (by decide)
 have hk1:=ks_at (m:=1) hks (by decide)
 have hd53:(5==5&&((ks.getD 1 fk0).1.1:Int)==2)=true:=(by rw [hk1]; rfl)
 have hd54:(((ks.getD 0 fk0).1.2.2.1)==8)=true:=(by rw [hk0]; rfl)
 refine wp_region_Z [0,1,3,7,15,31,63,127,255,511,511,2047,4095,8191,16383,32767,65535,131071,262143,524287,1048575,2097151,4194303,524287,16777215,33554431,67108863,134217727,268435455,536870911,1073741823,2147483647,4294967295,8589934591,17179869183] [[],[],[],[],[],[],[],[],[],[],[],[],[],[],[],[],[],[],[],[],[0],[],[0],[],[],[],[],[],[0],[],[],[0]] [.k 68 (vi 0), .k 69 (.bool true), .k 70 (.bool true), .k 71 (.bool true), .k 72 (.bool true), .k 73 (.bool true), .k 74 (.bool true), .k 75 (.bool true), .k 76 (.bool true), .c 77 (.agg #[vi 5,vi 2]), .k 78 (.agg #[vi 5,vi 2]), .c 79 (.bool true), .k 80 (.bool true), .k 81 (.bool true), .k 82 (.slice A67_49 2 c67_49), .k 83 (vi 2), .k 84 (.bool true), .k 85 (.bool true), .k 86 (.bool true), .k 87 (.slice A67_49 2 c67_49), .c 88 (.pointer (some ((ad A67_49).add (1*8)))), .c 89 (.pointer (some ((ad A67_49).add (1*8+0)))), .c 90 (.agg #[vi 5,vi (((ks.getD 1 fk0).1.1:Int))]), .c 91 (.agg #[vi 5,vi 2]), .c 92 (.bool true), .k 93 (.bool true), .k 94 (.bool true), .k 95 (.slice A67_49 2 c67_49), .c 96 (.pointer (some ((ad A67_49).add (0*8)))), .c 97 (.pointer (some ((ad A67_49).add (0*8+2)))), .c 98 (.pointer (some ((ad A67_49).add (0*8+2+1)))), .c 99 (vi ((ks.getD 0 fk0).1.2.2.1)), .e 100 (.bool (((ks.getD 0 fk0).1.2.2.1)==8)) (.bool true) (congrArg Value.bool hd54), .k 101 (.bool true), .k 0 (.bool true)] [0] [9,11,20,21,22,23,24,28,29,30,31] [(0,34,1,1),(67,0,34,101)] hm51 ?_ fun W52 hst52=>?_
 ·refine ⟨?_,?_,?_,?_,?_,?_,?_,?_,?_,?_,?_,trivial⟩
  ·exact xs5 rfl id (fun cx=>(cx.an 8)) fun cx=>run_loadB (n:=2) rfl (by kernel_rfl) (by kernel_rfl) (cx.ou 7) (Blk.ext hb44_3 cx.upd.to_ext) (nle rfl) rfl
  ·exact xs5 rfl id (fun cx=>(cx.an 8)) fun cx=>run_eqT rfl (cx.an 9) (cx.an 10) (by decide)
  ·exact xs5 rfl id (fun cx=>(cx.an 18)) fun cx=>run_indexSlM (e:=43) (m:=1) (sz:=8) rfl (by kernel_rfl) (by kernel_rfl) (cx.an 19) (cx.co _) (by omega) (by omega) (At.of_ownN (cx.ri 0 rfl)) (flatPos (sz:=8) (cellsF_len 5) (by decide) (by omega))
  ·exact xs5 rfl id (fun cx=>(cx.an 18)) fun cx=>run_fieldAd rfl (by kernel_rfl) (cx.an 20)
  ·exact xs5 rfl id (fun cx=>(cx.an 18)) fun cx=>run_loadElt (f:=(cellsF 5)) (m:=1) (sz:=8) (off:=0) (n:=2) rfl (by kernel_rfl) (by kernel_rfl) (cx.an 21) rfl (cellsF_len 5) (At.of_ownN (cx.ri 0 rfl)) (getD_some (ts:=ks) (m:=1) fk0 (by omega)) (fun k hk=>match k,hk with | 0, _=>rfl | 1, _=>rfl | k+2,hk=>absurd hk (by omega))
  ·exact xs5 rfl id (fun cx=>(cx.an 18)) fun cx=>run_loadB (n:=2) rfl (by kernel_rfl) (by kernel_rfl) (cx.ou 7) (Blk.ext hb44_3 cx.upd.to_ext) (nle rfl) rfl
  ·exact s5 rfl (fun _ _ _ h=>h.trans (congrArg Value.bool hd53)) (fun cx=>(cx.an 18)) fun cx=>run_eqT rfl (cx.an 22) (cx.an 23) rfl
  ·exact xs5 rfl id (fun cx=>(cx.an 26)) fun cx=>run_indexSlM (e:=43) (m:=0) (sz:=8) rfl (by kernel_rfl) (by kernel_rfl) (cx.an 27) (cx.co _) (by omega) (by omega) (At.of_ownN (cx.ri 0 rfl)) (flatPos (sz:=8) (cellsF_len 5) (by decide) (by omega))
  ·exact xs5 rfl id (fun cx=>(cx.an 26)) fun cx=>run_fieldAd rfl (by kernel_rfl) (cx.an 28)
  ·exact xs5 rfl id (fun cx=>(cx.an 26)) fun cx=>run_fieldAd rfl (by kernel_rfl) (cx.an 29)
  ·exact xs5 rfl id (fun cx=>(cx.an 26)) fun cx=>run_load1 rfl (by kernel_rfl) (cx.an 30) (At.eltc (f:=(cellsF 5)) (k:=3) (cellsF_len 5) (At.of_ownN (cx.ri 0 rfl)) (getD_some (ts:=ks) (m:=0) fk0 (by omega)) rfl)
 refine then_normal (wp_ret ?_)
 refine bpr (.bool true) (results_1 Tryz.results9 rpt) ?_
 exact Ret.bool rfl (hX44_.trans hst52.ext)
end
section
open Go.RowKit
theorem rmade9_m (LA:Option Addr) (lc:Nat) (s:List Int) (n:Nat) (w:World) (hn:n=s.length) (hA:At w LA (s.map (Value.int .i64))) (hl:s.length≤1000000):Calls Tryz.prog 48 #[.slice LA n lc] w (MadePost s w):=by
 subst hn; exact rmade9_any LA lc s w hA hl
theorem made09_any (SA:Option Addr) (sc:Nat) (s:List Int) (w:World) (hS:At w SA (s.map (Value.int .i64))) (hsc:s.length≤sc):
  Calls Tryz.prog 10 #[.slice SA s.length sc] w (MadePost (s.take 200) w):=by
 go_enter Tryz.func10,Tryz.ntmps10
 have hst0:=St.start w
 refine wp_seq (sqr (sqal #[.slice none 0 0] hst0 fun B2_1 W1 hst1=>?_))
 refine then_normal (wp_seq ?_)
 obtain ⟨m1,hminm1,htkm1,hlem1,hem1⟩:=cut_len s 200
 refine sqr (sqp [.m 3 0, .m 4 0, .k 5 (vi ((s.length:Int)))] ?_)
 refine sql (vi ((m1:Int))) hst1 (fun cx=>run_min2 rfl (cx.ou 5) (cx.co _) (hminm1)) ?_
 refine sql (.slice SA m1 sc) hst1 (fun cx=>run_sliceL_hi (e:=3) (sz:=1) (m:=m1) rfl (by kernel_rfl) (by kernel_rfl) (cx.ou 3) (cx.ou 6) (by omega) (by omega)) ?_
 refine sqk2s (fun A8_7 c8_7=> .agg #[.slice A8_7 5 c8_7]) (fun A8_7 c8_7 r1_7=>eMd (s.take 200) A8_7 r1_7) hst1 (fun cx=>⟨_,(rmade9_m _ _ (s.take 200) _ _ hem1 (by rw [← htkm1]; exact (At.take_mapI (hS.ext cx.upd.to_ext) m1)) (by rw [List.length_take]; omega)).mono (by rintro e W1 ⟨A4,c4,fp4,rfl,hc⟩; exact ⟨_, _, _,rfl,hc⟩),(map1 (cx.ou 7))⟩) fun A8_7 c8_7 r1_7 W7 hst7=>?_
 refine sqst (n:=1) 0 #[.slice A8_7 5 c8_7] hst7 fun W8 hst8=>?_
 refine then_normal (wp_ret ?_)
 refine bpr (.agg #[.slice A8_7 5 c8_7]) (results_cell (n:=1) Tryz.results10 rfl (by kernel_rfl) (by kernel_rfl) (hst8.blk 0 rfl) rfl) ?_
 exact ⟨_, _, _,rfl,hst8.pick [1] (by decide) rfl⟩
end
section
open Go.RowKit
def stdL (ls:List Int):Nat→List Int
 | 0=>List.replicate 128 0
 | k+1=>if k < 3 then stdL ls k else
    if k < ls.length then ((stdL ls k).set k (2+(k:Int) % 2)).set k ((ls.getD k 0 % 65536+(k:Int)) % 5) else (stdL ls k).set k (2+(k:Int) % 2)
theorem stdL_len (ls:List Int) (k:Nat):(stdL ls k).length=128:=by
 induction k with
 | zero=>simp [stdL]
 | succ k ih=>
   rw [stdL]
   split
   ·exact ih
   ·split<;>simp [ih]
theorem stdL_lo (ls:List Int):stdL ls 3=List.replicate 128 0:=rfl
theorem stdL_yes {ls:List Int} {k:Nat} (h:3≤k) (h2:k < ls.length):stdL ls (k+1)=((stdL ls k).set k (2+(k:Int) % 2)).set k ((ls.getD k 0 % 65536+(k:Int)) % 5):=by rw [stdL,if_neg (by omega),if_pos h2]
theorem stdL_no {ls:List Int} {k:Nat} (h:3≤k) (h2:¬ k < ls.length):stdL ls (k+1)=(stdL ls k).set k (2+(k:Int) % 2):=by rw [stdL,if_neg (by omega),if_neg h2]
def stdT (ls:List Int):List Int:=(stdL ls 128).set 2 2
theorem stdT_len (ls:List Int):(stdT ls).length=128:=by rw [stdT,List.length_set,stdL_len]
theorem table_ok (T:List Int) (w:World) (hT:T.length=128):StOk w 34 (.agg (T.map (Value.int .i64)).toArray) (tabF T):=
 ⟨75, _,fun W=>by kernel_rfl,by kernel_rfl,fun W x hx=>rst_any T x W hT⟩
theorem stand9_any (LA:Option Addr) (lc:Nat) (ls:List Int) (w:World) (hA:At w LA (ls.map (Value.int .i64))) (hl:ls.length≤1000):
  Calls Tryz.prog 11 #[.slice LA ls.length lc] w (Ret (.agg ((stdT ls).map (Value.int .i64)).toArray) w):=by
 go_enter Tryz.func11,Tryz.ntmps11
 have hst0:=St.start w
 refine wp_seq (sqr ?_)
 refine sqn1 (fun x_=>pb x_) (fun B2_1=>vp B2_1) (fun B2_1=>eB B2_1 34 ((List.replicate 128 (0:Int)).map (Value.int .i64)).toArray) hst0 (by
   refine svA fun ρ β W X cx=>?_
   exact dv_alloc (cs:=((List.replicate 128 (0:Int)).map (Value.int .i64)).toArray) rfl (by kernel_rfl) rfl rfl (fun σ β' X' hs hb hv hx=>⟨hv,hx⟩)) fun B2_1 W1 hst1=>?_
 refine then_normal (wp_seq (sqr (sqp [.k 5 (.agg #[vi 0,vi 0,vi 0,vi 0,vi 0,vi 0,vi 0,vi 0,vi 0,vi 0,vi 0,vi 0,vi 0,vi 0,vi 0,vi 0,vi 0,vi 0,vi 0,vi 0,vi 0,vi 0,vi 0,vi 0,vi 0,vi 0,vi 0,vi 0,vi 0,vi 0,vi 0,vi 0,vi 0,vi 0,vi 0,vi 0,vi 0,vi 0,vi 0,vi 0,vi 0,vi 0,vi 0,vi 0,vi 0,vi 0,vi 0,vi 0,vi 0,vi 0,vi 0,vi 0,vi 0,vi 0,vi 0,vi 0,vi 0,vi 0,vi 0,vi 0,vi 0,vi 0,vi 0,vi 0,vi 0,vi 0,vi 0,vi 0,vi 0,vi 0,vi 0,vi 0,vi 0,vi 0,vi 0,vi 0,vi 0,vi 0,vi 0,vi 0,vi 0,vi 0,vi 0,vi 0,vi 0,vi 0,vi 0,vi 0,vi 0,vi 0,vi 0,vi 0,vi 0,vi 0,vi 0,vi 0,vi 0,vi 0,vi 0,vi 0,vi 0,vi 0,vi 0,vi 0,vi 0,vi 0,vi 0,vi 0,vi 0,vi 0,vi 0,vi 0,vi 0,vi 0,vi 0,vi 0,vi 0,vi 0,vi 0,vi 0,vi 0,vi 0,vi 0,vi 0,vi 0,vi 0,vi 0,vi 0])] ?_)))
 refine sqn1 (fun x_=>pb x_) (fun B3_3=>vp B3_3) (fun B3_3=>eB B3_3 34 ((List.replicate 128 (0:Int)).map (Value.int .i64)).toArray) hst1 (by
   refine svA fun ρ β W X cx=>?_
   exact dv_alloc (cs:=((List.replicate 128 (0:Int)).map (Value.int .i64)).toArray) rfl (by kernel_rfl) rfl rfl (fun σ β' X' hs hb hv hx=>⟨hv,hx⟩)) fun B3_3 W3 hst3=>?_
 refine sqc (eB B3_3 34 ((List.replicate 128 (0:Int)).map (Value.int .i64)).toArray) 1 hst3 (by
   refine svA fun ρ β W X cx=>?_
   exact dv_storeL (n:=128) rfl (cx.ou 3) ((show _= _ from (show _=Value.agg #[vi 0,vi 0,vi 0,vi 0,vi 0,vi 0,vi 0,vi 0,vi 0,vi 0,vi 0,vi 0,vi 0,vi 0,vi 0,vi 0,vi 0,vi 0,vi 0,vi 0,vi 0,vi 0,vi 0,vi 0,vi 0,vi 0,vi 0,vi 0,vi 0,vi 0,vi 0,vi 0,vi 0,vi 0,vi 0,vi 0,vi 0,vi 0,vi 0,vi 0,vi 0,vi 0,vi 0,vi 0,vi 0,vi 0,vi 0,vi 0,vi 0,vi 0,vi 0,vi 0,vi 0,vi 0,vi 0,vi 0,vi 0,vi 0,vi 0,vi 0,vi 0,vi 0,vi 0,vi 0,vi 0,vi 0,vi 0,vi 0,vi 0,vi 0,vi 0,vi 0,vi 0,vi 0,vi 0,vi 0,vi 0,vi 0,vi 0,vi 0,vi 0,vi 0,vi 0,vi 0,vi 0,vi 0,vi 0,vi 0,vi 0,vi 0,vi 0,vi 0,vi 0,vi 0,vi 0,vi 0,vi 0,vi 0,vi 0,vi 0,vi 0,vi 0,vi 0,vi 0,vi 0,vi 0,vi 0,vi 0,vi 0,vi 0,vi 0,vi 0,vi 0,vi 0,vi 0,vi 0,vi 0,vi 0,vi 0,vi 0,vi 0,vi 0,vi 0,vi 0,vi 0,vi 0,vi 0,vi 0] from (cx.ou 5))).trans (by kernel_rfl: _=Value.agg ((List.replicate 128 (0:Int)).map (Value.int .i64)).toArray)) (by kernel_rfl) (by simp [stdL_len]) (by simp [stdL_len]) (int_one _) cx (cx.init 1 _ rfl) rfl rfl rfl rfl (fun σ β' X' hs hb hx=>hx)) fun W4 hst4=>?_
 refine then_normal (wp_seq (wp_seq (sqr (sqp [.k 4 (vi 3)] ?_))))
 refine then_normal (wp_block ?_)
 rw [← stdL_lo ls] at hst4
 refine wp_loopT (fun t_ mz az W=>∃ k:Nat,k≤128∧3≤k∧mz=128 - k∧az=⟨(ovr (jv az) [(4,4,0,[vi ((k:Int))]),(1,6,25,[])] t_).toArray,[]⟩∧St w [] [eB B2_1 34 ((stdL ls 3).map (Value.int .i64)).toArray,eB B3_3 34 ((stdL ls k).map (Value.int .i64)).toArray] W) (128 - 3) ?_ ?_
 · -- the loop begins
   exact ⟨3,by omega,by omega,rfl,(by kernel_rfl),hst4.pk [0,1]⟩
 rintro n6 a6 W6 ⟨k,hk,hk3,rfl,hj_,hst6⟩
 refine ovz hj_ fun u6_=>?_
 refine wp_seq (wp_seq (sqr (sqp [.m 6 4, .k 7 (.bool (decide ((k:Int) < 128)))] ?_)))
 refine then_normal (wds (fun hs9 hs9p=>?_) fun hs9 hs9p=>?_)
 ·refine wp_skip (then_normal (wp_seq (wp_block (wp_seq (sqr (sqp [.m 10 4, .m 11 4,sRe 12 .i64 (k:Int) 2 ((k:Int) % 2) (Int.tmod_eq_emod_of_nonneg (by omega)),sI 13 (2+((k:Int) % 2)) (by omega), .k 14 (vp B3_3)] ?_))))))
  refine sql (.pointer (some ⟨B3_3,k,none⟩)) hst6 (fun cx=>run_indexArrB (n:=128) (sz:=1) (m:=k) (q:=k) rfl (by kernel_rfl) (cx.ou 14) (cx.ou 10) (by omega) (by omega) (by omega)) ?_
  refine sqc (eB B3_3 34 (((stdL ls k).set k (2+((k:Int) % 2))).map (Value.int .i64)).toArray) 1 hst6 (by
    refine svA fun ρ β W X cx=>?_
    exact dv_storeAr (m:=k) rfl (cx.ou 15) (show _=Value.int .i64 (2+((k:Int) % 2)) from (cx.ou 13)) (by kernel_rfl) rfl rfl cx (cx.init 1 _ rfl) rfl (by simp only [List.length_map,List.length_set,stdL_len]; omega) rfl (by rw [← List.map_set]) rfl rfl (fun σ β' X' hs hb hx=>hx)) fun W16 hst16=>?_
  refine then_normal (wp_seq (sqr (sqp [.m 16 4, .m 17 0, .k 18 (vi ((ls.length:Int))), .k 19 (.bool (decide ((k:Int) < (ls.length:Int))))] ?_)))
  refine then_normal (wds (fun hs21 hs21p=>?_) fun hs21 hs21p=>?_)
  ·refine sqr (sqp [.m 20 4, .m 21 0, .m 22 4] ?_)
   refine sql (.pointer (some ((ad LA).add k))) hst16 (fun cx=>run_indexSl (e:=3) (m:=k) rfl (by kernel_rfl) (by kernel_rfl) (cx.ou 21) (cx.ou 22) (by omega) (by omega) (hA.ext cx.upd.to_ext) (by simp)) ?_
   refine sql (vi (ls.getD k 0)) hst16 (fun cx=>run_load1 rfl (by kernel_rfl) (cx.ou 23) (At.cellAd (hA.ext cx.upd.to_ext) (getD_int (by omega)))) ?_
   refine sqp [sAn 25 .i64 (ls.getD k 0) 65535 ((ls.getD k 0) % 65536) (bits_mask (ls.getD k 0) 16 (by decide)), .m 26 4,sI 27 (((ls.getD k 0) % 65536)+(k:Int)) (by omega),sRe 28 .i64 ((ls.getD k 0) % 65536+(k:Int)) 5 (((ls.getD k 0) % 65536+(k:Int)) % 5) (Int.tmod_eq_emod_of_nonneg (by omega)), .k 29 (vp B3_3)] ?_
   refine sql (.pointer (some ⟨B3_3,k,none⟩)) hst16 (fun cx=>run_indexArrB (n:=128) (sz:=1) (m:=k) (q:=k) rfl (by kernel_rfl) (cx.ou 29) (cx.ou 20) (by omega) (by omega) (by omega)) ?_
   refine sqc (eB B3_3 34 ((((stdL ls k).set k (2+((k:Int) % 2))).set k (((ls.getD k 0) % 65536+(k:Int)) % 5)).map (Value.int .i64)).toArray) 1 hst16 (by
     refine svA fun ρ β W X cx=>?_
     exact dv_storeAr (m:=k) rfl (cx.ou 30) (show _=Value.int .i64 (((ls.getD k 0) % 65536+(k:Int)) % 5) from (cx.ou 28)) (by kernel_rfl) rfl rfl cx (cx.init 1 _ rfl) rfl (by simp only [List.length_map,List.length_set,stdL_len]; omega) rfl (by rw [← List.map_set]) rfl rfl (fun σ β' X' hs hb hx=>hx)) fun W33 hst33=>?_
   refine blk_normal (then_normal (sqr (sqp [.m 8 4,sI 9 ((k:Int)+1) (by omega), .m 4 9] ?_)))
   refine then_normal ?_
   rw [show ((stdL ls k).set k (2+((k:Int) % 2))).set k (((ls.getD k 0) % 65536+(k:Int)) % 5)=stdL ls (k+1) from (stdL_yes (by omega) (by omega)).symm] at hst33
   refine ⟨128 - ((k+1)),by omega,?_⟩
   exact ⟨(k+1),by omega,by omega,rfl,(by kernel_rfl),hst33.pk [0,1]⟩
  refine wp_skip (blk_normal (then_normal (sqr (sqp [.m 8 4,sI 9 ((k:Int)+1) (by omega), .m 4 9] ?_))))
  refine then_normal ?_
  rw [show (stdL ls k).set k (2+((k:Int) % 2))=stdL ls (k+1) from (stdL_no (by omega) (by omega)).symm] at hst16
  refine ⟨128 - ((k+1)),by omega,?_⟩
  exact ⟨(k+1),by omega,by omega,rfl,(by kernel_rfl),hst16.pk [0,1]⟩
 refine wp_exit (then_exit (then_exit (blk_eq (then_normal (wp_seq ?_)))))
 obtain rfl:k=128:=by omega
 refine sqr (sqp [.k 31 (vp B3_3)] ?_)
 refine sql (.pointer (some ⟨B3_3,2,none⟩)) hst6 (fun cx=>run_indexArrB (n:=128) (sz:=1) (m:=2) (q:=2) rfl (by kernel_rfl) (cx.ou 31) (cx.co _) (by omega) (by omega) (by omega)) ?_
 refine sqc (eB B3_3 34 (((stdL ls (128:Nat)).set 2 (2)).map (Value.int .i64)).toArray) 1 hst6 (by
   refine svA fun ρ β W X cx=>?_
   exact dv_storeAr (m:=2) rfl (cx.ou 32) (cx.co _) (by kernel_rfl) rfl rfl cx (cx.init 1 _ rfl) rfl (by simp only [List.length_map,List.length_set,stdL_len]; omega) rfl (by rw [← List.map_set]) rfl rfl (fun σ β' X' hs hb hx=>hx)) fun W42 hst42=>?_
 refine then_normal (wp_seq (sqr ?_))
 refine sql (.agg (((stdL ls (128:Nat)).set 2 (2)).map (Value.int .i64)).toArray) hst42 (fun cx=>run_loadAr (n:=128) rfl (by kernel_rfl) (by kernel_rfl) (cx.ou 3) (cx.bi 1 rfl) (by simp [stdL_len])) ?_
 refine sqc (eB B2_1 34 (((stdL ls (128:Nat)).set 2 (2)).map (Value.int .i64)).toArray) 0 hst42 (by
   refine svA fun ρ β W X cx=>?_
   exact dv_storeL (n:=128) rfl (cx.ou 2) (show _=Value.agg (((stdL ls (128:Nat)).set 2 (2)).map (Value.int .i64)).toArray from (cx.ou 33)) (by kernel_rfl) (by simp [stdL_len]) (by simp [stdL_len]) (int_one _) cx (cx.init 0 _ rfl) rfl rfl rfl rfl (fun σ β' X' hs hb hx=>hx)) fun W44 hst44=>?_
 refine then_normal (wp_ret ?_)
 refine bpr (.agg (((stdL ls (128:Nat)).set 2 (2)).map (Value.int .i64)).toArray) (results_cell (n:=128) Tryz.results11 rfl (by kernel_rfl) (by kernel_rfl) (hst44.blk 0 rfl) (by simp [stdL_len])) ?_
 exact Ret.of (by rw [stdT]) hst44.ext
end
end Go.Proofs.YtjnplglnnamfdaaGreatDoor

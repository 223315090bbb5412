/- TreeHalfRow: part 7 of the proof. -/
import Derived.Test.YtjlcoglmjldjbaaZ6
import Derived.Test.YtjlcoglmjldjbaaRows
import Derived.ProofKit
import Derived.OpenShut
import Derived.Below
import Derived.ChangeSame
import Derived.WideKeyArgs
import Derived.SliceStrings
import Derived.ChangeMaps5
import Derived.Lib.SmallJoins
import Derived.SizedLaws
import Derived.WalkKit
set_option linter.unusedVariables false
set_option linter.unusedSimpArgs false
set_option maxRecDepth 100000
set_option maxHeartbeats 16000000
namespace Go.Proofs.Ytjlcoglmjldjbaa
section
open Go.RowKit
theorem book_ok {b:Nat} {ps:List PgS} {w:World} (h:BkAt w b ps) (hl:ps.length≤1000):PgsOk w 24 (.pointer (some ⟨b,0,none⟩)) ps:=
 ⟨⟨58, _,fun W=>by kernel_rfl,by kernel_rfl,fun x=>rpage_any b ps x w h hl⟩⟩
theorem kstep_pk {b bk:Nat} {ps:List PgS} {p:PuT} {fresh:Int} {fp:List Nat} {w:World} (h:(ePk b p fp).holds w) (hB:BkU fp w bk ps) (hne:p.left≠[]) (hok:OkS ps) (hoc:OkC ps) (h10:p.left.length≤10000) (hte:∀ t∈p.left,t.1.size≤900000∧0≤t.2.1∧t.2.1≤90000) (h8:∀ nd,ndAt ps p.pos=some nd→nd.es.length < 8):
  Calls Try.prog 16 #[.pointer (some ⟨b,0,none⟩), .iface 24 (.pointer (some ⟨bk,0,none⟩)), .int .i64 fresh] w (KtPost b (stepF ps p fresh) fp w):=by
 obtain ⟨A,c,g,hfp,hbg,hc,hAg,hlt,hb,hA⟩:=h
 obtain ⟨root,pos,leaf,left,fro,to,spl⟩:=p
 cases left with
 | nil=>exact absurd rfl hne
 | cons t lf=>
   obtain ⟨te,tl,tk⟩:=t
   obtain ⟨la,rfl, _, _⟩:=hA 0 (.string te) rfl
   have hg:=hAg la rfl (by simp)
   have ht:=hte (te,tl,tk) (by simp)
   obtain ⟨LA,lcc,Ps,h1,h2⟩:=hB
   refine kstep_s b _ _ root pos leaf fro to spl la _ c te tl tk lf ps fresh fp g w hb (fun W hW=>?_) rfl hc h10 (fun W hW=>book_ok ⟨LA,lcc,Ps,h1,h2 W (hW.mono fun k _ hk=>by rw [hfp,List.mem_singleton.1 hk]; simp)⟩ hok.len) hok hoc hfp hbg hlt hg ht.1 ht.2 h8
   refine at_blocks hA fun ad e _=>?_
   rw [← Option.some.inj e]
   exact hW.block _ (hlt _ hg) (fun hm=>hbg (by rw [List.mem_singleton] at hm; exact hm ▸ hg))
theorem kdone_t {b:Nat} {p:PuT} {fp:List Nat} {w:World} (h:(ePk b p fp).holds w) (h0:p.left=[]):Calls Try.prog 21 #[.pointer (some ⟨b,0,none⟩)] w (Ret (.bool true) w):=by
 have h1:=kdone_pk h
 rw [h0] at h1
 exact h1
/-- the book of the example -/
def sanB:List PgS:=doB (blankF 4) (begF 3)
def sanK:ByteArray:=⟨#[97,98]⟩
def sanX:ByteArray:=⟨#[97,98,0,1,0,2]⟩
theorem sanB_eq:sanB=[(2,0,[⟨#[0,0,0,0]⟩]),(0,0,[]),(0,0,[]),(2,0,[⟨#[0,0,0,0]⟩])]:=by kernel_rfl
theorem sanB_ok:OkS sanB:=by
 rw [sanB_eq]
 refine ⟨by decide,fun p hp=>?_,fun p hp s hs=>?_⟩
 ·simp only [List.mem_cons,List.not_mem_nil,or_false] at hp
  rcases hp with rfl | rfl | rfl | rfl<;>decide
 ·simp only [List.mem_cons,List.not_mem_nil,or_false] at hp
  rcases hp with rfl | rfl | rfl | rfl<;>simp at hs<;>subst hs<;>decide
theorem sanB_c:OkC sanB:=by
 rw [sanB_eq]
 intro p hp
 simp only [List.mem_cons,List.not_mem_nil,or_false] at hp
 rcases hp with rfl | rfl | rfl | rfl<;>decide
def sanN:NoD:=⟨0, -1,⟨#[]⟩,false,[],1⟩
theorem sanB_nd:ndAt sanB 3=some sanN:=by kernel_rfl
theorem sanN_1:Node1 sanN:=⟨rfl,rfl,rfl,rfl,by decide⟩
def sanP:PuT:=⟨3,3,3,[],0,0,false⟩
theorem san_step:stepF sanB (putT 3 sanK 1 2) (-1)=(sanP,⟨[(3,1,sanX)],false,0⟩):=by kernel_rfl
theorem kt_to {P:Program} {f:FuncId} {args:Array Value} {w:World} {b:Nat} {fp:List Nat} {R R':PuT×GoT} (hR:R=R') (hc:Calls P f args w (KtPost b R fp w)):Calls P f args w (KtPost b R' fp w):=hR ▸ hc
theorem at_to {w:World} {A:Option Addr} {xs ys:List Value} (h:At w A xs) (e:xs=ys):At w A ys:=e ▸ h
theorem sanity10_any (w:World):
  Calls Try.prog 10 #[] w (Ret (.bool true) w):=by
 go_enter Try.func10,Try.ntmps10
 have hst0:=St.start w
 refine wp_seq (sqr (sqp [.k 0 (.bool false)] ?_))
 refine then_normal (wp_seq (sqr ?_))
 refine sqk1s (fun B9_2=>vp B9_2) (fun B9_2 r0_2=>eBk B9_2 (blankF 4) r0_2) hst0 (fun cx=>⟨_,(rblank_any 4 _ (by decide)).mono (by rintro e W1 ⟨B4,fp4,rfl,hs4⟩; exact ⟨_, _,rfl,hs4⟩),(map1 (cx.co _))⟩) fun B9_2 r0_2 W2 hst2=>?_
 refine sqp [.m 1 9] ?_
 refine then_normal (wp_seq (wp_region_Y [0,0,2,6,0,16,48,126,255,511] [[],[],[2],[],[],[3],[],[],[1,4]] [[1],[2],[],[],[3],[],[],[4]] [] [.a 10, .a 11, .c 12 (.string (strOfNums ([2]))), .k 13 (.agg #[vi 3,vi (-1), .string (strOfNums ([2]))]), .a 14, .c 15 (.string (strOfNums ([0,0,0,0]))), .k 16 (.agg #[vi 3,vi 0, .string (strOfNums ([0,0,0,0]))]), .a 17, .c 18 (.bool true), .k 2 (.bool true)] (fun ix σ β X=>match ix with | 0=>σ 10= .slice (sA (β 10)) 2 (sC (β 10))∧X 1=eO 99 3 (.slice (sA (β 10)) 2 (sC (β 10))) 2 ((begF 3).flatMap edC) | 1=>σ 11= .slice (sA (β 11)) 1 1∧X 2=eO 5 1 (.slice (sA (β 11)) 1 1) 1 ([.int .u8 2]) | 2=>True | 3=>True | 4=>σ 14= .slice (sA (β 14)) 4 4∧X 3=eO 5 1 (.slice (sA (β 14)) 4 4) 4 ([.int .u8 0, .int .u8 0, .int .u8 0, .int .u8 0]) | 5=>True | 6=>True | 7=>σ 17= .slice ((some ⟨(pb' (β 17)),0,none⟩)) 2 2∧X 4=eO 99 3 (.slice ((some ⟨(pb' (β 17)),0,none⟩)) 2 2) 2 ([vi 3,vi (-1), .string (strOfNums ([2])),vi 3,vi 0, .string (strOfNums ([0,0,0,0]))]) | _=>True) [0,1,2,3,4] [0,1,2,4,5,7,8] [(2,9,1,3),(7,0,9,16)] hst2 ?_ ?_ ?_))
 ·exact fun ix _ _ _ _ _ _ hs hb hx h=>match ix,h with
  | 0,h=>by dsimp only; rw [← hs 10 rfl,← hb 10 rfl,← hx 1 rfl]; exact h
  | 1,h=>by dsimp only; rw [← hs 11 rfl,← hb 11 rfl,← hx 2 rfl]; exact h
  | 4,h=>by dsimp only; rw [← hs 14 rfl,← hb 14 rfl,← hx 3 rfl]; exact h
  | 7,h=>by dsimp only; rw [← hs 17 rfl,← hb 17 rfl,← hx 4 rfl]; exact h
  | 2, _ | 3, _ | 5, _ | 6, _ | _+8, _=>trivial
 ·refine ⟨?_,?_,?_,?_,?_,?_,?_,trivial⟩
  ·refine svA fun ρ β W X cx=>?_
   refine DoesU.call (run_callF (args:=#[vi 3]) rfl cx.sees rfl (by kernel_rfl) (map1 (cx.co _))) ?_
   refine (kbegin_any 3 _).mono ?_
   rintro e W1 ⟨A4,c4,rfl,ho_,hx⟩
   refine ⟨_,rfl,post_call [eO 99 3 (.slice A4 2 c4) 2 ((begF 3).flatMap edC)] rfl rfl hx (one_new (eO_new (n:=2) (xs:=(begF 3).flatMap edC) ho_)) (List.pairwise_singleton _ _) (fun σ β' X' hs hb hv hN=>?_)⟩
   have hv1:=(hv 10 rfl).1; have hv2:=(hv 10 rfl).2
   exact ⟨hv1.trans (by rw [hv2]; rfl),(by rw [hv2]; exact (List.cons.inj hN).1)⟩
  ·refine svA fun ρ β W X cx=>?_
   exact dv_lit (e:=5) (xs:=[.int .u8 2]) rfl (by simp [go_sem,cx.sees.const]) rfl (by decide) rfl rfl (fun σ β' X' hs hb hv hx=>⟨hv,hx⟩)
  ·exact xs4 rfl id fun cx=>run_convB (e:=5) rfl (by kernel_rfl) (by kernel_rfl) (by kernel_rfl) (dTn (cx.an 1)).1 (cx.row (dTn (cx.an 1)).2 rfl)
  ·refine svA fun ρ β W X cx=>?_
   exact dv_lit (e:=5) (xs:=[.int .u8 0, .int .u8 0, .int .u8 0, .int .u8 0]) rfl (by simp [go_sem,cx.sees.const]) rfl (by decide) rfl rfl (fun σ β' X' hs hb hv hx=>⟨hv,hx⟩)
  ·exact xs4 rfl id fun cx=>run_convB (e:=5) rfl (by kernel_rfl) (by kernel_rfl) (by kernel_rfl) (dTn (cx.an 4)).1 (cx.row (dTn (cx.an 4)).2 rfl)
  ·refine svA fun ρ β W X cx=>?_
   have fF13:ρ (.tmp 13)= .agg #[vi 3,vi (-1), .string (strOfNums ([2]))]:=(cx.an 3)
   have fF16:ρ (.tmp 16)= .agg #[vi 3,vi 0, .string (strOfNums ([0,0,0,0]))]:=(cx.an 6)
   exact dv_litN (e:=99) (sz:=3) (xs:=[vi 3,vi (-1), .string (strOfNums ([2])),vi 3,vi 0, .string (strOfNums ([0,0,0,0]))]) rfl (by simp [go_sem,fF13,fF16]) rfl (by decide) rfl rfl (fun σ β' X' hs hb hv hx=>⟨hv,hx⟩)
  ·exact xsc rfl id rfl rfl fun cx=>⟨_,rsame_any _ _ _ _ (begF 3) _ (at_to (At.of_ownN (cx.row (dTn (cx.an 0)).2 rfl)) (by kernel_rfl)) (at_to (At.of_ownN (cx.row (dTn (cx.an 7)).2 rfl)) (by kernel_rfl)) (by decide),(map2 (dTn (cx.an 0)).1 (dTn (cx.an 7)).1)⟩
 intro σ β X W4 hD hst4 fr hfr
 obtain ⟨A10_4,hu_A10_4⟩:∃ z,sA (β 10)=z:=⟨_,rfl⟩
 obtain ⟨c10_4,hu_c10_4⟩:∃ z,sC (β 10)=z:=⟨_,rfl⟩
 obtain ⟨A11_4,hu_A11_4⟩:∃ z,sA (β 11)=z:=⟨_,rfl⟩
 obtain ⟨A14_4,hu_A14_4⟩:∃ z,sA (β 14)=z:=⟨_,rfl⟩
 obtain ⟨B17_4,hu_B17_4⟩:∃ z,pb' (β 17)=z:=⟨_,rfl⟩
 simp only [exq 1 ((dTn (hD 0 lq)).2),exq 2 ((dTn (hD 1 lq)).2),exq 3 ((dTn (hD 4 lq)).2),exq 4 ((dTn (hD 7 lq)).2),hu_A10_4,hu_c10_4,hu_A11_4,hu_A14_4,hu_B17_4] at hst4
 simp only [ed 10 ((dTn (hD 0 lq)).1),ed 11 ((dTn (hD 1 lq)).1),ed 14 ((dTn (hD 4 lq)).1),ed 17 ((dTn (hD 7 lq)).1),hu_A10_4,hu_c10_4,hu_A11_4,hu_A14_4,hu_B17_4] at hfr
 clear hD hu_A10_4 hu_c10_4 hu_A11_4 hu_A14_4 hu_B17_4; subst hfr; clear σ β X
 refine then_normal (wp_seq (sqr (sqp [.m 19 1] ?_)))
 refine sqk2 (fun A20_6 c20_6=> .slice A20_6 2 c20_6) (fun A20_6 c20_6=>eO 99 3 (.slice A20_6 2 c20_6) 2 ((begF 3).flatMap edC)) hst4 (fun cx=>⟨_,(kbegin_any 3 _).mono (by rintro e W1 ⟨A4,c4,rfl,ho_,hx⟩; exact ⟨_, _,rfl,St.one hx (eO_new (n:=2) (xs:=(begF 3).flatMap edC) ho_)⟩),(map1 (cx.co _))⟩) fun A20_6 c20_6 W6 hst6=>?_
 refine sqc0s (fun X_=>X_.fp) (.tuple #[]) (fun r6_7=>eBk B9_2 (doB (blankF 4) (begF 3)) r6_7) 0 hst6 (by
   refine svA fun ρ β W X cx=>?_
   refine DoesU.call (run_callF (args:=#[vp B9_2, .slice A20_6 2 c20_6]) rfl cx.sees rfl (by kernel_rfl) (map2 (cx.ou 19) (cx.ou 20))) ?_
   refine (rdo_any B9_2 (blankF 4) _ 4 _ _ (begF 3) _ (CtxV.holdF cx (cx.init 0 _ rfl) rfl) (CtxV.ltF cx (cx.init 0 _ rfl) rfl) (CtxV.keepAt cx (cx.init 5 _ rfl) (cx.init 0 _ rfl) rfl rfl (by decide)) (by decide) (blank_sz 4).2 (by decide) (blank_sz 4).1.its).mono ?_
   rintro e W1 ⟨rfl,fp4,hs4⟩
   refine ⟨_,rfl,post_obj (E:=eBk B9_2 (blankF 4) r0_2) [eBk B9_2 (doB (blankF 4) (begF 3)) fp4] (cx.init 0 _ rfl) rfl rfl hs4 (fun σ β' X' hs hb hv hN=>?_)⟩
   have hv1:=(hv 21 rfl).1; have hv2:=(hv 21 rfl).2
   exact ⟨hv1.trans rfl,eBk_self ((List.cons.inj hN).1)⟩) fun r6_7 W7 hst7=>?_
 refine then_normal (wp_seq ?_)
 have hsb_:doB (blankF 4) (begF 3)=sanB:=rfl
 rw [hsb_] at hst7
 refine sqr (sqp [.k 22 (.agg #[vi 1,vi 2])] ?_)
 refine sqk1s (fun B23_9=>vp B23_9) (fun B23_9 r6_9=>ePk B23_9 (putT 3 (⟨#[97,98]⟩:ByteArray) 1 2) r6_9) hst7 (fun cx=>⟨_,(kgrowN_any 3 (⟨#[97,98]⟩:ByteArray) 1 2 _ (by decide)).mono (by rintro e W1 ⟨B4,fp4,rfl,hs4⟩; exact ⟨_, _,rfl,hs4⟩),(map3 (cx.co _) (cx.co _) (cx.ou 22))⟩) fun B23_9 r6_9 W9 hst9=>?_
 refine sqp [.m 3 23] ?_
 refine then_normal (wp_seq (wp_seq (sqr (sqp [.m 24 3] ?_))))
 refine sqv (.bool false) hst9 (by
   exact sv0 rfl rfl rfl rfl rfl (fun _ _ _ h=>h) fun ρ β W X cx=>by
    have fF24:ρ (.tmp 24)=vp B23_9:=(cx.ou 24)
    simp [go_sem,cx.sees.const,fF24]) fun W12 hst12=>?_
 refine then_normal (wcf rfl (wp_skip (then_normal (wp_seq (wp_region_Y [0,0,2,7,15,31,31,31,63,383,1023] [[],[],[],[6,0]] [[],[],[],[7,8]] [[],[],[],[6]] [.k 27 (vp B23_9), .k 28 (vp B9_2), .c 29 (.iface 24 (vp B9_2)), .a 30, .a 26, .a 31, .c 32 (.bool false), .c 33 (vi 0), .a 4, .k 5 (.bool false), .k 6 (vi 0)] (fun ix σ β X=>match ix with | 0=>True | 1=>True | 2=>True | 3=>σ 30= .tuple #[.slice (sA (tg (β 30) 0)) 1 (sC (tg (β 30) 0)), .bool false,vi 0]∧X 7=ePk B23_9 sanP ((X 7).fp)∧X 8=eO 99 3 (.slice (sA (tg (β 30) 0)) 1 (sC (tg (β 30) 0))) 1 ([(3,1,sanX)].flatMap edC) | 4=>σ 26= .tuple #[.slice (sA (tg (β 30) 0)) 1 (sC (tg (β 30) 0)), .bool false,vi 0] | 5=>σ 31= .slice (sA (tg (β 30) 0)) 1 (sC (tg (β 30) 0)) | 6=>True | 7=>True | 8=>σ 4= .slice (sA (tg (β 30) 0)) 1 (sC (tg (β 30) 0)) | _=>True) [0,1,2,3,4,5,7,8] [2,3,4,5,6,7,8] [(4,8,3,7),(19,4,1,20),(0,0,4,4),(0,5,3,3)] hst12 ?_ ?_ ?_)))))
 ·exact fun ix _ _ _ _ _ _ hs hb hx h=>match ix,h with
  | 3,h=>by dsimp only; rw [← hs 30 rfl,← hb 30 rfl,← hx 7 rfl,← hx 8 rfl]; exact h
  | 4,h=>by dsimp only; rw [← hs 26 rfl,← hb 30 rfl]; exact h
  | 5,h=>by dsimp only; rw [← hs 31 rfl,← hb 30 rfl]; exact h
  | 8,h=>by dsimp only; rw [← hs 4 rfl,← hb 30 rfl]; exact h
  | 0, _ | 1, _ | 2, _ | 6, _ | 7, _ | _+9, _=>trivial
 ·refine ⟨?_,?_,?_,?_,?_,?_,?_,trivial⟩
  ·exact sv0 rfl rfl rfl rfl rfl (fun _ _ _ h=>h) fun ρ β W X cx=>by
    have fF28:ρ (.tmp 28)=vp B9_2:=(cx.an 1)
    simp [go_sem,fF28]
  ·refine svA fun ρ β W X cx=>?_
   refine DoesU.call (run_callF (args:=#[vp B23_9, .iface 24 (vp B9_2),vi (-1)]) rfl cx.sees rfl (by kernel_rfl) (map3 (cx.an 0) (cx.an 2) (cx.co _))) ?_
   refine (kt_to san_step (kstep_pk (fresh:= -1) (CtxV.holdF cx (cx.init 6 _ rfl) rfl) (CtxV.bkU cx (cx.init 0 _ rfl) (cx.init 6 _ rfl) rfl rfl (by decide)) (by decide) sanB_ok sanB_c (by decide) (fun t ht=>by rw [putT,List.mem_singleton] at ht; subst ht; decide) (fun nd h=>by have h_:=sanB_nd.symm.trans h; rw [← Option.some.inj h_]; decide))).mono ?_
   rintro e W1 ⟨A4,c4,rfl,fp4,hs4⟩
   refine ⟨_,rfl,post_obj (E:=ePk B23_9 (putT 3 (⟨#[97,98]⟩:ByteArray) 1 2) r6_9) [ePk B23_9 sanP fp4,eO 99 3 (.slice A4 1 c4) 1 ([(3,1,sanX)].flatMap edC)] (cx.init 6 _ rfl) rfl rfl hs4 (fun σ β' X' hs hb hv hN=>?_)⟩
   have hv1:=(hv 30 rfl).1; have hv2:=(hv 30 rfl).2
   exact ⟨hv1.trans (by rw [hv2]; rfl),ePk_self ((List.cons.inj hN).1),(by rw [hv2]; exact (List.cons.inj (List.cons.inj hN).2).1)⟩
  ·exact sv rfl rfl rfl rfl rfl _ (fun _ _ _ h=>h) (fun β β' h=>by rw [h 30 (by decide)]) fun ρ β W X cx=>run_move' rfl (dTn (cx.an 3)).1
  ·exact sv rfl rfl rfl rfl rfl _ (fun _ _ _ h=>h) (fun β β' h=>by rw [h 30 (by decide)]) fun ρ β W X cx=>run_extract' rfl (dTn (cx.an 4)) rfl
  ·exact xs4 rfl id fun cx=>run_extract' rfl (dTn (cx.an 4)) rfl
  ·exact xs4 rfl id fun cx=>run_extract' rfl (dTn (cx.an 4)) rfl
  ·exact sv rfl rfl rfl rfl rfl _ (fun _ _ _ h=>h) (fun β β' h=>by rw [h 30 (by decide)]) fun ρ β W X cx=>run_assign' rfl (dTn (cx.an 5))
 intro σ β X W13 hD hst13 fr hfr
 obtain ⟨A30_13,hu_A30_13⟩:∃ z,sA (tg (β 30) 0)=z:=⟨_,rfl⟩
 obtain ⟨c30_13,hu_c30_13⟩:∃ z,sC (tg (β 30) 0)=z:=⟨_,rfl⟩
 have xX7:X 7= _:=(dTn (hD 3 lq)).2.1
 obtain ⟨r7_13,hu_r7_13⟩:∃ z,(X 7).fp=z:=⟨_,rfl⟩
 rw [hu_r7_13] at xX7
 clear hu_r7_13
 simp only [xX7,exq 8 ((dTn (hD 3 lq)).2.2),hu_A30_13,hu_c30_13] at hst13
 simp only [ed 30 ((dTn (hD 3 lq)).1),ed 26 ((dTn (hD 4 lq))),ed 31 ((dTn (hD 5 lq))),ed 4 ((dTn (hD 8 lq))),hu_A30_13,hu_c30_13] at hfr
 clear hD xX7 hu_A30_13 hu_c30_13; subst hfr; clear σ β X
 refine then_normal (wp_seq (sqr ?_))
 refine sqn1 (fun x_=>sA x_) (fun A34_14=> .slice A34_14 4 4) (fun A34_14=>eO 5 1 (.slice A34_14 4 4) 4 ([.int .u8 0, .int .u8 1, .int .u8 0, .int .u8 2])) hst13 (by
   refine svA fun ρ β W X cx=>?_
   exact dv_lit (e:=5) (xs:=[.int .u8 0, .int .u8 1, .int .u8 0, .int .u8 2]) rfl (by simp [go_sem,cx.sees.const]) rfl (by decide) rfl rfl (fun σ β' X' hs hb hv hx=>⟨hv,hx⟩)) fun A34_14 W14 hst14=>?_
 refine sql (.string (strOfNums ([0,1,0,2]))) hst14 (fun cx=>run_convB (e:=5) rfl (by kernel_rfl) (by kernel_rfl) (by kernel_rfl) (cx.ou 34) (cx.ri 8 rfl)) ?_
 refine sqp [sS 36 ((⟨#[97,98]⟩:ByteArray)) (strOfNums ([0,1,0,2])) (by rw [strOfNums_size]; decide), .m 7 36] ?_
 refine then_normal (wp_seq (sqr (sqp [.m 37 4, .m 38 7, .k 39 (.agg #[vi 3,vi 1, .string (((⟨#[97,98]⟩:ByteArray))++(strOfNums ([0,1,0,2])))])] ?_)))
 refine sqli 99 3 1 [vi 3,vi 1, .string (((⟨#[97,98]⟩:ByteArray))++(strOfNums ([0,1,0,2])))] hst14 (@fun ρ β W X cx=>by have fF39:ρ (.tmp 39)= .agg #[vi 3,vi 1, .string (((⟨#[97,98]⟩:ByteArray))++(strOfNums ([0,1,0,2])))]:=(cx.ou 39); simp [go_sem,fF39]) fun B40_21 W21 hst21=>?_
 refine sqk (.bool true) hst21 (fun cx=>⟨_,rsame_any _ _ _ _ [(3,1,sanX)] _ (at_to (At.of_ownN (cx.ri 7 rfl)) (by kernel_rfl)) (at_to (At.of_ownN (cx.ri 9 rfl)) (by kernel_rfl)) (by decide),(map2 (cx.ou 37) (cx.ou 40))⟩) fun W22 hst22=>?_
 refine sqp [.k 8 (.bool true)] ?_
 refine then_normal (wp_seq (sqr (sqp [.k 42 (.bool true), .k 43 (.bool true)] ?_)))
 refine sqgy 43 [44] rfl rfl ?_
 refine sqp [.k 44 (.bool true)] ?_
 refine sqp [.k 45 (.bool true), .k 46 (.bool true)] ?_
 refine sqgy 46 [47,48] rfl rfl ?_
 refine sqp [.k 47 (.bool false), .k 48 (.bool true)] ?_
 refine sqp [.k 49 (.bool true), .k 50 (.bool true)] ?_
 refine sqgy 50 [51,52] rfl rfl ?_
 refine sqp [.m 51 6, .k 52 (.bool true)] ?_
 refine sqp [.k 53 (.bool true), .k 54 (.bool true)] ?_
 refine sqgy 54 [55,56] rfl rfl ?_
 refine sqp [.m 55 3] ?_
 refine sqk (.bool true) hst22 (fun cx=>⟨_,kdone_t (CtxV.holdF cx (cx.init 6 _ rfl) rfl) rfl,(map1 (cx.ou 55))⟩) fun W38 hst38=>?_
 refine sqp [.k 57 (.bool true), .k 58 (.bool true)] ?_
 refine sqgy 58 [59,60,61] rfl rfl ?_
 refine sqp [.m 59 3] ?_
 refine sqk (vi 3) hst38 (fun cx=>⟨_,kleaf_pk (CtxV.holdF cx (cx.init 6 _ rfl) rfl),(map1 (cx.ou 59))⟩) fun W42 hst42=>?_
 refine sqp [.k 61 (.bool true)] ?_
 refine sqp [.k 62 (.bool true), .k 63 (.bool true)] ?_
 refine sqgy 63 [64,65,66,67] rfl rfl ?_
 refine sqp [.k 64 (.agg #[vi 1,vi 2])] ?_
 refine sqk (.string ((entF sanK 1 2))) hst42 (fun cx=>⟨_,kentry_any sanK 1 2 _ (by decide),(map2 (cx.co _) (cx.ou 64))⟩) fun W47 hst47=>?_
 have hd50:(((entF sanK 1 2)).toList==(((⟨#[97,98]⟩:ByteArray))++(strOfNums ([0,1,0,2]))).toList)=true:=(by kernel_rfl)
 refine sqp [.m 66 7, .e 67 (.bool (((entF sanK 1 2)).toList==(((⟨#[97,98]⟩:ByteArray))++(strOfNums ([0,1,0,2]))).toList)) (.bool true) (congrArg Value.bool hd50)] ?_
 refine sqp [.k 68 (.bool true), .k 69 (.bool true)] ?_
 refine sqgy 69 [70,71,72,73] rfl rfl ?_
 refine sqp [.m 70 1] ?_
 refine sqv (.iface 24 (vp B9_2)) hst47 (by
   exact sv0 rfl rfl rfl rfl rfl (fun _ _ _ h=>h) fun ρ β W X cx=>by
    have fF70:ρ (.tmp 70)=vp B9_2:=(cx.ou 70)
    simp [go_sem,fF70]) fun W54 hst54=>?_
 refine sqk (vi 0) hst54 (fun cx=>⟨_,kcheck_1 _ _ 3 sanB sanN _ (book_ok (eBk_at (CtxV.holdF cx (cx.init 0 _ rfl) rfl)) sanB_ok.len) sanB_ok sanB_c sanB_nd sanN_1,(map2 (cx.ou 71) (cx.co _))⟩) fun W55 hst55=>?_
 refine sqp [.k 73 (.bool true)] ?_
 refine sqp [.k 74 (.bool true), .k 0 (.bool true)] ?_
 refine then_normal (wp_ret ?_)
 refine bpr (.bool true) (results_1 Try.results10 rpt) ?_
 exact Ret.of rfl hst55.ext
end
section
open Go.RowKit
theorem kstep_0 (b:Nat) (root pos leaf fro to:Int) (spl:Bool) (LA:Option Addr) (lc:Nat) (tt:TypeId) (tv:Value) (ps:List PgS) (fresh:Int) (fp g:List Nat) (w:World) (hb:Blk w b 109 #[.int .i64 root, .int .i64 pos, .int .i64 leaf, .slice LA 0 lc, .int .i64 fro, .int .i64 to, .bool spl]) (hfp:fp=b::g) (hbg:b∉g) (hlt:∀ k∈g,k < w.heap.size):
  Calls Try.prog 16 #[.pointer (some ⟨b,0,none⟩), .iface tt (tv), .int .i64 fresh] w (KtPost b (stepF ps ⟨root,pos,leaf,[],fro,to,spl⟩ fresh) fp w):=by
 have st0:=St.lend (E:=eB b 109 #[.int .i64 root, .int .i64 pos, .int .i64 leaf, .slice LA 0 lc, .int .i64 fro, .int .i64 to, .bool spl]) hb (eB_loc _ _ _) (fun k hk=>by simp [eB] at hk; subst hk; exact hb.lt)
 go_enter Try.func16,Try.ntmps16
 have hst0:=st0
 refine wp_seq (sqr (sqp [.k 6 (.slice none 0 0), .k 7 (.bool false), .k 8 (vi 0)] ?_))
 refine then_normal (wp_seq (wp_seq (sqr (sqp [.m 14 0] ?_))))
 refine sqv (.bool false) hst0 (by
   exact sv0 rfl rfl rfl rfl rfl (fun _ _ _ h=>h) fun ρ β W X cx=>by
    have fF14:ρ (.tmp 14)=vp b:=(cx.ou 14)
    simp [go_sem,cx.sees.const,fF14]) fun W5 hst5=>?_
 refine then_normal (wcf rfl (wp_skip (then_normal (wp_seq (sqr (sqp [.m 16 0, .m 17 0, .m 18 0, .k 19 (vp b), .k 20 (.pointer (some ⟨b,4,none⟩))] ?_))))))
 refine sqst (n:=1) 0 #[vi root,vi pos,vi leaf, .slice LA 0 lc,vi 0,vi to, .bool spl] hst5 fun W11 hst11=>?_
 refine sqp [.k 21 (vp b), .k 22 (.pointer (some ⟨b,5,none⟩))] ?_
 refine sqst (n:=1) 0 #[vi root,vi pos,vi leaf, .slice LA 0 lc,vi 0,vi 0, .bool spl] hst11 fun W14 hst14=>?_
 refine sqp [.k 23 (vp b), .k 24 (.pointer (some ⟨b,6,none⟩))] ?_
 refine sqst (n:=1) 0 #[vi root,vi pos,vi leaf, .slice LA 0 lc,vi 0,vi 0, .bool false] hst14 fun W17 hst17=>?_
 refine then_normal (wp_seq (wp_seq (sqr (sqp [.m 25 0, .k 26 (vp b), .k 27 (.pointer (some ⟨b,3,none⟩))] ?_))))
 refine sqld 0 hst17 ?_
 refine sqp [.k 29 (vi 0), .k 30 (.bool true)] ?_
 refine then_normal (wct rfl (wp_seq (sqr (sqp [.k 6 (.slice none 0 0), .k 7 (.bool false), .k 8 (vi 0)] ?_))))
 refine then_normal (wp_ret (then_ret ?_))
 refine bpr (.tuple #[.slice none 0 0, .bool false,vi 0]) (results_3 Try.results16 rpt rpt rpt) ?_
 have hn27:=nilrowN hst17 99 3
 simp only [List.cons_append,List.nil_append] at hn27
 have hpk_:=hn27.pick [0,1] (by decide) rfl
 exact ⟨_, _,rfl,pk_old (p:=⟨root,pos,leaf,[],0,0,false⟩) hpk_ hfp hbg hlt (Nat.zero_le _) (At.nil _ _) (fun ad e h=>absurd rfl h)⟩
theorem kstep_a {b bk:Nat} {ps:List PgS} {p:PuT} {fresh:Int} {fp:List Nat} {w:World} (h:(ePk b p fp).holds w) (hB:BkU fp w bk ps) (hok:OkS ps) (hoc:OkC ps) (h10:p.left.length≤10000) (hte:∀ t∈p.left,t.1.size≤900000∧0≤t.2.1∧t.2.1≤90000) (hfr: -1≤fresh∧fresh≤1000000):
  Calls Try.prog 16 #[.pointer (some ⟨b,0,none⟩), .iface 24 (.pointer (some ⟨bk,0,none⟩)), .int .i64 fresh] w (KtPost b (stepF ps p fresh) fp w):=by
 obtain ⟨A,c,g,hfp,hbg,hc,hAg,hlt,hb,hA⟩:=h
 obtain ⟨root,pos,leaf,left,fro,to,spl⟩:=p
 cases left with
 | nil=>exact kstep_0 b root pos leaf fro to spl A c _ _ ps fresh fp g w hb hfp hbg hlt
 | cons t lf=>
   obtain ⟨te,tl,tk⟩:=t
   obtain ⟨la,rfl, _, _⟩:=hA 0 (.string te) rfl
   have hg:=hAg la rfl (by simp)
   have ht:=hte (te,tl,tk) (by simp)
   obtain ⟨LA,lcc,Ps,h1,h2⟩:=hB
   refine kstep_g b _ _ root pos leaf fro to spl la _ c te tl tk lf ps fresh fp g w hb (fun W hW=>?_) rfl hc h10 (fun W hW=>book_ok ⟨LA,lcc,Ps,h1,h2 W (hW.mono fun k _ hk=>by rw [hfp,List.mem_singleton.1 hk]; simp)⟩ hok.len) hok hoc hfp hbg hlt hg ht.1 ht.2 hfr
   refine at_blocks hA fun ad e _=>?_
   rw [← Option.some.inj e]
   exact hW.block _ (hlt _ hg) (fun hm=>hbg (by rw [List.mem_singleton] at hm; exact hm ▸ hg))
end
section
open Go.RowKit
theorem lseed_any (A:Option Addr) (n c k:Nat) (w:World) (hc:n≤c):
  Calls Try.prog 34 #[.slice A n c, .int .i64 ((k:Int))] w (Ret (.slice A (min n k) c) w):=by
 go_enter Try.func34,Try.ntmps34
 have hst0:=St.start w
 refine wp_seq (sqr (sqp [.k 4 (.slice none 0 0)] ?_))
 refine then_normal (wp_seq (wp_seq (sqr (sqp [.m 5 0, .k 6 (vi ((n:Int))), .m 7 1, .k 8 (.bool (decide ((k:Int) < (n:Int))))] ?_))))
 refine then_normal (wds (fun hs6 hs6p=>?_) fun hs6 hs6p=>?_)
 ·refine wp_seq (sqr (sqp [.m 9 0, .m 10 1] ?_))
  refine sql (.slice A k c) hst0 (fun cx=>run_sliceL_hi (e:=3) (sz:=1) (m:=k) rfl (by kernel_rfl) (by kernel_rfl) (cx.ou 9) (cx.ou 10) (by omega) (by omega)) ?_
  refine sqp [.m 4 11] ?_
  refine then_normal (wp_ret (then_ret ?_))
  refine bpr (.slice A k c) (results_1 Try.results34 rpt) ?_
  exact Ret.of (by rw [show min n k=k by omega]) hst0.ext
 refine wp_skip (then_normal (wp_seq (sqr (sqp [.m 12 0, .m 4 12] ?_))))
 refine then_normal (wp_ret ?_)
 refine bpr (.slice A n c) (results_1 Try.results34 rpt) ?_
 exact Ret.of (by rw [show min n k=n by omega]) hst0.ext
end
section
open Go.RowKit
theorem tqS_snoc (T:List EnD) (x:EnD):T.map tqS++[.string (qkF x.1)]=(T++[x]).map tqS:=by rw [List.map_append]; rfl
theorem tqR_snoc (T:List EnD) (x:EnD):T.flatMap tqR++[.int .i64 (opF x.1), .int .i64 (osF x.1)]=(T++[x]).flatMap tqR:=by rw [List.flatMap_append]; rfl
end
section
open Go.RowKit
def esY (xs:List YnD):List EnD:=xs.flatMap fun y=>y.1.es
theorem esY_all {xs:List YnD} {ps:List PgS} {root:Int} (h:xs.map pgN=rowF ps root 0):esY xs=allF ps root:=by
 rw [allF,← h,List.flatMap_map]; rfl
theorem esY_snoc (xs:List YnD) (y:YnD):esY (xs++[y])=esY xs++y.1.es:=by simp [esY]
def AlPost (es:List EnD) (w:World) (e:Ending) (w':World):Prop:=∃ KA kc RA rc,e= .returned (.tuple #[.slice KA es.length kc, .slice RA es.length rc])∧
 St w [] [eO 9 1 (.slice KA es.length kc) es.length (es.map tqS),eO 31 2 (.slice RA es.length rc) es.length (es.flatMap tqR)] w'
def lfI (y:YnD):Value:= .int .i64 y.2.1
def LfPost (L:List (Int×NoD)) (w:World) (e:Ending) (w':World):Prop:=∃ A c,e= .returned (.slice A L.length c)∧St w [] [eO 3 1 (.slice A L.length c) L.length (L.map fun y=> .int .i64 y.1)] w'
theorem lf_snoc (xs:List YnD) (y:YnD):xs.map lfI++[.int .i64 y.2.1]=(xs++[y]).map lfI:=by rw [List.map_append]; rfl
theorem lf_done {w W:World} {A:Option Addr} {c n:Nat} {L:List (Int×NoD)} {xs:List YnD} (h:xs.map pgN=L) (hn:n=xs.length) (hs:St w [] [eO 3 1 (.slice A n c) n (xs.map lfI)] W):LfPost L w (.returned (.slice A n c)) W:=by
 subst hn h
 exact ⟨A,c,by rw [List.length_map],by rw [List.length_map,List.map_map]; exact hs⟩
theorem al_done {w W:World} {KA RA:Option Addr} {kc rc m:Nat} {ps:List PgS} {root:Int} {xs:List YnD} (h:xs.map pgN=rowF ps root 0) (hm:m=(esY xs).length) (hs:St w [] [eO 9 1 (.slice KA m kc) m ((esY xs).map tqS),eO 31 2 (.slice RA m rc) m ((esY xs).flatMap tqR)] W):AlPost (allF ps root) w (.returned (.tuple #[.slice KA m kc, .slice RA m rc])) W:=by
 rw [esY_all h] at hm hs
 subst hm
 exact ⟨KA,kc,RA,rc,rfl,hs⟩
theorem kleaves_g (tt:TypeId) (tv:Value) (root:Int) (ps:List PgS) (w:World) (hS:PgsOk w tt tv ps) (hok:OkS ps) (hoc:OkC ps):
  Calls Try.prog 43 #[.iface tt (tv), .int .i64 root] w (LfPost (rowF ps root 0) w):=by
 refine (callsIn_wide (n:=3)).1 (callsIn_of_wp_marks Try.func43 rfl trivial (wpIn_wide.2 ?_) rfl)
 simp only [Try.ntmps43,List.size_toArray,List.length_cons,List.length_nil,Nat.reduceAdd,Nat.reduceSub,Array.replicate_succ,Array.replicate_zero,List.push_toArray,List.append_toArray,List.nil_append,List.cons_append]
 have hst0:=St.start w
 refine wp_seq (wp_region_P [0] [.k 4 (.slice none 0 0)] [(4,0,1,5)] hst0 fun W1 hst1=>?_)
 refine then_normal (wp_seq (wp_region_Y [0] [] [[0]] [] [.a 5] (fun ix σ β X=>match ix with | 0=>σ 5=vp (pb (β 5))∧X 0=eB (pb (β 5)) 22 #[.slice none 0 0] | _=>True) [0] [0] [(5,0,1,6)] hst1 ?_ ?_ ?_))
 ·exact fun ix _ _ _ _ _ _ hs hb hx h=>match ix,h with
  | 0,h=>by dsimp only; rw [← hs 5 rfl,← hb 5 rfl,← hx 0 rfl]; exact h
  | _+1, _=>trivial
 ·refine ⟨?_,trivial⟩
  ·refine svA fun ρ β W X cx=>?_
   exact dv_alloc (cs:=#[.slice none 0 0]) rfl (by kernel_rfl) rfl rfl (fun σ β' X' hs hb hv hx=>⟨hv,hx⟩)
 intro σ β X W2 hD hst2 fr hfr
 obtain ⟨B5_2,hu_B5_2⟩:∃ z,pb (β 5)=z:=⟨_,rfl⟩
 simp only [exq 0 ((dTn (hD 0 lq)).2),hu_B5_2] at hst2
 simp only [ed 5 ((dTn (hD 0 lq)).1),hu_B5_2] at hfr
 clear hD hu_B5_2; subst hfr; clear σ β X
 refine then_normal (wp_seq (wp_seq (wp_region_Y [0,0,3] [] [[],[],[1,2,3]] [] [.k 7 (.iface tt (tv)), .k 8 (vi root), .a 9] (fun ix σ β X=>match ix with | 0=>True | 1=>True | 2=>σ 9= .func (.func 99) #[] #[vp (pcp 0 (β 9)),vp (pcp 1 (β 9)),vp (pcp 2 (β 9))]∧X 1=eB (pcp 0 (β 9)) 113 #[.iface tt (tv)]∧X 2=eB (pcp 1 (β 9)) 3 #[vi root]∧X 3=eB (pcp 2 (β 9)) 3 #[vi 0] | _=>True) [0,1,2,3] [2] [(7,0,3,10)] hst2 ?_ ?_ ?_)))
 ·exact fun ix _ _ _ _ _ _ hs hb hx h=>match ix,h with
  | 2,h=>by dsimp only; rw [← hs 9 rfl,← hb 9 rfl,← hx 1 rfl,← hx 2 rfl,← hx 3 rfl]; exact h
  | 0, _ | 1, _ | _+3, _=>trivial
 ·refine ⟨?_,trivial⟩
  ·refine svA fun ρ β W X cx=>?_
   refine DoesU.call (run_callF (args:=#[.iface tt (tv),vi root,vi 0]) rfl cx.sees rfl (by kernel_rfl) (map3 (cx.an 0) (cx.an 1) (cx.co _))) ?_
   refine (krowc_any tt tv root 0 _).mono ?_
   rintro e W1 ⟨B4,B5,B6,rfl,hs4⟩
   refine ⟨_,rfl,post_st [eB B4 113 #[.iface tt (tv)],eB B5 3 #[vi root],eB B6 3 #[vi 0]] rfl rfl hs4 (fun σ β' X' hs hb hv hN=>?_)⟩
   have hv1:=(hv 9 rfl).1; have hv2:=(hv 9 rfl).2
   exact ⟨hv1.trans (by rw [hv2]; rfl),(by rw [hv2]; exact (List.cons.inj hN).1),(by rw [hv2]; exact (List.cons.inj (List.cons.inj hN).2).1),(by rw [hv2]; exact (List.cons.inj (List.cons.inj (List.cons.inj hN).2).2).1)⟩
 intro σ β X W3 hD hst3 fr hfr
 obtain ⟨B9a_3,hu_B9a_3⟩:∃ z,pcp 0 (β 9)=z:=⟨_,rfl⟩
 obtain ⟨B9b_3,hu_B9b_3⟩:∃ z,pcp 1 (β 9)=z:=⟨_,rfl⟩
 obtain ⟨B9c_3,hu_B9c_3⟩:∃ z,pcp 2 (β 9)=z:=⟨_,rfl⟩
 simp only [exq 1 ((dTn (hD 2 lq)).2.1),exq 2 ((dTn (hD 2 lq)).2.2.1),exq 3 ((dTn (hD 2 lq)).2.2.2),hu_B9a_3,hu_B9b_3,hu_B9c_3] at hst3
 simp only [ed 9 ((dTn (hD 2 lq)).1),hu_B9a_3,hu_B9b_3,hu_B9c_3] at hfr
 clear hD hu_B9a_3 hu_B9b_3 hu_B9c_3; subst hfr; clear σ β X
 refine then_normal (wp_block ?_)
 have hn4:=St.nilrow hst3 3
 simp only [List.cons_append,List.nil_append] at hn4
 have hp6:=hn4.pick [0,4] (by decide) rfl
 refine wp_rangeSG (α:=YnD) hp6 rfl (enters_of Try.func99 (by kernel_rfl) rfl) (encs:=ynE) (Ex:=ynR) (N:=1000) (Z:=YnZ (rowF ps root 0)) (krow_seqG _ _ _ _ _ _ _ hok hoc) (fun A hA=>RdR.keep (hn4.pick [1,2,3,0,4] (by decide) rfl) hS hA) (fun _=>rfl) (fun bb pre L=>cond bb (∃ SA:Option Addr,∃ n:Nat,∃ sc:Nat,n=pre.length∧L=[eB B5_2 22 #[.slice SA n sc],eO 3 1 (.slice SA n sc) n (pre.map lfI)]) (False)) ⟨none,0,0,rfl,rfl⟩ (fun xx a_ E_=>∃ BV:Nat,a_=⟨([.iface tt (tv),vi root,undef,undef, .slice none 0 0,vp B5_2,vp BV, .iface tt (tv),vi root, .func (.func 99) #[] #[vp B9a_3,vp B9b_3,vp B9c_3], .agg #[vi xx.2.1,vi xx.1.lv,vi xx.1.right, .string xx.1.high, .bool xx.1.dead, .slice xx.2.2.1 xx.1.es.length xx.2.2.2,vi ((xx.1.free:Int))],undef,undef,undef,undef,undef,undef]).toArray,[]⟩∧E_=eB BV 116 #[vi xx.2.1,vi xx.1.lv,vi xx.1.right, .string xx.1.high, .bool xx.1.dead, .slice xx.2.2.1 xx.1.es.length xx.2.2.2,vi ((xx.1.free:Int))]) (fun xx=>[.iface tt (tv),vi root,undef,undef, .slice none 0 0,vp B5_2,undef, .iface tt (tv),vi root, .func (.func 99) #[] #[vp B9a_3,vp B9b_3,vp B9c_3], .agg #[vi xx.2.1,vi xx.1.lv,vi xx.1.right, .string xx.1.high, .bool xx.1.dead, .slice xx.2.2.1 xx.1.es.length xx.2.2.2,vi ((xx.1.free:Int))],undef,undef,undef,undef,undef,undef]) (fun xx=>by kernel_rfl) ?_ ?_ ?_ ?_
 ·intro rl xx W5 K hK
  have hst5:=St.start W5
  refine wpIn_region_Y [0,1] [[],[0]] [[0],[1]] [[],[0]] [.a 6, .n] (fun ix σ β X=>match ix with | 0=>σ 6=vp (pb (β 6))∧X 0=eB (pb (β 6)) 116 #[vi 0,vi 0,vi 0, .string ByteArray.empty, .bool false, .slice none 0 0,vi 0] | 1=>X 1=eB (pb (β 6)) 116 #[vi xx.2.1,vi xx.1.lv,vi xx.1.right, .string xx.1.high, .bool xx.1.dead, .slice xx.2.2.1 xx.1.es.length xx.2.2.2,vi ((xx.1.free:Int))] | _=>True) [1] [0,1] [(6,0,1,7)] hst5 ?_ ?_ ?_
  ·exact fun ix _ _ _ _ _ _ hs hb hx h=>match ix,h with
   | 0,h=>by dsimp only; rw [← hs 6 rfl,← hb 6 rfl,← hx 0 rfl]; exact h
   | 1,h=>by dsimp only; rw [← hb 6 rfl,← hx 1 rfl]; exact h
   | _+2, _=>trivial
  ·refine ⟨?_,?_,trivial⟩
   ·refine svA fun ρ β W X cx=>?_
    exact dv_alloc (cs:=#[vi 0,vi 0,vi 0, .string ByteArray.empty, .bool false, .slice none 0 0,vi 0]) rfl (by kernel_rfl) rfl rfl (fun σ β' X' hs hb hv hx=>⟨hv,hx⟩)
   ·refine svA fun ρ β W X cx=>?_
    exact dv_store (n:=7) rfl (dTn (cx.an 0)).1 (cx.ou 10) (by kernel_rfl) (by kernel_rfl) (by kernel_rfl) cx (dTn (cx.an 0)).2 rfl (nle rfl) (by kernel_rfl) rfl rfl rfl (fun σ β' X' hs hb hx=>by rw [hb 6]; exact hx)
  intro σ β X W7 hD hst7 fr hfr
  obtain ⟨B6_7,hu_B6_7⟩:∃ z,pb (β 6)=z:=⟨_,rfl⟩
  simp only [exq 1 ((dTn (hD 1 lq))),hu_B6_7] at hst7
  simp only [ed 6 ((dTn (hD 0 lq)).1),hu_B6_7] at hfr
  clear hD hu_B6_7; subst hfr; clear σ β X
  exact hK _ _ _ ⟨_,rfl,rfl⟩ (hst7.pick [0] (by decide) rfl)
 ·rintro rl pre xx W8 L8 a8 E8 ⟨SA,n,sc,hn,rfl⟩ hlen8 hPx8 ⟨BV,rfl,rfl⟩ hst8r
  have hst8:St W8 (fps ([eB B5_2 22 #[.slice SA n sc],eO 3 1 (.slice SA n sc) n (pre.map lfI)]++[eO 104 3 (.slice xx.2.2.1 xx.1.es.length xx.2.2.2) xx.1.es.length (xx.1.es.flatMap enC),eB BV 116 #[vi xx.2.1,vi xx.1.lv,vi xx.1.right, .string xx.1.high, .bool xx.1.dead, .slice xx.2.2.1 xx.1.es.length xx.2.2.2,vi ((xx.1.free:Int))]])) [eB B5_2 22 #[.slice SA n sc],eO 3 1 (.slice SA n sc) n (pre.map lfI),eO 104 3 (.slice xx.2.2.1 xx.1.es.length xx.2.2.2) xx.1.es.length (xx.1.es.flatMap enC),eB BV 116 #[vi xx.2.1,vi xx.1.lv,vi xx.1.right, .string xx.1.high, .bool xx.1.dead, .slice xx.2.2.1 xx.1.es.length xx.2.2.2,vi ((xx.1.free:Int))]] W8:=hst8r
  clear hst8r
  refine wpIn_block (wpIn_region_Y [0,0,2,6,15,31] [[0],[],[3],[],[4,1],[0]] [[],[],[],[4],[5],[6]] [[],[],[],[],[1],[0]] [.c 11 (.slice SA n sc), .k 12 (vp BV), .c 13 (vi xx.2.1), .a 14, .a 15, .n] (fun ix σ β X=>match ix with | 0=>True | 1=>True | 2=>True | 3=>σ 14= .slice (sA (β 14)) 1 1∧X 4=eO 3 1 (.slice (sA (β 14)) 1 1) 1 ([vi xx.2.1]) | 4=>σ 15= .slice (sA (β 15)) (n+1) (sC (β 15))∧X 5=eO 3 1 (.slice (sA (β 15)) (n+1) (sC (β 15))) (n+1) ((pre++[xx]).map lfI) | 5=>X 6=eB B5_2 22 #[.slice (sA (β 15)) (n+1) (sC (β 15))] | _=>True) [2,3,4,5,6] [0,2,3,4,5] [(11,0,5,16)] hst8 ?_ ?_ ?_)
  ·exact fun ix _ _ _ _ _ _ hs hb hx h=>match ix,h with
   | 3,h=>by dsimp only; rw [← hs 14 rfl,← hb 14 rfl,← hx 4 rfl]; exact h
   | 4,h=>by dsimp only; rw [← hs 15 rfl,← hb 15 rfl,← hx 5 rfl]; exact h
   | 5,h=>by dsimp only; rw [← hb 15 rfl,← hx 6 rfl]; exact h
   | 0, _ | 1, _ | 2, _ | _+6, _=>trivial
  ·refine ⟨?_,?_,?_,?_,?_,trivial⟩
   ·exact xs4 rfl id fun cx=>run_load1 rfl (by kernel_rfl) (cx.ou 5) ((cx.bi 0 rfl).cell 0)
   ·exact xs4 rfl id fun cx=>run_load1 rfl (by kernel_rfl) (cx.an 1) ((cx.bi 3 rfl).cell 0)
   ·refine svA fun ρ β W X cx=>?_
    have fF13:ρ (.tmp 13)=vi xx.2.1:=(cx.an 2)
    exact dv_lit (e:=3) (xs:=[vi xx.2.1]) rfl (by simp [go_sem,fF13]) rfl (by decide) rfl rfl (fun σ β' X' hs hb hv hx=>⟨hv,hx⟩)
   ·refine svA fun ρ β W X cx=>?_
    obtain ⟨i0,hi0,hz0,hz1,hz2⟩:=info_parts Try.infoInt
    refine dv_append (n:=n) (m:=1) (nm:=n+1) (xs:=pre.map lfI) (news:=[vi xx.2.1]) (xs':=(pre++[xx]).map lfI) rfl (ty:=22) rfl (by kernel_rfl) hi0 hz0 hz1 hz2 rfl (cx.an 0) cx (cx.init 1 _ rfl) rfl (dTn (cx.an 3)).1 (by rfl) (At.of_own (cx.row (dTn (cx.an 3)).2 rfl)) (by simp [Value.oneCell']) (by simp only [maxLen]; omega) (by omega) rfl rfl rfl (by omega) (lf_snoc _ _) (fun σ β' X' hs hb hv hx=>?_)
    exact ⟨hv,hx⟩
   ·refine svA fun ρ β W X cx=>?_
    exact dv_store (n:=1) rfl (cx.ou 5) (dTn (cx.an 4)).1 (by kernel_rfl) (by kernel_rfl) (by kernel_rfl) cx (cx.init 0 _ rfl) rfl (nle rfl) (by kernel_rfl) rfl rfl rfl (fun σ β' X' hs hb hx=>by rw [hb 15]; exact hx)
  intro σ β X W9 hD hst9 fr hfr
  obtain ⟨A14_9,hu_A14_9⟩:∃ z,sA (β 14)=z:=⟨_,rfl⟩
  obtain ⟨A15_9,hu_A15_9⟩:∃ z,sA (β 15)=z:=⟨_,rfl⟩
  obtain ⟨c15_9,hu_c15_9⟩:∃ z,sC (β 15)=z:=⟨_,rfl⟩
  simp only [exq 4 ((dTn (hD 3 lq)).2),exq 5 ((dTn (hD 4 lq)).2),exq 6 ((dTn (hD 5 lq))),hu_A14_9,hu_A15_9,hu_c15_9] at hst9
  simp only [ed 14 ((dTn (hD 3 lq)).1),ed 15 ((dTn (hD 4 lq)).1),hu_A14_9,hu_A15_9,hu_c15_9] at hfr
  clear hD hu_A14_9 hu_A15_9 hu_c15_9; subst hfr; clear σ β X
  refine blk_normal ?_
  exact ⟨true, .inl ⟨rfl,rfl⟩, _,⟨A15_9,(n+1),c15_9,by rw [hn,List.length_append]; rfl,rfl⟩,hst9.pick [4,3,0] (by decide) rfl⟩
 ·rintro D5 W5d L5 XS_ E_ ⟨SA,n,sc,hn,rfl⟩ hZ_ hst5r
  have hst5d:St w [] [eB B5_2 22 #[.slice SA n sc],eO 3 1 (.slice SA n sc) n (XS_.map lfI),E_,eDfr D5] W5d:=hst5r
  clear hst5r
  refine blk_normal (then_normal (wp_seq (wp_region_Z [0,1] [[0]] [.c 16 (.slice SA n sc), .k 4 (.slice SA n sc)] [0,1,2,3] [0] [(4,1,1,5),(11,0,1,12)] hst5d ?_ fun W10 hst10=>?_)))
  ·refine ⟨?_,trivial⟩
   ·exact xs4 rfl id fun cx=>run_load1 rfl (by kernel_rfl) (cx.ou 5) ((cx.bi 0 rfl).cell 0)
  refine then_normal (wp_ret ?_)
  refine bpm_take (L:=[eB B5_2 22 #[.slice SA n sc],eO 3 1 (.slice SA n sc) n (XS_.map lfI),E_]) (hst10.pick [0,1,2,3] (by decide) rfl) fun Wt11 ht11=>?_
  refine ⟨.slice SA n sc,(results_1 Try.results43 rpt),?_⟩
  exact lf_done (hZ_.2.1 rfl) hn (ht11.pick [1] (by decide) rfl)
 ·exact fun D W L xs E h=>h.elim
theorem kall_g (tt:TypeId) (tv:Value) (root:Int) (ps:List PgS) (w:World) (hS:PgsOk w tt tv ps) (hok:OkS ps) (hoc:OkC ps):
  Calls Try.prog 42 #[.iface tt (tv), .int .i64 root] w (AlPost (allF ps root) w):=by
 refine (callsIn_wide (n:=3)).1 (callsIn_of_wp_marks Try.func42 rfl trivial (wpIn_wide.2 ?_) rfl)
 simp only [Try.ntmps42,List.size_toArray,List.length_cons,List.length_nil,Nat.reduceAdd,Nat.reduceSub,Array.replicate_succ,Array.replicate_zero,List.push_toArray,List.append_toArray,List.nil_append,List.cons_append]
 have hst0:=St.start w
 refine wp_seq (wp_region_Y [0,0] [] [[0],[1]] [] [.a 4, .a 5] (fun ix σ β X=>match ix with | 0=>σ 4=vp (pb (β 4))∧X 0=eB (pb (β 4)) 49 #[.slice none 0 0] | 1=>σ 5=vp (pb (β 5))∧X 1=eB (pb (β 5)) 58 #[.slice none 0 0] | _=>True) [0,1] [0,1] [(4,0,2,6)] hst0 ?_ ?_ ?_)
 ·exact fun ix _ _ _ _ _ _ hs hb hx h=>match ix,h with
  | 0,h=>by dsimp only; rw [← hs 4 rfl,← hb 4 rfl,← hx 0 rfl]; exact h
  | 1,h=>by dsimp only; rw [← hs 5 rfl,← hb 5 rfl,← hx 1 rfl]; exact h
  | _+2, _=>trivial
 ·refine ⟨?_,?_,trivial⟩
  ·refine svA fun ρ β W X cx=>?_
   exact dv_alloc (cs:=#[.slice none 0 0]) rfl (by kernel_rfl) rfl rfl (fun σ β' X' hs hb hv hx=>⟨hv,hx⟩)
  ·refine svA fun ρ β W X cx=>?_
   exact dv_alloc (cs:=#[.slice none 0 0]) rfl (by kernel_rfl) rfl rfl (fun σ β' X' hs hb hv hx=>⟨hv,hx⟩)
 intro σ β X W1 hD hst1 fr hfr
 obtain ⟨B4_1,hu_B4_1⟩:∃ z,pb (β 4)=z:=⟨_,rfl⟩
 obtain ⟨B5_1,hu_B5_1⟩:∃ z,pb (β 5)=z:=⟨_,rfl⟩
 simp only [exq 0 ((dTn (hD 0 lq)).2),exq 1 ((dTn (hD 1 lq)).2),hu_B4_1,hu_B5_1] at hst1
 simp only [ed 4 ((dTn (hD 0 lq)).1),ed 5 ((dTn (hD 1 lq)).1),hu_B4_1,hu_B5_1] at hfr
 clear hD hu_B4_1 hu_B5_1; subst hfr; clear σ β X
 refine then_normal (wp_seq (wp_seq (wp_region_Y [0,0,3] [] [[],[],[2,3,4]] [] [.k 12 (.iface tt (tv)), .k 13 (vi root), .a 14] (fun ix σ β X=>match ix with | 0=>True | 1=>True | 2=>σ 14= .func (.func 99) #[] #[vp (pcp 0 (β 14)),vp (pcp 1 (β 14)),vp (pcp 2 (β 14))]∧X 2=eB (pcp 0 (β 14)) 113 #[.iface tt (tv)]∧X 3=eB (pcp 1 (β 14)) 3 #[vi root]∧X 4=eB (pcp 2 (β 14)) 3 #[vi 0] | _=>True) [0,1,2,3,4] [2] [(12,0,3,15)] hst1 ?_ ?_ ?_)))
 ·exact fun ix _ _ _ _ _ _ hs hb hx h=>match ix,h with
  | 2,h=>by dsimp only; rw [← hs 14 rfl,← hb 14 rfl,← hx 2 rfl,← hx 3 rfl,← hx 4 rfl]; exact h
  | 0, _ | 1, _ | _+3, _=>trivial
 ·refine ⟨?_,trivial⟩
  ·refine svA fun ρ β W X cx=>?_
   refine DoesU.call (run_callF (args:=#[.iface tt (tv),vi root,vi 0]) rfl cx.sees rfl (by kernel_rfl) (map3 (cx.an 0) (cx.an 1) (cx.co _))) ?_
   refine (krowc_any tt tv root 0 _).mono ?_
   rintro e W1 ⟨B4,B5,B6,rfl,hs4⟩
   refine ⟨_,rfl,post_st [eB B4 113 #[.iface tt (tv)],eB B5 3 #[vi root],eB B6 3 #[vi 0]] rfl rfl hs4 (fun σ β' X' hs hb hv hN=>?_)⟩
   have hv1:=(hv 14 rfl).1; have hv2:=(hv 14 rfl).2
   exact ⟨hv1.trans (by rw [hv2]; rfl),(by rw [hv2]; exact (List.cons.inj hN).1),(by rw [hv2]; exact (List.cons.inj (List.cons.inj hN).2).1),(by rw [hv2]; exact (List.cons.inj (List.cons.inj (List.cons.inj hN).2).2).1)⟩
 intro σ β X W2 hD hst2 fr hfr
 obtain ⟨B14a_2,hu_B14a_2⟩:∃ z,pcp 0 (β 14)=z:=⟨_,rfl⟩
 obtain ⟨B14b_2,hu_B14b_2⟩:∃ z,pcp 1 (β 14)=z:=⟨_,rfl⟩
 obtain ⟨B14c_2,hu_B14c_2⟩:∃ z,pcp 2 (β 14)=z:=⟨_,rfl⟩
 simp only [exq 2 ((dTn (hD 2 lq)).2.1),exq 3 ((dTn (hD 2 lq)).2.2.1),exq 4 ((dTn (hD 2 lq)).2.2.2),hu_B14a_2,hu_B14b_2,hu_B14c_2] at hst2
 simp only [ed 14 ((dTn (hD 2 lq)).1),hu_B14a_2,hu_B14b_2,hu_B14c_2] at hfr
 clear hD hu_B14a_2 hu_B14b_2 hu_B14c_2; subst hfr; clear σ β X
 refine then_normal (wp_block ?_)
 have hn3:=St.nilrow hst2 9
 simp only [List.cons_append,List.nil_append] at hn3
 have hn4:=nilrowN hn3 31 2
 simp only [List.cons_append,List.nil_append] at hn4
 have hp6:=hn4.pick [0,1,5,6] (by decide) rfl
 refine wp_rangeSG (α:=YnD) hp6 rfl (enters_of Try.func99 (by kernel_rfl) rfl) (encs:=ynE) (Ex:=ynR) (N:=1000) (Z:=YnZ (rowF ps root 0)) (krow_seqG _ _ _ _ _ _ _ hok hoc) (fun A hA=>RdR.keep (hn4.pick [2,3,4,0,1,5,6] (by decide) rfl) hS hA) (fun _=>rfl) (fun bb pre L=>cond bb (∃ m:Nat,∃ KA:Option Addr,∃ kc:Nat,∃ RA:Option Addr,∃ rc:Nat,m=(esY pre).length∧m≤100*pre.length∧L=[eB B4_1 49 #[.slice KA m kc],eB B5_1 58 #[.slice RA m rc],eO 9 1 (.slice KA m kc) m ((esY pre).map tqS),eO 31 2 (.slice RA m rc) m ((esY pre).flatMap tqR)]) (False)) ⟨0,none,0,none,0,rfl,Nat.zero_le _,rfl⟩ (fun xx a_ E_=>∃ BV:Nat,a_=⟨([.iface tt (tv),vi root,undef,undef,vp B4_1,vp B5_1,vp BV,undef,undef,undef,undef,undef, .iface tt (tv),vi root, .func (.func 99) #[] #[vp B14a_2,vp B14b_2,vp B14c_2], .agg #[vi xx.2.1,vi xx.1.lv,vi xx.1.right, .string xx.1.high, .bool xx.1.dead, .slice xx.2.2.1 xx.1.es.length xx.2.2.2,vi ((xx.1.free:Int))],undef,undef,undef,undef,undef,undef,undef,undef,undef,undef,undef,undef,undef,undef,undef,undef,undef,undef,undef,undef,undef,undef,undef,undef,undef]).toArray,[]⟩∧E_=eB BV 116 #[vi xx.2.1,vi xx.1.lv,vi xx.1.right, .string xx.1.high, .bool xx.1.dead, .slice xx.2.2.1 xx.1.es.length xx.2.2.2,vi ((xx.1.free:Int))]) (fun xx=>[.iface tt (tv),vi root,undef,undef,vp B4_1,vp B5_1,undef,undef,undef,undef,undef,undef, .iface tt (tv),vi root, .func (.func 99) #[] #[vp B14a_2,vp B14b_2,vp B14c_2], .agg #[vi xx.2.1,vi xx.1.lv,vi xx.1.right, .string xx.1.high, .bool xx.1.dead, .slice xx.2.2.1 xx.1.es.length xx.2.2.2,vi ((xx.1.free:Int))],undef,undef,undef,undef,undef,undef,undef,undef,undef,undef,undef,undef,undef,undef,undef,undef,undef,undef,undef,undef,undef,undef,undef,undef,undef]) (fun xx=>by kernel_rfl) ?_ ?_ ?_ ?_
 ·intro rl xx W5 K hK
  have hst5:=St.start W5
  refine wpIn_region_Y [0,1] [[],[0]] [[0],[1]] [[],[0]] [.a 6, .n] (fun ix σ β X=>match ix with | 0=>σ 6=vp (pb (β 6))∧X 0=eB (pb (β 6)) 116 #[vi 0,vi 0,vi 0, .string ByteArray.empty, .bool false, .slice none 0 0,vi 0] | 1=>X 1=eB (pb (β 6)) 116 #[vi xx.2.1,vi xx.1.lv,vi xx.1.right, .string xx.1.high, .bool xx.1.dead, .slice xx.2.2.1 xx.1.es.length xx.2.2.2,vi ((xx.1.free:Int))] | _=>True) [1] [0,1] [(6,0,1,7)] hst5 ?_ ?_ ?_
  ·exact fun ix _ _ _ _ _ _ hs hb hx h=>match ix,h with
   | 0,h=>by dsimp only; rw [← hs 6 rfl,← hb 6 rfl,← hx 0 rfl]; exact h
   | 1,h=>by dsimp only; rw [← hb 6 rfl,← hx 1 rfl]; exact h
   | _+2, _=>trivial
  ·refine ⟨?_,?_,trivial⟩
   ·refine svA fun ρ β W X cx=>?_
    exact dv_alloc (cs:=#[vi 0,vi 0,vi 0, .string ByteArray.empty, .bool false, .slice none 0 0,vi 0]) rfl (by kernel_rfl) rfl rfl (fun σ β' X' hs hb hv hx=>⟨hv,hx⟩)
   ·refine svA fun ρ β W X cx=>?_
    exact dv_store (n:=7) rfl (dTn (cx.an 0)).1 (cx.ou 15) (by kernel_rfl) (by kernel_rfl) (by kernel_rfl) cx (dTn (cx.an 0)).2 rfl (nle rfl) (by kernel_rfl) rfl rfl rfl (fun σ β' X' hs hb hx=>by rw [hb 6]; exact hx)
  intro σ β X W7 hD hst7 fr hfr
  obtain ⟨B6_7,hu_B6_7⟩:∃ z,pb (β 6)=z:=⟨_,rfl⟩
  simp only [exq 1 ((dTn (hD 1 lq))),hu_B6_7] at hst7
  simp only [ed 6 ((dTn (hD 0 lq)).1),hu_B6_7] at hfr
  clear hD hu_B6_7; subst hfr; clear σ β X
  exact hK _ _ _ ⟨_,rfl,rfl⟩ (hst7.pick [0] (by decide) rfl)
 ·rintro rl pre xx W8 L8 a8 E8 ⟨m,KA,kc,RA,rc,hm,hmb,rfl⟩ hlen8 hPx8 ⟨BV,rfl,rfl⟩ hst8r
  have hst8:St W8 (fps ([eB B4_1 49 #[.slice KA m kc],eB B5_1 58 #[.slice RA m rc],eO 9 1 (.slice KA m kc) m ((esY pre).map tqS),eO 31 2 (.slice RA m rc) m ((esY pre).flatMap tqR)]++[eO 104 3 (.slice xx.2.2.1 xx.1.es.length xx.2.2.2) xx.1.es.length (xx.1.es.flatMap enC),eB BV 116 #[vi xx.2.1,vi xx.1.lv,vi xx.1.right, .string xx.1.high, .bool xx.1.dead, .slice xx.2.2.1 xx.1.es.length xx.2.2.2,vi ((xx.1.free:Int))]])) [eB B4_1 49 #[.slice KA m kc],eB B5_1 58 #[.slice RA m rc],eO 9 1 (.slice KA m kc) m ((esY pre).map tqS),eO 31 2 (.slice RA m rc) m ((esY pre).flatMap tqR),eO 104 3 (.slice xx.2.2.1 xx.1.es.length xx.2.2.2) xx.1.es.length (xx.1.es.flatMap enC),eB BV 116 #[vi xx.2.1,vi xx.1.lv,vi xx.1.right, .string xx.1.high, .bool xx.1.dead, .slice xx.2.2.1 xx.1.es.length xx.2.2.2,vi ((xx.1.free:Int))]] W8:=hst8r
  clear hst8r
  have hN0:=nd_ok hok hPx8
  have hez:∀ e∈xx.1.es,e.1.size≤1000000:=fun e he=>Nat.le_trans (hN0.es e he) (by decide)
  have hN1:=hN0.len
  refine wpIn_block (wpIn_seq (wpIn_region_Z [0,1,3,0] [[],[5]] [.k 16 (.pointer (some ⟨BV,5,none⟩)), .c 17 (.slice xx.2.2.1 xx.1.es.length xx.2.2.2), .k 18 (vi ((xx.1.es.length:Int))), .k 19 (vi 0)] [0,1,2,3,4,5] [1] [(16,0,4,20)] hst8 ?_ fun W9 hst9=>?_))
  ·refine ⟨?_,trivial⟩
   ·exact xs4 rfl id fun cx=>run_load1 rfl (by kernel_rfl) (cx.an 0) ((cx.bi 5 rfl).cell 5)
  refine then_normal (wpIn_block ?_)
  refine wpIn_loopN (fun mz az W=>∃ j:Nat,∃ q:Nat,∃ T:List EnD,∃ LA:Option Addr,∃ lc:Nat,∃ QA:Option Addr,∃ qc:Nat,j≤xx.1.es.length∧T=esY pre++xx.1.es.take j∧T.length=q∧q≤m+j∧mz=xx.1.es.length - j∧az=⟨#[.iface tt (tv),vi root,undef,undef,vp B4_1,vp B5_1,vp BV,undef,jv az 8,jv az 9,jv az 10,jv az 11, .iface tt (tv),vi root, .func (.func 99) #[] #[vp B14a_2,vp B14b_2,vp B14c_2], .agg #[vi xx.2.1,vi xx.1.lv,vi xx.1.right, .string xx.1.high, .bool xx.1.dead, .slice xx.2.2.1 xx.1.es.length xx.2.2.2,vi ((xx.1.free:Int))], .pointer (some ⟨BV,5,none⟩), .slice xx.2.2.1 xx.1.es.length xx.2.2.2,vi ((xx.1.es.length:Int)),vi ((j:Int)),jv az 20,jv az 21,jv az 22,jv az 23,jv az 24,jv az 25,jv az 26,jv az 27,jv az 28,jv az 29,jv az 30,jv az 31,jv az 32,jv az 33,jv az 34,jv az 35,jv az 36,jv az 37,jv az 38,undef,undef],[]⟩∧St W8 (fps ([eB B4_1 49 #[.slice KA m kc],eB B5_1 58 #[.slice RA m rc],eO 9 1 (.slice KA m kc) m ((esY pre).map tqS),eO 31 2 (.slice RA m rc) m ((esY pre).flatMap tqR)]++[eO 104 3 (.slice xx.2.2.1 xx.1.es.length xx.2.2.2) xx.1.es.length (xx.1.es.flatMap enC),eB BV 116 #[vi xx.2.1,vi xx.1.lv,vi xx.1.right, .string xx.1.high, .bool xx.1.dead, .slice xx.2.2.1 xx.1.es.length xx.2.2.2,vi ((xx.1.free:Int))]])) [eB B4_1 49 #[.slice LA q lc],eB B5_1 58 #[.slice QA q qc],eO 9 1 (.slice LA q lc) q (T.map tqS),eO 31 2 (.slice QA q qc) q (T.flatMap tqR),eO 104 3 (.slice xx.2.2.1 xx.1.es.length xx.2.2.2) xx.1.es.length (xx.1.es.flatMap enC),eB BV 116 #[vi xx.2.1,vi xx.1.lv,vi xx.1.right, .string xx.1.high, .bool xx.1.dead, .slice xx.2.2.1 xx.1.es.length xx.2.2.2,vi ((xx.1.free:Int))]] W) (xx.1.es.length - 0) ?_ ?_
  · -- the loop begins
    exact ⟨0,m,(esY pre),KA,kc,RA,rc,Nat.zero_le _,by rw [List.take_zero,List.append_nil],hm.symm,Nat.le_refl _,rfl,(by kernel_rfl),hst9.pk [0,1,2,3,4,5]⟩
  rintro n10 a10 W10 ⟨j,q,T,LA,lc,QA,qc,hj,hT,hTl,hqm,rfl,hj_,hst10⟩
  obtain ⟨u10_,hu_⟩:∃ z,jv a10=z:=⟨_,rfl⟩
  rw [hu_] at hj_; clear hu_; subst hj_
  refine wpIn_seq (wpIn_region_P [0] [.k 20 (.bool (decide ((j:Int) < (xx.1.es.length:Int))))] [(20,0,1,21)] hst10 fun W11 hst11=>?_)
  refine then_normal (wpIn_seq ?_)
  rcases Bool.eq_false_or_eq_true (decide ((j:Int) < (xx.1.es.length:Int))) with hs12 | hs12
  ·have hs12p:(j:Int) < (xx.1.es.length:Int):=by simpa using hs12
   refine wpIn_cond_true (show Act.eval _ _= .bool true from (congrArg Value.bool hs12)) (wpIn_skip (then_normal (wpIn_seq (wpIn_block (wpIn_seq (wpIn_region_Y [0,1,0,7] [[4],[4],[],[6]] [[],[],[6],[7]] [[],[],[],[6]] [.c 21 (.pointer (some ((ad xx.2.2.1).add (j*3)))), .c 22 (.agg #[.string ((xx.1.es.getD j en0).1),vi (((xx.1.es.getD j en0).2.1:Int)),vi ((xx.1.es.getD j en0).2.2)]), .a 8, .n] (fun ix σ β X=>match ix with | 0=>True | 1=>True | 2=>σ 8=vp (pb (β 8))∧X 6=eB (pb (β 8)) 104 #[.string ByteArray.empty,vi 0,vi 0] | 3=>X 7=eB (pb (β 8)) 104 #[.string ((xx.1.es.getD j en0).1),vi (((xx.1.es.getD j en0).2.1:Int)),vi ((xx.1.es.getD j en0).2.2)] | _=>True) [0,1,2,3,4,5,7] [0,1,2,3] [(8,2,1,9),(12,0,2,14)] hst11 ?_ ?_ ?_))))))
   ·exact fun ix _ _ _ _ _ _ hs hb hx h=>match ix,h with
    | 2,h=>by dsimp only; rw [← hs 8 rfl,← hb 8 rfl,← hx 6 rfl]; exact h
    | 3,h=>by dsimp only; rw [← hb 8 rfl,← hx 7 rfl]; exact h
    | 0, _ | 1, _ | _+4, _=>trivial
   ·refine ⟨?_,?_,?_,?_,trivial⟩
    ·exact xs4 rfl id fun cx=>run_indexSlM (e:=104) (m:=j) (sz:=3) rfl (by kernel_rfl) (by kernel_rfl) (cx.ou 17) (cx.ou 19) (by omega) (by omega) (At.of_ownN (cx.ri 4 rfl)) (by have h_:=flatLen (f:=enC) (sz:=3) enC_len xx.1.es; show 0 < (List.flatMap enC xx.1.es).length; omega)
    ·exact xs4 rfl id fun cx=>run_loadElt (f:=enC) (m:=j) (sz:=3) (off:=0) (n:=3) rfl (by kernel_rfl) (by kernel_rfl) (cx.an 0) rfl enC_len (At.of_ownN (cx.ri 4 rfl)) (en_get (by omega)) (fun k hk=>match k,hk with | 0, _=>rfl | 1, _=>rfl | 2, _=>rfl | k+3,hk=>absurd hk (by omega))
    ·refine svA fun ρ β W X cx=>?_
     exact dv_alloc (cs:=#[.string ByteArray.empty,vi 0,vi 0]) rfl (by kernel_rfl) rfl rfl (fun σ β' X' hs hb hv hx=>⟨hv,hx⟩)
    ·refine svA fun ρ β W X cx=>?_
     exact dv_store (n:=3) rfl (dTn (cx.an 2)).1 (cx.an 1) (by kernel_rfl) (by kernel_rfl) (by kernel_rfl) cx (dTn (cx.an 2)).2 rfl (nle rfl) (by kernel_rfl) rfl rfl rfl (fun σ β' X' hs hb hx=>by rw [hb 8]; exact hx)
   intro σ β X W13 hD hst13 fr hfr
   obtain ⟨B8_13,hu_B8_13⟩:∃ z,pb (β 8)=z:=⟨_,rfl⟩
   simp only [exq 7 ((dTn (hD 3 lq))),hu_B8_13] at hst13
   simp only [ed 8 ((dTn (hD 2 lq)).1),hu_B8_13] at hfr
   clear hD hu_B8_13; subst hfr; clear σ β X
   refine then_normal (wpIn_seq (wpIn_region_Y [0,1,3,7,15,15,15,0,159,447,1023] [[],[6],[],[],[],[],[],[],[],[7]] [[],[],[],[],[],[],[],[7],[],[8]] [[],[],[],[],[],[],[],[],[],[7]] [.k 24 (vp B8_13), .c 25 (.string ((xx.1.es.getD j en0).1)), .c 26 (.tuple #[.string (qkF ((xx.1.es.getD j en0).1)), .agg #[vi (opF ((xx.1.es.getD j en0).1)),vi (osF ((xx.1.es.getD j en0).1))], .bool (decide (4≤((xx.1.es.getD j en0).1).size))]), .k 23 (.tuple #[.string (qkF ((xx.1.es.getD j en0).1)), .agg #[vi (opF ((xx.1.es.getD j en0).1)),vi (osF ((xx.1.es.getD j en0).1))], .bool (decide (4≤((xx.1.es.getD j en0).1).size))]), .k 27 (.string (qkF ((xx.1.es.getD j en0).1))), .k 28 (.agg #[vi (opF ((xx.1.es.getD j en0).1)),vi (osF ((xx.1.es.getD j en0).1))]), .k 29 (.bool (decide (4≤((xx.1.es.getD j en0).1).size))), .a 10, .k 9 (.string (qkF ((xx.1.es.getD j en0).1))), .n, .k 11 (.bool (decide (4≤((xx.1.es.getD j en0).1).size)))] (fun ix σ β X=>match ix with | 0=>True | 1=>True | 2=>True | 3=>True | 4=>True | 5=>True | 6=>True | 7=>σ 10=vp (pb (β 10))∧X 7=eB (pb (β 10)) 31 #[vi 0,vi 0] | 8=>True | 9=>X 8=eB (pb (β 10)) 31 #[vi (opF ((xx.1.es.getD j en0).1)),vi (osF ((xx.1.es.getD j en0).1))] | _=>True) [0,1,2,3,4,5,6,8] [1,2,7,9] [(9,8,1,10),(0,7,1,1),(0,10,1,1),(11,3,1,12),(0,0,3,3),(0,4,3,3)] hst13 ?_ ?_ ?_))
   ·exact fun ix _ _ _ _ _ _ hs hb hx h=>match ix,h with
    | 7,h=>by dsimp only; rw [← hs 10 rfl,← hb 10 rfl,← hx 7 rfl]; exact h
    | 9,h=>by dsimp only; rw [← hb 10 rfl,← hx 8 rfl]; exact h
    | 0, _ | 1, _ | 2, _ | 3, _ | 4, _ | 5, _ | 6, _ | 8, _ | _+10, _=>trivial
   ·refine ⟨?_,?_,?_,?_,trivial⟩
    ·exact xs4 rfl id fun cx=>run_load1 rfl (by kernel_rfl) (cx.an 0) ((cx.bi 6 rfl).cell 0)
    ·exact xsc rfl id rfl rfl fun cx=>⟨_,kpart_any ((xx.1.es.getD j en0).1) _ (getD_size hez _),(map1 (cx.an 1))⟩
    ·refine svA fun ρ β W X cx=>?_
     exact dv_alloc (cs:=#[vi 0,vi 0]) rfl (by kernel_rfl) rfl rfl (fun σ β' X' hs hb hv hx=>⟨hv,hx⟩)
    ·refine svA fun ρ β W X cx=>?_
     exact dv_store (n:=2) rfl (dTn (cx.an 7)).1 (cx.an 5) (by kernel_rfl) (by kernel_rfl) (by kernel_rfl) cx (dTn (cx.an 7)).2 rfl (nle rfl) (by kernel_rfl) rfl rfl rfl (fun σ β' X' hs hb hx=>by rw [hb 10]; exact hx)
   intro σ β X W14 hD hst14 fr hfr
   obtain ⟨B10_14,hu_B10_14⟩:∃ z,pb (β 10)=z:=⟨_,rfl⟩
   simp only [exq 8 ((dTn (hD 9 lq))),hu_B10_14] at hst14
   simp only [ed 10 ((dTn (hD 7 lq)).1),hu_B10_14] at hfr
   clear hD hu_B10_14; subst hfr; clear σ β X
   refine then_normal (wpIn_region_Y [0,0,2,7,0,0,32,127,255,511] [[0],[],[],[8,2],[1],[7],[],[10,3],[0],[1]] [[],[],[8],[9],[],[],[10],[11],[12],[13]] [[],[],[],[2],[],[],[],[3],[0],[1]] [.c 30 (.slice LA q lc), .k 31 (.string (qkF ((xx.1.es.getD j en0).1))), .a 32, .a 33, .c 34 (.slice QA q qc), .c 35 (.agg #[vi (opF ((xx.1.es.getD j en0).1)),vi (osF ((xx.1.es.getD j en0).1))]), .a 36, .a 37, .n, .n] (fun ix σ β X=>match ix with | 0=>True | 1=>True | 2=>σ 32= .slice (sA (β 32)) 1 1∧X 8=eO 9 1 (.slice (sA (β 32)) 1 1) 1 ([.string (qkF ((xx.1.es.getD j en0).1))]) | 3=>σ 33= .slice (sA (β 33)) (q+1) (sC (β 33))∧X 9=eO 9 1 (.slice (sA (β 33)) (q+1) (sC (β 33))) (q+1) ((T++[(xx.1.es.getD j en0)]).map tqS) | 4=>True | 5=>True | 6=>σ 36= .slice ((some ⟨(pb' (β 36)),0,none⟩)) 1 1∧X 10=eO 31 2 (.slice ((some ⟨(pb' (β 36)),0,none⟩)) 1 1) 1 ([vi (opF ((xx.1.es.getD j en0).1)),vi (osF ((xx.1.es.getD j en0).1))]) | 7=>σ 37= .slice (sA (β 37)) (q+1) (sC (β 37))∧X 11=eO 31 2 (.slice (sA (β 37)) (q+1) (sC (β 37))) (q+1) ((T++[(xx.1.es.getD j en0)]).flatMap tqR) | 8=>X 12=eB B4_1 49 #[.slice (sA (β 33)) (q+1) (sC (β 33))] | 9=>X 13=eB B5_1 58 #[.slice (sA (β 37)) (q+1) (sC (β 37))] | _=>True) [4,5,6,7,8,9,10,11,12,13] [0,2,3,4,5,6,7,8,9] [(30,0,8,38)] hst14 ?_ ?_ ?_)
   ·exact fun ix _ _ _ _ _ _ hs hb hx h=>match ix,h with
    | 2,h=>by dsimp only; rw [← hs 32 rfl,← hb 32 rfl,← hx 8 rfl]; exact h
    | 3,h=>by dsimp only; rw [← hs 33 rfl,← hb 33 rfl,← hx 9 rfl]; exact h
    | 6,h=>by dsimp only; rw [← hs 36 rfl,← hb 36 rfl,← hx 10 rfl]; exact h
    | 7,h=>by dsimp only; rw [← hs 37 rfl,← hb 37 rfl,← hx 11 rfl]; exact h
    | 8,h=>by dsimp only; rw [← hb 33 rfl,← hx 12 rfl]; exact h
    | 9,h=>by dsimp only; rw [← hb 37 rfl,← hx 13 rfl]; exact h
    | 0, _ | 1, _ | 4, _ | 5, _ | _+10, _=>trivial
   ·refine ⟨?_,?_,?_,?_,?_,?_,?_,?_,?_,trivial⟩
    ·exact xs4 rfl id fun cx=>run_load1 rfl (by kernel_rfl) (cx.ou 4) ((cx.bi 0 rfl).cell 0)
    ·refine svA fun ρ β W X cx=>?_
     have fF31:ρ (.tmp 31)= .string (qkF ((xx.1.es.getD j en0).1)):=(cx.an 1)
     exact dv_lit (e:=9) (xs:=[.string (qkF ((xx.1.es.getD j en0).1))]) rfl (by simp [go_sem,fF31]) rfl (by decide) rfl rfl (fun σ β' X' hs hb hv hx=>⟨hv,hx⟩)
    ·refine svA fun ρ β W X cx=>?_
     obtain ⟨i0,hi0,hz0,hz1,hz2⟩:=info_parts Try.infoStr
     refine dv_append (n:=q) (m:=1) (nm:=q+1) (xs:=T.map tqS) (news:=[.string (qkF ((xx.1.es.getD j en0).1))]) (xs':=(T++[(xx.1.es.getD j en0)]).map tqS) rfl (ty:=49) rfl (by kernel_rfl) hi0 hz0 hz1 hz2 rfl (cx.an 0) cx (cx.init 2 _ rfl) rfl (dTn (cx.an 2)).1 (by rfl) (At.of_own (cx.row (dTn (cx.an 2)).2 rfl)) (by simp [Value.oneCell']) (by simp only [maxLen]; omega) (by omega) rfl rfl rfl (by omega) (tqS_snoc _ _) (fun σ β' X' hs hb hv hx=>?_)
     exact ⟨hv,hx⟩
    ·exact xs4 rfl id fun cx=>run_load1 rfl (by kernel_rfl) (cx.ou 5) ((cx.bi 1 rfl).cell 0)
    ·exact xs4 rfl id fun cx=>run_loadB (n:=2) rfl (by kernel_rfl) (by kernel_rfl) (cx.ou 10) (cx.bi 7 rfl) (nle rfl) rfl
    ·refine svA fun ρ β W X cx=>?_
     have fF35:ρ (.tmp 35)= .agg #[vi (opF ((xx.1.es.getD j en0).1)),vi (osF ((xx.1.es.getD j en0).1))]:=(cx.an 5)
     exact dv_litN (e:=31) (sz:=2) (xs:=[vi (opF ((xx.1.es.getD j en0).1)),vi (osF ((xx.1.es.getD j en0).1))]) rfl (by simp [go_sem,fF35]) rfl (by decide) rfl rfl (fun σ β' X' hs hb hv hx=>⟨hv,hx⟩)
    ·refine svA fun ρ β W X cx=>?_
     obtain ⟨i0,hi0,hz0,hz1,hz2⟩:=info_parts Try.infoTid
     refine dv_appendN (n:=q) (m:=1) (nm:=q+1) (sz:=2) (xs:=T.flatMap tqR) (news:=[vi (opF ((xx.1.es.getD j en0).1)),vi (osF ((xx.1.es.getD j en0).1))]) (xs':=(T++[(xx.1.es.getD j en0)]).flatMap tqR) rfl (ty:=58) rfl (by kernel_rfl) hi0 hz0 hz1 hz2 rfl (by decide) (cx.an 4) cx (cx.init 3 _ rfl) rfl (dTn (cx.an 6)).1 (by rfl) (At.of_ownN (cx.row (dTn (cx.an 6)).2 rfl)) (by simp [Value.oneCell']) (by simp only [maxLen]; omega) (by omega) rfl rfl rfl (by omega) (tqR_snoc _ _) (fun σ β' X' hs hb hv hx=>?_)
     exact ⟨hv,hx⟩
    ·refine svA fun ρ β W X cx=>?_
     exact dv_store (n:=1) rfl (cx.ou 4) (dTn (cx.an 3)).1 (by kernel_rfl) (by kernel_rfl) (by kernel_rfl) cx (cx.init 0 _ rfl) rfl (nle rfl) (by kernel_rfl) rfl rfl rfl (fun σ β' X' hs hb hx=>by rw [hb 33]; exact hx)
    ·refine svA fun ρ β W X cx=>?_
     exact dv_store (n:=1) rfl (cx.ou 5) (dTn (cx.an 7)).1 (by kernel_rfl) (by kernel_rfl) (by kernel_rfl) cx (cx.init 1 _ rfl) rfl (nle rfl) (by kernel_rfl) rfl rfl rfl (fun σ β' X' hs hb hx=>by rw [hb 37]; exact hx)
   intro σ β X W15 hD hst15 fr hfr
   obtain ⟨A32_15,hu_A32_15⟩:∃ z,sA (β 32)=z:=⟨_,rfl⟩
   obtain ⟨A33_15,hu_A33_15⟩:∃ z,sA (β 33)=z:=⟨_,rfl⟩
   obtain ⟨c33_15,hu_c33_15⟩:∃ z,sC (β 33)=z:=⟨_,rfl⟩
   obtain ⟨B36_15,hu_B36_15⟩:∃ z,pb' (β 36)=z:=⟨_,rfl⟩
   obtain ⟨A37_15,hu_A37_15⟩:∃ z,sA (β 37)=z:=⟨_,rfl⟩
   obtain ⟨c37_15,hu_c37_15⟩:∃ z,sC (β 37)=z:=⟨_,rfl⟩
   simp only [exq 8 ((dTn (hD 2 lq)).2),exq 9 ((dTn (hD 3 lq)).2),exq 10 ((dTn (hD 6 lq)).2),exq 11 ((dTn (hD 7 lq)).2),exq 12 ((dTn (hD 8 lq))),exq 13 ((dTn (hD 9 lq))),hu_A32_15,hu_A33_15,hu_c33_15,hu_B36_15,hu_A37_15,hu_c37_15] at hst15
   simp only [ed 32 ((dTn (hD 2 lq)).1),ed 33 ((dTn (hD 3 lq)).1),ed 36 ((dTn (hD 6 lq)).1),ed 37 ((dTn (hD 7 lq)).1),hu_A32_15,hu_A33_15,hu_c33_15,hu_B36_15,hu_A37_15,hu_c37_15] at hfr
   clear hD hu_A32_15 hu_A33_15 hu_c33_15 hu_B36_15 hu_A37_15 hu_c37_15; subst hfr; clear σ β X
   refine blk_normal (then_normal (wpIn_region_P [0,1] [tI 38 ((j:Int)+1) (by omega), .k 19 (vi ((j:Int)+1))] [(19,1,1,20),(18,0,1,19)] hst15 fun W16 hst16=>?_))
   refine then_normal ?_
   refine ⟨xx.1.es.length - ((j+1)),by omega,?_⟩
   exact ⟨(j+1),(q+1),(T++[(xx.1.es.getD j en0)]),A33_15,c33_15,A37_15,c37_15,by omega,by rw [hT,take_getD (by omega),List.append_assoc],by rw [List.length_append,hTl]; rfl,by omega,rfl,(by kernel_rfl),hst16.pk [8,9,5,7,0,1]⟩
  have hs12p:¬ ((j:Int) < (xx.1.es.length:Int)):=by simpa using hs12
  refine wpIn_cond_false (show Act.eval _ _= .bool false from (congrArg Value.bool hs12)) (wpIn_exit (then_exit (then_exit (blk_eq (blk_normal ?_)))))
  have hfin_:T=esY (pre++[xx]):=by rw [hT,esY_snoc,List.take_of_length_le (by omega)]
  rw [hfin_] at hst11 hTl
  exact ⟨true, .inl ⟨rfl,rfl⟩, _,⟨q,LA,lc,QA,qc,hTl.symm,by rw [List.length_append]; show q≤100*(pre.length+1); omega,rfl⟩,hst11.pick [0,1,2,3,4] (by decide) rfl⟩
 ·rintro D5 W5d L5 XS_ E_ ⟨m,KA,kc,RA,rc,hm,hmb,rfl⟩ hZ_ hst5r
  have hst5d:St w [] [eB B4_1 49 #[.slice KA m kc],eB B5_1 58 #[.slice RA m rc],eO 9 1 (.slice KA m kc) m ((esY XS_).map tqS),eO 31 2 (.slice RA m rc) m ((esY XS_).flatMap tqR),E_,eDfr D5] W5d:=hst5r
  clear hst5r
  refine blk_normal (then_normal (wp_seq (wp_region_Y [0,0,1,7] [[0],[1],[0],[1]] [[],[],[6],[7]] [[],[],[0],[1]] [.c 39 (.slice KA m kc), .c 40 (.slice RA m rc), .n, .n] (fun ix σ β X=>match ix with | 0=>True | 1=>True | 2=>X 6=eB B4_1 49 #[.slice KA m kc] | 3=>X 7=eB B5_1 58 #[.slice RA m rc] | _=>True) [2,3,4,5,6,7] [0,1,2,3] [(39,0,2,41)] hst5d ?_ ?_ ?_)))
  ·exact fun ix _ _ _ _ _ _ hs hb hx h=>match ix,h with
   | 2,h=>by dsimp only; rw [← hx 6 rfl]; exact h
   | 3,h=>by dsimp only; rw [← hx 7 rfl]; exact h
   | 0, _ | 1, _ | _+4, _=>trivial
  ·refine ⟨?_,?_,?_,?_,trivial⟩
   ·exact xs4 rfl id fun cx=>run_load1 rfl (by kernel_rfl) (cx.ou 4) ((cx.bi 0 rfl).cell 0)
   ·exact xs4 rfl id fun cx=>run_load1 rfl (by kernel_rfl) (cx.ou 5) ((cx.bi 1 rfl).cell 0)
   ·refine svA fun ρ β W X cx=>?_
    exact dv_store (n:=1) rfl (cx.ou 4) (cx.an 0) (by kernel_rfl) (by kernel_rfl) (by kernel_rfl) cx (cx.init 0 _ rfl) rfl (nle rfl) (by kernel_rfl) rfl rfl rfl (fun σ β' X' hs hb hx=>hx)
   ·refine svA fun ρ β W X cx=>?_
    exact dv_store (n:=1) rfl (cx.ou 5) (cx.an 1) (by kernel_rfl) (by kernel_rfl) (by kernel_rfl) cx (cx.init 1 _ rfl) rfl (nle rfl) (by kernel_rfl) rfl rfl rfl (fun σ β' X' hs hb hx=>hx)
  intro σ β X W17 hD hst17 fr hfr
  simp only [exq 6 ((dTn (hD 2 lq))),exq 7 ((dTn (hD 3 lq)))] at hst17
  clear hD; subst hfr; clear σ β X
  refine then_normal (wp_ret ?_)
  refine bpm_take (L:=[eO 9 1 (.slice KA m kc) m ((esY XS_).map tqS),eO 31 2 (.slice RA m rc) m ((esY XS_).flatMap tqR),E_,eB B4_1 49 #[.slice KA m kc],eB B5_1 58 #[.slice RA m rc]]) (hst17.pick [0,1,2,4,5,3] (by decide) rfl) fun Wt18 ht18=>?_
  refine ⟨.tuple #[.slice KA m kc, .slice RA m rc],(results_2 Try.results42 (rpc (ht18.blk 3 rfl) 0) (rpc (ht18.blk 4 rfl) 0)),?_⟩
  exact al_done (hZ_.2.1 rfl) hm (ht18.pick [0,1] (by decide) rfl)
 ·exact fun D W L xs E h=>h.elim
end
section
open Go.RowKit
theorem lref_any (i:Nat) (w:World) (hi:i≤1000000):
  Calls Try.prog 41 #[.int .i64 ((i:Int))] w (Ret (.agg #[.int .i64 (1+(i:Int) / 8), .int .i64 (1+(i:Int) % 8)]) w):=by
 go_enter Try.func41,Try.ntmps41
 have hst0:=St.start w
 refine wp_seq (sqr (sqal #[vi 0,vi 0] hst0 fun B2_1 W1 hst1=>?_))
 refine then_normal (wp_seq (sqr (sqp [.m 3 0,sQu 4 .i64 (i:Int) 8 ((i:Int) / 8) (by rw [Int.tdiv_eq_ediv_of_nonneg (by omega)]; exact IntWalk.i64_in _ (by omega)),sI 5 (1+((i:Int) / 8)) (by omega), .m 6 0,sRe 7 .i64 (i:Int) 8 ((i:Int) % 8) (Int.tmod_eq_emod_of_nonneg (by omega)),sI 8 (1+((i:Int) % 8)) (by omega), .k 9 (.agg #[vi (1+((i:Int) / 8)),vi (1+((i:Int) % 8))])] ?_)))
 refine sqst (n:=2) 0 #[vi (1+((i:Int) / 8)),vi (1+((i:Int) % 8))] hst1 fun W9 hst9=>?_
 refine then_normal (wp_ret ?_)
 refine bpr (.agg #[vi (1+((i:Int) / 8)),vi (1+((i:Int) % 8))]) (results_cell (n:=2) Try.results41 rfl (by kernel_rfl) (by kernel_rfl) (hst9.blk 0 rfl) rfl) ?_
 exact Ret.of rfl hst9.ext
theorem lrest14 (x:Int) (w:World):
  Calls Try.prog 14 #[.int .i64 x, .int .i64 14] w (Ret (.int .i64 ((x.tmod 14+14) % 14)) w):=by
 have h1_:=Int.lt_tmod_of_pos x (b:=14) (by decide)
 have h2_:=Int.tmod_lt_of_pos x (b:=14) (by decide)
 go_enter Try.func14,Try.ntmps14
 have hst0:=St.start w
 refine wp_seq (sqr (sqp [.k 4 (vi 0)] ?_))
 refine then_normal (wp_seq (sqr (sqp [.m 5 0, .m 6 1,sRe 7 .i64 x 14 (x.tmod 14) (rfl), .m 8 1,sI 9 ((x.tmod 14)+14) (by omega), .m 10 1,sRe 11 .i64 ((x.tmod 14)+14) 14 (((x.tmod 14)+14) % 14) (Int.tmod_eq_emod_of_nonneg (by omega)), .m 4 11] ?_)))
 refine then_normal (wp_ret ?_)
 refine bpr (vi (((x.tmod 14)+14) % 14)) (results_1 Try.results14 rpt) ?_
 exact Ret.of rfl hst0.ext
theorem treehalf_any (A:Option Addr) (n0 c:Nat) (l:List Int) (x steps:Int) (w:World) (hA:At w A (l.map (Value.int .i64))) (hn:l.length=n0) (hc:n0≤c):
  Calls Try.prog 7 #[.slice A n0 c, .int .i64 x, .int .i64 steps] w (Ret (.bool true) w):=by
 go_enter Try.func7,Try.ntmps7
 have hst0:=St.start w
 refine wp_seq (sqr (sqp [.k 6 (.bool false)] ?_))
 refine then_normal (wp_seq (sqr (sqk (.bool true) hst0 (fun cx=>⟨_,sanity10_any _,map0⟩) fun W2 hst2=>?_)))
 refine sqp [.k 7 (.bool true)] ?_
 refine then_normal (wp_seq (sqr (sqp [.m 23 0] ?_)))
 refine sqk (.slice A ((min n0 60)) c) hst2 (fun cx=>⟨_,lseed_any A n0 c 60 _ hc,(map2 (cx.ou 23) (cx.co _))⟩) fun W5 hst5=>?_
 refine sqp [.m 8 24] ?_
 refine then_normal (wp_seq ?_)
 obtain ⟨mf,hN_mf⟩:∃ z,(min n0 60)=z:=⟨_,rfl⟩
 rw [hN_mf]
 refine sqr (sqp [.m 25 8] ?_)
 refine sqk1s (fun B26_8=>vp B26_8) (fun B26_8 r0_8=>eBk B26_8 (grownF (l.take mf)) r0_8) hst5 (fun cx=>⟨_,(rgrown_any _ _ _ (l.take mf) _ (At.take_mapI (hA.ext cx.upd.to_ext) mf) (by first | (rw [List.length_take]; omega) | omega)).mono (by rintro e W1 ⟨B4,fp4,rfl,hs4⟩; exact ⟨_, _,rfl,hs4⟩),(map1 (cx.ou 25))⟩) fun B26_8 r0_8 W8 hst8=>?_
 refine sqp [.m 9 26] ?_
 refine then_normal (wp_seq (sqr (sqp [.m 27 1] ?_)))
 refine sqk (.string (keyF x)) hst8 (fun cx=>⟨_,rkey_any x _,(map1 (cx.ou 27))⟩) fun W11 hst11=>?_
 refine sqp [.k 29 (.agg #[vi 50,vi 1])] ?_
 refine sqk1s (fun B30_13=>vp B30_13) (fun B30_13 r1_13=>ePk B30_13 (putT 0 (keyF x) 50 1) r1_13) hst11 (fun cx=>⟨_,(kgrowN_any 0 (keyF x) 50 1 _ (Nat.le_trans (keyF_size _) (by decide))).mono (by rintro e W1 ⟨B4,fp4,rfl,hs4⟩; exact ⟨_, _,rfl,hs4⟩),(map3 (cx.co _) (cx.ou 28) (cx.ou 29))⟩) fun B30_13 r1_13 W13 hst13=>?_
 refine sqp [.m 10 30] ?_
 refine then_normal (wp_seq (sqr (sqp [.k 11 (vi 40)] ?_)))
 refine then_normal (wp_seq (wp_seq (sqr (sqp [.k 12 (vi 0)] ?_))))
 refine then_normal (wp_block ?_)
 obtain ⟨p0,hp0⟩:∃ z,(putT 0 (keyF x) 50 1)=z:=⟨_,rfl⟩
 obtain ⟨b0,hb0⟩:∃ z,(grownF (l.take mf))=z:=⟨_,rfl⟩
 obtain ⟨few,hfew⟩:∃ z,(l.take mf)=z:=⟨_,rfl⟩
 rw [hp0,hb0] at hst13
 have hpu0:PuM (54016+10*0) (0+1) p0:=by rw [← hp0]; exact put_sz _ _ _ _ (by omega)
 have hrt0:p0.root=0:=by rw [← hp0]; rfl
 have hgr0:=grown_ok (l.take mf)
 rw [show grownF (l.take mf)=b0 from hb0] at hgr0
 have hfl:few.length=mf:=by rw [← hfew,List.length_take]; omega
 have hhf0:HalfI few (entF (keyF x) 50 1) b0 p0 40:=by rw [← hb0,← hp0,hfew]; exact half_start (by omega) _
 have hxf:∀ y∈entsG few few.length,y.1≠entF (keyF x) 50 1:=ent_far (by omega) ⟨by omega,by omega⟩
 refine wp_loopT (fun t_ mz az W=>∃ i:Nat,∃ ps:List PgS,∃ nx:Int,∃ p:PuT,∃ fb:List Nat,∃ fk:List Nat,(i:Int)≤(steps.tmod 14+14) % 14∧BdM (54016+10*i) ps∧ps.length=60∧C8 ps∧(40≤nx∧nx≤40+i)∧PuM (54016+10*i) (i+1) p∧p.root=0∧HalfI few (entF (keyF x) 50 1) ps p nx∧mz=14 - i∧az=⟨(ovr (jv az) [(6,6,1,[]),(4,11,0,[vi nx,vi ((i:Int))]),(0,13,3,[]),(15,31,23,[])] t_).toArray,[]⟩∧St w [] [eBk B26_8 ps fb,ePk B30_13 p fk] W) (14 - 0) ?_ ?_
 · -- the loop begins
   exact ⟨0,b0,40,p0,r0_8,r1_13,by omega,hgr0.1,hgr0.2.1,hgr0.2.2,by omega,hpu0,hrt0,hhf0,rfl,(by kernel_rfl),hst13.pk [0,1]⟩
 rintro n17 a17 W17 ⟨i,ps,nx,p,fb,fk,hi,hpb,hp60,hc8,hnx,hpu,hrt,hhf,rfl,hj_,hst17⟩
 refine ovz hj_ fun u17_=>?_
 have hi14:i≤13:=by omega
 refine wp_seq (wp_seq (sqr (sqp [.m 31 12, .m 32 2] ?_)))
 refine sqk (vi ((steps.tmod 14+14) % 14)) hst17 (fun cx=>⟨_,lrest14 steps _,(map2 (cx.ou 32) (cx.co _))⟩) fun W20 hst20=>?_
 refine sqp [.k 34 (.bool (decide ((i:Int) < (steps.tmod 14+14) % 14)))] ?_
 refine then_normal (wds (fun hs22 hs22p=>?_) fun hs22 hs22p=>?_)
 ·refine wp_skip (then_normal (wp_seq (wp_block (wp_seq ?_))))
  have hok:=hpb.ok (by omega) (by omega)
  have hpl:=hpu.len
  have hte:∀ t∈p.left,t.1.size≤900000∧0≤t.2.1∧t.2.1≤90000:=fun t ht=>by have h_:=hpu.left t ht; omega
  have hss:=step_sz (fresh:=nx) hpb hpu
  have hed9:=stepF_len (fresh:=nx) (p:=p) hok
  have hc82:=step_c8 (p:=p) (fresh:=nx) hc8 hok (by omega)
  have hrt2:=(root_step ps p nx).trans hrt
  have hhs:=half_step hhf (by omega) hxf
  obtain ⟨R,hR⟩:∃ z,stepF ps p nx=z:=⟨_,rfl⟩
  rw [hR] at hss hed9 hc82 hrt2 hhs
  have hedm:=hss.1
  have hpu2:=hss.2
  have hedl:R.2.eds.length≤100000:=by omega
  have hhf2:=hhs.1
  have her:=hhs.2
  refine wp_region_Y [0,0,2,0,15,31,63,63,63,127,767,2047] [[],[],[],[],[1,0]] [[],[],[],[],[2,3]] [[],[],[],[],[1]] [.k 38 (vp B30_13), .k 39 (vp B26_8), .c 40 (.iface 24 (vp B26_8)), .k 41 (vi nx), .a 42, .a 37, .a 43, .c 44 (.bool R.2.used), .c 45 (vi R.2.err), .a 13, .k 14 (.bool R.2.used), .k 15 (vi R.2.err)] (fun ix σ β X=>match ix with | 0=>True | 1=>True | 2=>True | 3=>True | 4=>σ 42= .tuple #[.slice (sA (tg (β 42) 0)) R.2.eds.length (sC (tg (β 42) 0)), .bool R.2.used,vi R.2.err]∧X 2=ePk B30_13 R.1 ((X 2).fp)∧X 3=eO 99 3 (.slice (sA (tg (β 42) 0)) R.2.eds.length (sC (tg (β 42) 0))) R.2.eds.length (R.2.eds.flatMap edC) | 5=>σ 37= .tuple #[.slice (sA (tg (β 42) 0)) R.2.eds.length (sC (tg (β 42) 0)), .bool R.2.used,vi R.2.err] | 6=>σ 43= .slice (sA (tg (β 42) 0)) R.2.eds.length (sC (tg (β 42) 0)) | 7=>True | 8=>True | 9=>σ 13= .slice (sA (tg (β 42) 0)) R.2.eds.length (sC (tg (β 42) 0)) | _=>True) [0,2,3] [2,4,5,6,7,8,9] [(13,9,3,16),(21,5,1,22),(0,0,5,5),(0,6,3,3)] hst20 ?_ ?_ ?_
  ·exact fun ix _ _ _ _ _ _ hs hb hx h=>match ix,h with
   | 4,h=>by dsimp only; rw [← hs 42 rfl,← hb 42 rfl,← hx 2 rfl,← hx 3 rfl]; exact h
   | 5,h=>by dsimp only; rw [← hs 37 rfl,← hb 42 rfl]; exact h
   | 6,h=>by dsimp only; rw [← hs 43 rfl,← hb 42 rfl]; exact h
   | 9,h=>by dsimp only; rw [← hs 13 rfl,← hb 42 rfl]; exact h
   | 0, _ | 1, _ | 2, _ | 3, _ | 7, _ | 8, _ | _+10, _=>trivial
  ·refine ⟨?_,?_,?_,?_,?_,?_,?_,trivial⟩
   ·exact sv0 rfl rfl rfl rfl rfl (fun _ _ _ h=>h) fun ρ β W X cx=>by
     have fF39:ρ (.tmp 39)=vp B26_8:=(cx.an 1)
     simp [go_sem,fF39]
   ·refine svA fun ρ β W X cx=>?_
    refine DoesU.call (run_callF (args:=#[vp B30_13, .iface 24 (vp B26_8),vi nx]) rfl cx.sees rfl (by kernel_rfl) (map3 (cx.an 0) (cx.an 2) (cx.an 3))) ?_
    refine (kt_to hR (kstep_a (CtxV.holdF cx (cx.init 1 _ rfl) rfl) (CtxV.bkU cx (cx.init 0 _ rfl) (cx.init 1 _ rfl) rfl rfl (by decide)) hok hc8.okc (by omega) hte (by omega))).mono ?_
    rintro e W1 ⟨A4,c4,rfl,fp4,hs4⟩
    refine ⟨_,rfl,post_obj (E:=ePk B30_13 p fk) [ePk B30_13 R.1 fp4,eO 99 3 (.slice A4 R.2.eds.length c4) R.2.eds.length (R.2.eds.flatMap edC)] (cx.init 1 _ rfl) rfl rfl hs4 (fun σ β' X' hs hb hv hN=>?_)⟩
    have hv1:=(hv 42 rfl).1; have hv2:=(hv 42 rfl).2
    exact ⟨hv1.trans (by rw [hv2]; rfl),ePk_self ((List.cons.inj hN).1),(by rw [hv2]; exact (List.cons.inj (List.cons.inj hN).2).1)⟩
   ·exact sv rfl rfl rfl rfl rfl _ (fun _ _ _ h=>h) (fun β β' h=>by rw [h 42 (by decide)]) fun ρ β W X cx=>run_move' rfl (dTn (cx.an 4)).1
   ·exact sv rfl rfl rfl rfl rfl _ (fun _ _ _ h=>h) (fun β β' h=>by rw [h 42 (by decide)]) fun ρ β W X cx=>run_extract' rfl (dTn (cx.an 5)) rfl
   ·exact xs4 rfl id fun cx=>run_extract' rfl (dTn (cx.an 5)) rfl
   ·exact xs4 rfl id fun cx=>run_extract' rfl (dTn (cx.an 5)) rfl
   ·exact sv rfl rfl rfl rfl rfl _ (fun _ _ _ h=>h) (fun β β' h=>by rw [h 42 (by decide)]) fun ρ β W X cx=>run_assign' rfl (dTn (cx.an 6))
  intro σ β X W23 hD hst23 fr hfr
  obtain ⟨A42_23,hu_A42_23⟩:∃ z,sA (tg (β 42) 0)=z:=⟨_,rfl⟩
  obtain ⟨c42_23,hu_c42_23⟩:∃ z,sC (tg (β 42) 0)=z:=⟨_,rfl⟩
  have xX2:X 2= _:=(dTn (hD 4 lq)).2.1
  obtain ⟨r2_23,hu_r2_23⟩:∃ z,(X 2).fp=z:=⟨_,rfl⟩
  rw [hu_r2_23] at xX2
  clear hu_r2_23
  simp only [xX2,exq 3 ((dTn (hD 4 lq)).2.2),hu_A42_23,hu_c42_23] at hst23
  simp only [ed 42 ((dTn (hD 4 lq)).1),ed 37 ((dTn (hD 5 lq))),ed 43 ((dTn (hD 6 lq))),ed 13 ((dTn (hD 9 lq))),hu_A42_23,hu_c42_23] at hfr
  clear hD xX2 hu_A42_23 hu_c42_23; subst hfr; clear σ β X
  refine then_normal (wp_seq (wp_seq (sqr (sqp [.m 46 15, .k 47 (.bool (R.2.err != 0))] ?_))))
  refine then_normal (wbs (fun hs26=>?_) fun hs26=>?_)
  ·have hs26p:=bne_iff_ne.1 hs26
   refine wp_seq (sqr (sqp [.k 6 (.bool false)] ?_))
   refine then_normal (wp_ret (then_ret (blk_ret (then_ret (then_ret (blk_ret (then_ret ?_)))))))
   refine bpr (.bool false) (results_1 Try.results7 rpt) ?_
   exfalso; have h_:=hs26; rw [her] at h_; simp at h_
  have hs26p:=bne_eq_false_iff_eq.1 hs26
  refine wp_skip (then_normal (wp_seq (wp_seq (sqr (sqp [.m 48 14] ?_)))))
  refine then_normal (wbs (fun hs29=>?_) fun hs29=>?_)
  ·refine sqr (sqp [.m 49 11,sI 50 (nx+1) (by omega), .m 11 50] ?_)
   refine then_normal (sqr (sqp [.m 51 9, .m 52 13] ?_))
   refine sqc0s (fun X_=>X_.fp) (.tuple #[]) (fun r3_35=>eBk B26_8 (doB ps R.2.eds) r3_35) 0 hst23 (by
     refine svA fun ρ β W X cx=>?_
     refine DoesU.call (run_callF (args:=#[vp B26_8, .slice A42_23 R.2.eds.length c42_23]) rfl cx.sees rfl (by kernel_rfl) (map2 (cx.ou 51) (cx.ou 52))) ?_
     refine (rdo_any B26_8 ps _ 60 _ _ R.2.eds _ (CtxV.holdF cx (cx.init 0 _ rfl) rfl) (CtxV.ltF cx (cx.init 0 _ rfl) rfl) (CtxV.keepAt cx (cx.init 2 _ rfl) (cx.init 0 _ rfl) rfl rfl (by decide)) hedl hp60 (by decide) hpb.its).mono ?_
     rintro e W1 ⟨rfl,fp4,hs4⟩
     refine ⟨_,rfl,post_obj (E:=eBk B26_8 ps fb) [eBk B26_8 (doB ps R.2.eds) fp4] (cx.init 0 _ rfl) rfl rfl hs4 (fun σ β' X' hs hb hv hN=>?_)⟩
     have hv1:=(hv 53 rfl).1; have hv2:=(hv 53 rfl).2
     exact ⟨hv1.trans rfl,eBk_self ((List.cons.inj hN).1)⟩) fun r3_35 W35 hst35=>?_
   refine blk_normal (then_normal (sqr (sqp [.m 35 12,sI 36 ((i:Int)+1) (by omega), .m 12 36] ?_)))
   refine then_normal ?_
   refine ⟨14 - ((i+1)),by omega,?_⟩
   exact ⟨(i+1),(doB ps R.2.eds),(nx+1),R.1,r3_35,r2_23,by omega,(hpb.mono (by omega)).do hedm,by rw [doB_len]; exact hp60,hc82,by omega,hpu2,hrt2,by rw [hs29] at hhf2; exact hhf2,rfl,(by kernel_rfl),hst35.pk [0,1]⟩
  refine wp_skip (then_normal (sqr (sqp [.m 51 9, .m 52 13] ?_)))
  refine sqc0s (fun X_=>X_.fp) (.tuple #[]) (fun r3_41=>eBk B26_8 (doB ps R.2.eds) r3_41) 0 hst23 (by
    refine svA fun ρ β W X cx=>?_
    refine DoesU.call (run_callF (args:=#[vp B26_8, .slice A42_23 R.2.eds.length c42_23]) rfl cx.sees rfl (by kernel_rfl) (map2 (cx.ou 51) (cx.ou 52))) ?_
    refine (rdo_any B26_8 ps _ 60 _ _ R.2.eds _ (CtxV.holdF cx (cx.init 0 _ rfl) rfl) (CtxV.ltF cx (cx.init 0 _ rfl) rfl) (CtxV.keepAt cx (cx.init 2 _ rfl) (cx.init 0 _ rfl) rfl rfl (by decide)) hedl hp60 (by decide) hpb.its).mono ?_
    rintro e W1 ⟨rfl,fp4,hs4⟩
    refine ⟨_,rfl,post_obj (E:=eBk B26_8 ps fb) [eBk B26_8 (doB ps R.2.eds) fp4] (cx.init 0 _ rfl) rfl rfl hs4 (fun σ β' X' hs hb hv hN=>?_)⟩
    have hv1:=(hv 53 rfl).1; have hv2:=(hv 53 rfl).2
    exact ⟨hv1.trans rfl,eBk_self ((List.cons.inj hN).1)⟩) fun r3_41 W41 hst41=>?_
  refine blk_normal (then_normal (sqr (sqp [.m 35 12,sI 36 ((i:Int)+1) (by omega), .m 12 36] ?_)))
  refine then_normal ?_
  refine ⟨14 - ((i+1)),by omega,?_⟩
  exact ⟨(i+1),(doB ps R.2.eds),nx,R.1,r3_41,r2_23,by omega,(hpb.mono (by omega)).do hedm,by rw [doB_len]; exact hp60,hc82,by omega,hpu2,hrt2,by rw [hs29] at hhf2; exact hhf2,rfl,(by kernel_rfl),hst41.pk [0,1]⟩
 refine wp_exit (then_exit (then_exit (blk_eq (then_normal (wp_seq ?_)))))
 have hok:=hpb.ok (by omega) (by omega)
 have hoc:=hc8.okc
 have hck:=half_check hhf
 have hal:=half_len hhf
 have hnk:ps.length≤1000:=by omega
 refine sqr (sqp [.k 16 (vi 0)] ?_)
 refine then_normal ?_
 refine wp_cutT (fun t_ az W=>∃ pt:Int,pt=((if 0≤p.leaf then 1 else 0:Nat):Int)∧(0≤pt∧pt≤1)∧az=⟨(ovr (jv az) [(16,16,0,[vi pt]),(37,54,3,[])] t_).toArray,[]⟩∧St w [] [eBk B26_8 ps fb,ePk B30_13 p fk] W) ?_ ?_
 ·refine wp_seq (sqr (sqp [.m 54 10] ?_))
  refine sqk (vi p.leaf) hst20 (fun cx=>⟨_,kleaf_pk (CtxV.holdF cx (cx.init 1 _ rfl) rfl),(map1 (cx.ou 54))⟩) fun W48 hst48=>?_
  refine sqp [.k 56 (.bool (decide (0≤p.leaf)))] ?_
  refine then_normal (wds (fun hs50 hs50p=>?_) fun hs50 hs50p=>?_)
  ·refine sqr (sqp [.k 16 (vi 1)] ?_)
   refine then_normal ?_
   exact ⟨1,by rw [if_pos (by have h_:=hs50; exact of_decide_eq_true h_)]; rfl,by omega,(by kernel_rfl),hst48.pk [0,1]⟩
  refine wp_skip (then_normal ?_)
  exact ⟨0,by rw [if_neg (by have h_:=hs50; exact of_decide_eq_false h_)]; rfl,by omega,(by kernel_rfl),hst48.pk [0,1]⟩
 rintro a46 W46 ⟨pt,hpt,hpt2,hj_,hst46⟩
 refine ovz hj_ fun u46_=>?_
 refine wp_seq (wp_seq (sqr (sqp [.k 17 (vi 0)] ?_)))
 refine then_normal (wp_block ?_)
 refine wp_loopT (fun t_ mz az W=>∃ j:Nat,j≤few.length∧mz=few.length - j∧az=⟨(ovr (jv az) [(6,6,1,[]),(10,17,0,[vi ((j:Int))]),(0,18,2,[]),(37,57,21,[])] t_).toArray,[]⟩∧St w [] [eBk B26_8 ps fb] W) (few.length - 0) ?_ ?_
 · -- the loop begins
   exact ⟨0,Nat.zero_le _,rfl,(by kernel_rfl),hst46.pk [0]⟩
 rintro n53 a53 W53 ⟨j,hj,rfl,hj_,hst53⟩
 refine ovz hj_ fun u53_=>?_
 refine wp_seq (wp_seq (sqr (sqp [.m 57 17, .m 58 8, .k 59 (vi ((mf:Int))), .k 60 (.bool (decide ((j:Int) < (mf:Int))))] ?_)))
 refine then_normal (wds (fun hs58 hs58p=>?_) fun hs58 hs58p=>?_)
 ·refine wp_skip (then_normal (wp_seq (wp_block (wp_seq ?_))))
  have hrm:(rmF ps 0 (entF (keyF (few.getD j 0)) (1+(j:Int) / 8) (1+(j:Int) % 8))).2=true:=half_rm hhf (by omega)
  have hgj:few.getD j 0=(l.take mf).getD j 0:=by rw [hfew]
  rw [hgj] at hrm
  have htl_:(l.take mf).length=mf:=by rw [List.length_take]; omega
  refine sqr (sqp [.m 64 9] ?_)
  refine sqv (.iface 24 (vp B26_8)) hst53 (by
    exact sv0 rfl rfl rfl rfl rfl (fun _ _ _ h=>h) fun ρ β W X cx=>by
     have fF64:ρ (.tmp 64)=vp B26_8:=(cx.ou 64)
     simp [go_sem,fF64]) fun W60 hst60=>?_
  refine sqp [.m 66 8, .m 67 17] ?_
  refine sql (.pointer (some ((ad A).add j))) hst60 (fun cx=>run_indexSl (e:=3) (m:=j) rfl (by kernel_rfl) (by kernel_rfl) (cx.ou 66) (cx.ou 67) (by omega) (by omega) (At.take_mapI (hA.ext cx.upd.to_ext) mf) (by rw [List.length_map]; omega)) ?_
  refine sql (vi (((l.take mf)).getD j 0)) hst60 (fun cx=>run_load1 rfl (by kernel_rfl) (cx.ou 68) (At.cellAd (At.take_mapI (hA.ext cx.upd.to_ext) mf) (getD_int (by omega)))) ?_
  refine sqk (.string (keyF (((l.take mf)).getD j 0))) hst60 (fun cx=>⟨_,rkey_any (((l.take mf)).getD j 0) _,(map1 (cx.ou 69))⟩) fun W65 hst65=>?_
  refine sqp [.m 71 17] ?_
  refine sqk (.agg #[vi (1+(j:Int) / 8),vi (1+(j:Int) % 8)]) hst65 (fun cx=>⟨_,lref_any j _ (by omega),(map1 (cx.ou 71))⟩) fun W67 hst67=>?_
  refine sqk2 (fun A73_68 c73_68=> .tuple #[.slice A73_68 ((rmF ps 0 (entF (keyF (((l.take mf)).getD j 0)) (1+(j:Int) / 8) (1+(j:Int) % 8))).1.length) c73_68, .bool ((rmF ps 0 (entF (keyF (((l.take mf)).getD j 0)) (1+(j:Int) / 8) (1+(j:Int) % 8))).2)]) (fun A73_68 c73_68=>eO 99 3 (.slice A73_68 ((rmF ps 0 (entF (keyF (((l.take mf)).getD j 0)) (1+(j:Int) / 8) (1+(j:Int) % 8))).1.length) c73_68) ((rmF ps 0 (entF (keyF (((l.take mf)).getD j 0)) (1+(j:Int) / 8) (1+(j:Int) % 8))).1.length) ((rmF ps 0 (entF (keyF (((l.take mf)).getD j 0)) (1+(j:Int) / 8) (1+(j:Int) % 8))).1.flatMap edC)) hst67 (fun cx=>⟨_,(kremove_any _ _ 0 (keyF (((l.take mf)).getD j 0)) (1+(j:Int) / 8) (1+(j:Int) % 8) ps _ (book_ok (eBk_at (CtxV.holdF cx (cx.init 0 _ rfl) rfl)) hnk) hok hoc (Nat.le_trans (keyF_size _) (by decide))).mono (by rintro e W1 ⟨A4,c4,rfl,hs4⟩; exact ⟨_, _,rfl,hs4⟩),(map4 (cx.ou 65) (cx.co _) (cx.ou 70) (cx.ou 72))⟩) fun A73_68 c73_68 W68 hst68=>?_
  refine sqp [.m 63 73, .k 74 (.slice A73_68 ((rmF ps 0 (entF (keyF (((l.take mf)).getD j 0)) (1+(j:Int) / 8) (1+(j:Int) % 8))).1.length) c73_68), .k 75 (.bool ((rmF ps 0 (entF (keyF (((l.take mf)).getD j 0)) (1+(j:Int) / 8) (1+(j:Int) % 8))).2)), .m 18 74, .m 19 75] ?_
  refine then_normal (wp_seq (sqr (sqp [.m 76 19, .k 77 (.bool (!((rmF ps 0 (entF (keyF (((l.take mf)).getD j 0)) (1+(j:Int) / 8) (1+(j:Int) % 8))).2)))] ?_)))
  refine then_normal ?_
  rcases Bool.eq_false_or_eq_true ((rmF ps 0 (entF (keyF (((l.take mf)).getD j 0)) (1+(j:Int) / 8) (1+(j:Int) % 8))).2) with hs76 | hs76
  ·refine wp_cond_false (show Act.eval _ _= .bool false from (congrArg Value.bool (by rw [hs76]; rfl))) (wp_skip (blk_normal (then_normal (sqr (sqp [.m 61 17,sI 62 ((j:Int)+1) (by omega), .m 17 62] ?_)))))
   refine then_normal ?_
   refine ⟨few.length - ((j+1)),by omega,?_⟩
   exact ⟨(j+1),by omega,rfl,(by kernel_rfl),hst68.pk [0]⟩
  refine wp_cond_true (show Act.eval _ _= .bool true from (congrArg Value.bool (by rw [hs76]; rfl))) (wp_seq (sqr (sqp [.k 6 (.bool false)] ?_)))
  refine then_normal (wp_ret (blk_ret (then_ret (then_ret (blk_ret (then_ret ?_))))))
  refine bpr (.bool false) (results_1 Try.results7 rpt) ?_
  exfalso; have h_:=hs76; rw [hrm] at h_; cases h_
 refine wp_exit (then_exit (then_exit (blk_eq (then_normal (wp_seq (wp_region_Y [0,1,3,7,15,15,31,127] [[],[],[0]] [[],[],[1,2]] [] [.k 79 (vp B26_8), .c 80 (.iface 24 (vp B26_8)), .a 81, .a 78, .a 82, .a 83, .a 20, .a 21] (fun ix σ β X=>match ix with | 0=>True | 1=>True | 2=>σ 81= .tuple #[.slice (sA (tg (β 81) 0)) ((allF ps 0).length) (sC (tg (β 81) 0)), .slice (sA (tg (β 81) 1)) ((allF ps 0).length) (sC (tg (β 81) 1))]∧X 1=eO 9 1 (.slice (sA (tg (β 81) 0)) ((allF ps 0).length) (sC (tg (β 81) 0))) ((allF ps 0).length) ((allF ps 0).map tqS)∧X 2=eO 31 2 (.slice (sA (tg (β 81) 1)) ((allF ps 0).length) (sC (tg (β 81) 1))) ((allF ps 0).length) ((allF ps 0).flatMap tqR) | 3=>σ 78= .tuple #[.slice (sA (tg (β 81) 0)) ((allF ps 0).length) (sC (tg (β 81) 0)), .slice (sA (tg (β 81) 1)) ((allF ps 0).length) (sC (tg (β 81) 1))] | 4=>σ 82= .slice (sA (tg (β 81) 0)) ((allF ps 0).length) (sC (tg (β 81) 0)) | 5=>σ 83= .slice (sA (tg (β 81) 1)) ((allF ps 0).length) (sC (tg (β 81) 1)) | 6=>σ 20= .slice (sA (tg (β 81) 0)) ((allF ps 0).length) (sC (tg (β 81) 0)) | 7=>σ 21= .slice (sA (tg (β 81) 1)) ((allF ps 0).length) (sC (tg (β 81) 1)) | _=>True) [0,1,2] [1,2,3,4,5,6,7] [(20,6,2,22),(56,3,1,57),(0,0,3,3),(0,4,2,2)] hst53 ?_ ?_ ?_))))))
 ·exact fun ix _ _ _ _ _ _ hs hb hx h=>match ix,h with
  | 2,h=>by dsimp only; rw [← hs 81 rfl,← hb 81 rfl,← hx 1 rfl,← hx 2 rfl]; exact h
  | 3,h=>by dsimp only; rw [← hs 78 rfl,← hb 81 rfl]; exact h
  | 4,h=>by dsimp only; rw [← hs 82 rfl,← hb 81 rfl]; exact h
  | 5,h=>by dsimp only; rw [← hs 83 rfl,← hb 81 rfl]; exact h
  | 6,h=>by dsimp only; rw [← hs 20 rfl,← hb 81 rfl]; exact h
  | 7,h=>by dsimp only; rw [← hs 21 rfl,← hb 81 rfl]; exact h
  | 0, _ | 1, _ | _+8, _=>trivial
 ·refine ⟨?_,?_,?_,?_,?_,?_,?_,trivial⟩
  ·exact sv0 rfl rfl rfl rfl rfl (fun _ _ _ h=>h) fun ρ β W X cx=>by
    have fF79:ρ (.tmp 79)=vp B26_8:=(cx.an 0)
    simp [go_sem,fF79]
  ·refine svA fun ρ β W X cx=>?_
   refine DoesU.call (run_callF (args:=#[.iface 24 (vp B26_8),vi 0]) rfl cx.sees rfl (by kernel_rfl) (map2 (cx.an 1) (cx.co _))) ?_
   refine (kall_g _ _ 0 ps _ (book_ok (eBk_at (CtxV.holdF cx (cx.init 0 _ rfl) rfl)) hnk) hok hoc).mono ?_
   rintro e W1 ⟨KA4,kc4,RA4,rc4,rfl,hs4⟩
   refine ⟨_,rfl,post_st [eO 9 1 (.slice KA4 ((allF ps 0).length) kc4) ((allF ps 0).length) ((allF ps 0).map tqS),eO 31 2 (.slice RA4 ((allF ps 0).length) rc4) ((allF ps 0).length) ((allF ps 0).flatMap tqR)] rfl rfl hs4 (fun σ β' X' hs hb hv hN=>?_)⟩
   have hv1:=(hv 81 rfl).1; have hv2:=(hv 81 rfl).2
   exact ⟨hv1.trans (by rw [hv2]; rfl),(by rw [hv2]; exact (List.cons.inj hN).1),(by rw [hv2]; exact (List.cons.inj (List.cons.inj hN).2).1)⟩
  ·exact sv rfl rfl rfl rfl rfl _ (fun _ _ _ h=>h) (fun β β' h=>by rw [h 81 (by decide)]) fun ρ β W X cx=>run_move' rfl (dTn (cx.an 2)).1
  ·exact sv rfl rfl rfl rfl rfl _ (fun _ _ _ h=>h) (fun β β' h=>by rw [h 81 (by decide)]) fun ρ β W X cx=>run_extract' rfl (dTn (cx.an 3)) rfl
  ·exact sv rfl rfl rfl rfl rfl _ (fun _ _ _ h=>h) (fun β β' h=>by rw [h 81 (by decide)]) fun ρ β W X cx=>run_extract' rfl (dTn (cx.an 3)) rfl
  ·exact sv rfl rfl rfl rfl rfl _ (fun _ _ _ h=>h) (fun β β' h=>by rw [h 81 (by decide)]) fun ρ β W X cx=>run_assign' rfl (dTn (cx.an 4))
  ·exact sv rfl rfl rfl rfl rfl _ (fun _ _ _ h=>h) (fun β β' h=>by rw [h 81 (by decide)]) fun ρ β W X cx=>run_assign' rfl (dTn (cx.an 5))
 intro σ β X W81 hD hst81 fr hfr
 obtain ⟨KA81_81,hu_KA81_81⟩:∃ z,sA (tg (β 81) 0)=z:=⟨_,rfl⟩
 obtain ⟨cKA81_81,hu_cKA81_81⟩:∃ z,sC (tg (β 81) 0)=z:=⟨_,rfl⟩
 obtain ⟨RA81_81,hu_RA81_81⟩:∃ z,sA (tg (β 81) 1)=z:=⟨_,rfl⟩
 obtain ⟨cRA81_81,hu_cRA81_81⟩:∃ z,sC (tg (β 81) 1)=z:=⟨_,rfl⟩
 simp only [exq 1 ((dTn (hD 2 lq)).2.1),exq 2 ((dTn (hD 2 lq)).2.2),hu_KA81_81,hu_cKA81_81,hu_RA81_81,hu_cRA81_81] at hst81
 simp only [ed 81 ((dTn (hD 2 lq)).1),ed 78 ((dTn (hD 3 lq))),ed 82 ((dTn (hD 4 lq))),ed 83 ((dTn (hD 5 lq))),ed 20 ((dTn (hD 6 lq))),ed 21 ((dTn (hD 7 lq))),hu_KA81_81,hu_cKA81_81,hu_RA81_81,hu_cRA81_81] at hfr
 clear hD hu_KA81_81 hu_cKA81_81 hu_RA81_81 hu_cRA81_81; subst hfr; clear σ β X
 refine then_normal (wp_seq (sqr (sqp [.k 84 (.bool true), .k 85 (.bool true)] ?_)))
 refine sqgy 85 [86,87,88,89] rfl rfl ?_
 refine sqp [.m 86 9] ?_
 refine sqv (.iface 24 (vp B26_8)) hst81 (by
   exact sv0 rfl rfl rfl rfl rfl (fun _ _ _ h=>h) fun ρ β W X cx=>by
    have fF86:ρ (.tmp 86)=vp B26_8:=(cx.ou 86)
    simp [go_sem,fF86]) fun W85 hst85=>?_
 refine sqk (vi ((checkF ps 0))) hst85 (fun cx=>⟨_,kcheck_g _ _ 0 ps _ (book_ok (eBk_at (CtxV.holdF cx (cx.init 0 _ rfl) rfl)) hnk) hok hoc,(map2 (cx.ou 87) (cx.co _))⟩) fun W86 hst86=>?_
 refine sqp [.k 89 (.bool ((checkF ps 0)==0))] ?_
 refine sqp [.k 90 (.bool ((checkF ps 0)==0)), .m 91 90] ?_
 refine sqw' 91 [92,93,94,95,96,97,98] ?_ rfl (fun hq=>?_) ?_
 rotate_left
 ·have hq_:=hq
  try simp only [zB] at hq_
  refine sqp [.m 92 20, .k 93 (vi (((allF ps 0).length:Int))), .m 94 8, .k 95 (vi ((mf:Int))), .m 96 16,sI 97 ((mf:Int)+pt) (by omega), .k 98 (.bool (((allF ps 0).length:Int)==((mf:Int)+pt)))] ?_
  exact sqe
 refine sqwx ?_
 refine sqp [sPa 99 ((checkF ps 0)==0) (((allF ps 0).length:Int)==((mf:Int)+pt)), .m 6 99] ?_
 refine then_normal (wp_ret ?_)
 refine bpr (.bool (((checkF ps 0)==0)&&(((allF ps 0).length:Int)==((mf:Int)+pt)))) (results_1 Try.results7 rpt) ?_
 exact Ret.bool (by rw [hck,hal,hpt,hfl]; simp [Int.natCast_add]) hst86.ext
end
section
open Go.ChangeShapes Go.WideShapes Go.ChangeAt Go.RowKit Go.Deep Go.Joins
theorem ownKnob_none:ownKnob Try.prog.godebug=none:=by kernel_rfl
theorem laidOut:laidOutB Try.prog=true:=by kernel_rfl
section
variable {H:Type} {enc:TypeId×Value→H} {P:Program}
theorem trodAll_stays (hl:laidOutB P=true) {W W':World} {sp:Nat→Bool}:∀ {ts:List TypeId} {vs:List Value} {ds:List (DataW H)} {ps:List MemPlace},(∀ t∈ts,P.readableRec t=true∧t < P.types.size)→
  DataW.TrodAll enc P W 0 (fun _=>true) true ts vs ds ps→(∀ p∈ps,W.sameAt W' p)→(∀ p∈ps,sp p.block=true)→DataW.TrodAll enc P W' 0 sp true ts vs ds ps
 | [],[],[], _, _,h, _, _=>h
 | t:: _, _:: _, _:: _, _,hT,⟨p,q,h1,h2,e⟩,hsm,hs=>
   ⟨p,q,WideElems.Trod_stays hl (hT t (by simp)).1 (hT t (by simp)).2 h1 (fun x hx=>hsm x (by rw [e]; exact List.mem_append_left _ hx)) (fun x hx=>hs x (by rw [e]; exact List.mem_append_left _ hx)),
     trodAll_stays hl (fun t ht=>hT t (by simp [ht])) h2 (fun x hx=>hsm x (by rw [e]; exact List.mem_append_right _ hx)) (fun x hx=>hs x (by rw [e]; exact List.mem_append_right _ hx)),e⟩
/-- THE POST OF A LAW: true, and the input reads as it did, where the call wrote nothing that was there. -/
theorem law_post {f:Func} {s:ChangeSpec} {fresh handsOn again:Bool} {W W':World} {args:Array Value} {ds gs:List (DataW H)} {before:List MemPlace} {tb:TypeId}
  (hl:laidOutB P=true) (hT:∀ t∈f.params.toList,P.readableRec t=true∧t < P.types.size) (hr:f.resultTypes=#[tb]) (hb:P.underlying tb=some .bool)
  (hW:DataW.Whole enc P f.params.toList s.vars false W args.toList ds gs before) (hvs:s.vars=[])
  (hres:(s.fn H (ds++gs)).results=[.lit (.bool true)]) (hargs:(s.fn H (ds++gs)).args=ds) (hvars:(s.fn H (ds++gs)).vars=[]) (hx:Ext W W'):
  s.post enc P f false fresh handsOn again W args (.bool true) W':=by
 have hlt:∀ p∈before,p.block < W.heap.size:=fun p hp=>hW.lt p hp
 have hold:∀ p∈before,(fun b=>decide (b < W.heap.size)) p.block=true:=fun p hp=>by simpa using hlt p hp
 have hW0:=hW
 obtain ⟨p,q,hA,hV,rfl,hz,hn⟩:=hW
 rw [hvs] at hV
 obtain ⟨rfl,rfl⟩:=trodVars_none hV
 rw [List.append_nil] at hlt hold hz
 have HA:∀ sp:Nat→Bool,(∀ x∈p,sp x.block=true)→DataW.TrodAll enc P W' 0 sp true f.params.toList args.toList (s.fn H (ds++[])).args p:=fun sp hs=>by
  rw [hargs]
  exact trodAll_stays hl hT hA (fun x hx'=>hx.out.same (hlt x hx')) hs
 have HR:∀ (b:Nat) (sp:Nat→Bool) (hd:Bool),DataW.TrodAll enc P W' b sp hd f.resultTypes.toList ((Value.bool true).resultList f.resultTypes.size) (s.fn H (ds++[])).results []:=fun b sp hd=>by
  rw [hres,hr]
  exact trodAll_cons_mk (shut_bool hb _) trodAll_mk0
 have HV:∀ sp:Nat→Bool,DataW.TrodVars enc P W' sp s.vars (s.fn H (ds++[])).vars []:=fun sp=>by
  rw [hvs,hvars]
  rfl
 refine ⟨ds,[],p++[],[],p,[],hW0,HR _ _ _,HA _ hold,HV _,World.keptBut_mono (fun x hx'=>⟨hx',?_⟩) (hx.out.frame (·∈p++[])),fun _=>?_⟩
 ·rw [List.append_nil] at hx'
  exact Or.inr (Or.inl hx')
 ·refine ⟨?_, _, _,([]++p)++[],⟨[]++p,[],trodAll_append (HA _ (fun _ _=>rfl)) (HR _ _ _),HV _,rfl,?_,fun ha=>by cases ha⟩,?_⟩
  ·exact ok_one hr rfl (okWide_bool_mk hb _)
  ·intro b off hp
   have hin:MemPlace.cell b off∈p:=by simpa using hp
   rw [hx.out.frozen (hlt _ hin)]
   exact hz b off hin
  ·intro x hx' _
   simpa using hx'
end
end
section
open Go.ChangeShapes Go.WideShapes Go.ChangeAt Go.RowKit Go.Deep Go.Joins
/-- the shape of a type; 'sl e by': a slice, an element takes 'by' bytes; 'st': a struct or an array -/
inductive Sh where
 | int (k:IntKind)
 | bool
 | str
 | sl (e:Sh) (bs:Nat)
 | st (fs:List Sh)
mutual
def Sh.n:Sh→Nat
 | .st fs=>Sh.ns fs
 | .int _=>1
 | .bool=>1
 | .str=>1
 | .sl _ _=>1
def Sh.ns:List Sh→Nat
 | []=>0
 | f::fs=>f.n+Sh.ns fs
end
mutual
def Shows (w:World):Sh→List Value→Prop
 | .int k,cs=>∃ z,cs=[.int k z]∧(Lit.int k z).wf=true
 | .bool,cs=>∃ b,cs=[.bool b]
 | .str,cs=>∃ s:ByteArray,cs=[.string s]∧s.size≤140737488351232
 | .sl e bs,cs=>∃ (A:Option Addr) (n c:Nat) (xs:List Value),cs=[.slice A n c]∧At w A xs∧xs.length=n*e.n∧n≤c∧c*bs≤140737488351232∧∀ i,i < n→Shows w e ((xs.drop (i*e.n)).take e.n)
 | .st fs,cs=>ShowsL w fs cs
def ShowsL (w:World):List Sh→List Value→Prop
 | [],cs=>cs=[]
 | f::fs,cs=>∃ a b,cs=a++b∧Shows w f a∧ShowsL w fs b
end
mutual
def Sh.fits (P:Program):Sh→TypeId→Bool
 | .int k,t=>match P.underlying t with | some (.int k')=>decide (k'=k) | _=>false
 | .bool,t=>match P.underlying t with | some .bool=>true | _=>false
 | .str,t=>match P.underlying t with | some .string=>true | _=>false
 | .sl e bs,t=>match P.underlying t with | some (.slice u)=>e.fits P u&&decide (P.cellsOf u=e.n)&&decide (P.bytesOf u=bs)&&decide (0 < e.n) | _=>false
 | .st fs,t=>match P.underlying t with
   | some (.struct gs)=>decide (P.cellsOf t=Sh.ns fs)&&Sh.fitsF P fs gs.toList 0
   | some (.array n u)=>decide (P.cellsOf t=Sh.ns fs)&&decide (fs.length=n)&&Sh.fitsA P fs u
   | _=>false
def Sh.fitsF (P:Program):List Sh→List Field→Nat→Bool
 | [],[], _=>true
 | f::fs,g::gs,off=>decide (g.offset=off)&&decide (P.cellsOf g.type=f.n)&&f.fits P g.type&&Sh.fitsF P fs gs (off+f.n)
 | _, _, _=>false
def Sh.fitsA (P:Program):List Sh→TypeId→Bool
 | [], _=>true
 | f::fs,u=>decide (P.cellsOf u=f.n)&&f.fits P u&&Sh.fitsA P fs u
end
theorem mapM_at {α β:Type} {f:α→Option β}:∀ {l:List α} {ys:List β},l.mapM f=some ys→ys.length=l.length∧∀ (i:Nat) (a:α),l[i]? =some a→f a=ys[i]?
 | [],ys,h=>by simp at h; subst h; simp
 | a::l,ys,h=>by
   simp only [List.mapM_cons,Option.bind_eq_bind,Option.pure_def,Option.bind_eq_some_iff] at h
   obtain ⟨b,hb,bs,hbs,he⟩:=h
   obtain rfl:b::bs=ys:=by simpa using he
   obtain ⟨h1,h2⟩:=mapM_at hbs
   refine ⟨by simp [h1],fun i x hx=>?_⟩
   cases i with
   | zero=>simp at hx; subst hx; simpa using hb
   | succ i=>simpa using h2 i x (by simpa using hx)
section
variable {H:Type} {enc:TypeId×Value→H} {P:Program}
theorem weightsAll_at {e:TypeId}:∀ {ds:List (DataW H)} (i:Nat) (d:DataW H),ds[i]? =some d→∀ x∈d.weights P e,x∈DataW.weightsAll P e ds
 | [],i,d,h,x,hx=>by simp at h
 | d0::ds,0,d,h,x,hx=>by
   simp at h; subst h
   simp only [DataW.weightsAll,List.mem_append]; exact .inl hx
 | d0::ds,i+1,d,h,x,hx=>by
   simp only [DataW.weightsAll,List.mem_append]
   exact .inr (weightsAll_at i d (by simpa using h) x hx)
/-- the cells of a slice's elements -/
theorem cells_row {w:World} {a:Addr} {m len:Nat} (hm:0 < m) (h:∀ i,i < len→∃ csi,w.cells? 0 (a.add (i*m)) m=some csi):
  ∃ xs:List Value,xs.length=len*m∧At w (some a) xs∧∀ i,i < len→∀ csi,w.cells? 0 (a.add (i*m)) m=some csi→(xs.drop (i*m)).take m=csi:=by
 have key:∀ i,i < len→∀ csi,w.cells? 0 (a.add (i*m)) m=some csi→csi.length=m∧∀ r,r < m→w.cell? (a.add (i*m+r))=csi[r]? :=by
  intro i hi csi hc
  unfold World.cells? at hc
  rw [if_pos (Nat.zero_le _)] at hc
  obtain ⟨h1,h2⟩:=mapM_at hc
  refine ⟨by simpa using h1,fun r hr=>?_⟩
  have:=h2 r r (by simp [hr])
  rw [add_add'] at this
  exact this
 have each:∀ j,j < len*m→∃ u,w.cell? (a.add j)=some u:=by
  intro j hj
  have hi:j / m < len:=by rw [Nat.div_lt_iff_lt_mul hm]; exact hj
  obtain ⟨csi,hc⟩:=h _ hi
  obtain ⟨h1,h2⟩:=key _ hi _ hc
  have hr:=Nat.mod_lt j hm
  have:=h2 _ hr
  rw [show j / m*m+j % m=j by rw [Nat.mul_comm]; exact Nat.div_add_mod j m] at this
  rw [List.getElem?_eq_getElem (by omega)] at this
  exact ⟨_,this⟩
 refine ⟨(List.range (len*m)).map fun j=>(w.cell? (a.add j)).getD undef,by simp,fun j u hu=>?_,fun i hi csi hc=>?_⟩
 ·rw [List.getElem?_map] at hu
  rcases Nat.lt_or_ge j (len*m) with hj | hj
  ·obtain ⟨v,hv⟩:=each j hj
   rw [List.getElem?_range hj] at hu
   simp only [Option.map_some,hv,Option.getD_some,Option.some.injEq] at hu
   subst hu
   have:=World.block_lt_of_cell? _ _ hv
   rw [add_block] at this
   exact ⟨a,rfl,this,hv⟩
  ·rw [List.getElem?_eq_none (by simpa using hj)] at hu; cases hu
 ·obtain ⟨h1,h2⟩:=key i hi csi hc
  have hb:i*m+m≤len*m:=by
   have:(i+1)*m≤len*m:=Nat.mul_le_mul_right m hi
   rw [Nat.add_mul,Nat.one_mul] at this
   exact this
  apply List.ext_getElem?
  intro r
  rw [List.getElem?_take]
  by_cases hr:r < m
  ·rw [if_pos hr,List.getElem?_drop,List.getElem?_map,List.getElem?_range (by omega),Option.map_some,h2 r hr,List.getElem?_eq_getElem (by omega)]
   rfl
  ·rw [if_neg hr,List.getElem?_eq_none (by omega)]
mutual
theorem sees_of {w:World}:∀ (s:Sh) (t:TypeId) (fuel:Nat) (cs:List Value) (x:DataW H×List MemPlace),s.fits P t=true→DataW.trod enc P w 0 (fun _=>true) true fuel t cs=some x→
  (∀ n∈x.1.weights P t,n≤reachBytes)→Shows w s cs
 | .int k,t,fuel,cs,x,hf,h,hw=>by
   simp only [Sh.fits] at hf
   split at hf
   ·rename_i k' hu
    obtain rfl:=of_decide_eq_true hf
    obtain ⟨z,hc, _,hz⟩:=DataW.trod_int hu h
    exact ⟨z,hc,hz⟩
   ·cases hf
 | .bool,t,fuel,cs,x,hf,h,hw=>by
   simp only [Sh.fits] at hf
   split at hf
   ·rename_i hu
    obtain ⟨b,hc, _⟩:=DataW.trod_bool hu h
    exact ⟨b,hc⟩
   ·cases hf
 | .str,t,fuel,cs,x,hf,h,hw=>by
   simp only [Sh.fits] at hf
   split at hf
   ·rename_i hu
    obtain ⟨s,hc,rfl, _⟩:=DataW.trod_string hu h
    refine ⟨s,hc,?_⟩
    have:=hw s.data.toList.length (by simp [DataW.weights])
    exact this
   ·cases hf
 | .sl e bs,t,fuel,cs,x,hf,h,hw=>by
   simp only [Sh.fits] at hf
   split at hf
   ·rename_i u hu
    simp only [Bool.and_eq_true,decide_eq_true_eq] at hf
    obtain ⟨⟨⟨he,hm⟩,hb⟩,hp⟩:=hf
    rcases DataW.trod_slice hu h with ⟨rfl,rfl⟩ | ⟨a,len,cap,elems,rest,n, _,rfl,rfl, _,hl, _,hlen,hel,hsp, _⟩
    ·exact ⟨none,0,0,[],rfl,At.nil _ _,by simp,by simp,by simp,fun i hi=>by omega⟩
    ·obtain ⟨hrl, _⟩:=hsp rfl
     rw [hm] at hel
     have hsz:=hw ((elems.length+rest.length)*P.bytesOf u) (by simp [DataW.weights,hu])
     rw [hlen,hrl,hb] at hsz
     have hR:reachBytes=140737488351232:=rfl
     rw [hR] at hsz
     have hex:∀ i,i < len→∃ csi y,w.cells? 0 (a.add (i*e.n)) e.n=some csi∧elems[i]? =some y∧DataW.trod enc P w 0 (fun _=>true) true n u csi=some y:=by
      intro i hi
      have h1:=hel i hi
      rw [List.getElem?_eq_getElem (by omega),Option.bind_eq_some_iff] at h1
      obtain ⟨csi,hc,hy⟩:=h1
      exact ⟨csi, _,hc,List.getElem?_eq_getElem (by omega),hy⟩
     obtain ⟨xs,hxl,hxa,hxe⟩:=cells_row (w:=w) (a:=a) (len:=len) hp (fun i hi=>let ⟨csi, _,hc, _⟩:=hex i hi; ⟨csi,hc⟩)
     refine ⟨some a,len,cap,xs,rfl,hxa,hxl,hl,?_,fun i hi=>?_⟩
     ·rw [show len+(cap - len)=cap by omega] at hsz
      exact hsz
     ·obtain ⟨csi,y,hc,hy,ht⟩:=hex i hi
      rw [hxe i hi csi hc]
      refine sees_of e u n csi y he ht fun z hz=>hw z ?_
      simp only [DataW.weights,hu,List.mem_cons,List.mem_append]
      refine .inr (.inl ?_)
      exact weightsAll_at i y.1 (by rw [List.getElem?_map,hy]; rfl) z hz
   ·cases hf
 | .st fs,t,fuel,cs,x,hf,h,hw=>by
   simp only [Sh.fits] at hf
   split at hf
   ·rename_i gs hu
    simp only [Bool.and_eq_true,decide_eq_true_eq] at hf
    obtain ⟨hc,hF⟩:=hf
    obtain ⟨xs,n, _,rfl,hcl,hxl,hat⟩:=DataW.trod_struct hu h
    have:=seesF_of fs gs.toList 0 cs xs n hF (fun i g hg=>hat i g (by rw [← hg]; exact (Array.getElem?_toList ..).symm)) (by simpa using hxl) (by omega) (fun z hz=>hw z (by simp only [DataW.weights,hu]; exact hz))
    rw [List.drop_zero,List.take_of_length_le (by omega)] at this
    exact this
   ·rename_i n u hu
    simp only [Bool.and_eq_true,decide_eq_true_eq] at hf
    obtain ⟨⟨hc,hn⟩,hF⟩:=hf
    obtain ⟨xs,m, _,rfl,hcl,hxl,hat⟩:=DataW.trod_array hu h
    have:=seesA_of fs u 0 cs xs m hF (fun i hi=>by rw [Nat.zero_add]; exact hat i (by omega)) (by omega) (by rw [Nat.zero_mul,Nat.zero_add]; omega) (fun z hz=>hw z (by simp only [DataW.weights,hu]; exact hz))
    rw [Nat.zero_mul,List.drop_zero,List.take_of_length_le (by omega)] at this
    exact this
   ·cases hf
theorem seesF_of {w:World}:∀ (fs:List Sh) (gs:List Field) (off:Nat) (cs:List Value) (xs:List (DataW H×List MemPlace)) (m:Nat),Sh.fitsF P fs gs off=true→
  (∀ (i:Nat) (g:Field),gs[i]? =some g→DataW.trod enc P w 0 (fun _=>true) true m g.type ((cs.drop g.offset).take (P.cellsOf g.type))=xs[i]?)→xs.length=gs.length→off+Sh.ns fs≤cs.length→
  (∀ n∈DataW.weightsEach P (gs.map (·.type)) (xs.map (·.1)),n≤reachBytes)→ShowsL w fs ((cs.drop off).take (Sh.ns fs))
 | [],[],off,cs,xs,m,hf,h,hx,hl,hw=>by simp [ShowsL,Sh.ns]
 | f::fs,g::gs,off,cs,xs,m,hf,h,hx,hl,hw=>by
   simp only [Sh.fitsF,Bool.and_eq_true,decide_eq_true_eq] at hf
   obtain ⟨⟨⟨ho,hc⟩,hff⟩,hF⟩:=hf
   simp only [Sh.ns] at hl
   match xs,hx with
   | y::ys,hx=>
     have h0:=h 0 g rfl
     simp only [List.getElem?_cons_zero] at h0
     rw [ho,hc] at h0
     refine ⟨(cs.drop off).take f.n,(cs.drop (off+f.n)).take (Sh.ns fs),?_,sees_of f g.type m _ y hff h0 (fun z hz=>hw z ?_),seesF_of fs gs (off+f.n) cs ys m hF (fun i g' hg=>?_) (by simpa using hx) (by omega) (fun z hz=>hw z ?_)⟩
     ·rw [Sh.ns,← List.drop_drop,List.take_add]
     ·simp only [List.map_cons,DataW.weightsEach,List.mem_append]; exact .inl hz
     ·simpa using h (i+1) g' (by simpa using hg)
     ·simp only [List.map_cons,DataW.weightsEach,List.mem_append]; exact .inr hz
 | [], _:: _,off,cs,xs,m,hf,h,hx,hl,hw=>by simp [Sh.fitsF] at hf
 | _:: _,[],off,cs,xs,m,hf,h,hx,hl,hw=>by simp [Sh.fitsF] at hf
theorem seesA_of {w:World}:∀ (fs:List Sh) (u:TypeId) (k:Nat) (cs:List Value) (xs:List (DataW H×List MemPlace)) (m:Nat),Sh.fitsA P fs u=true→
  (∀ i,i < fs.length→DataW.trod enc P w 0 (fun _=>true) true m u ((cs.drop ((k+i)*P.cellsOf u)).take (P.cellsOf u))=xs[i]?)→xs.length=fs.length→k*P.cellsOf u+Sh.ns fs≤cs.length→
  (∀ n∈DataW.weightsAll P u (xs.map (·.1)),n≤reachBytes)→ShowsL w fs ((cs.drop (k*P.cellsOf u)).take (Sh.ns fs))
 | [],u,k,cs,xs,m,hf,h,hx,hl,hw=>by simp [ShowsL,Sh.ns]
 | f::fs,u,k,cs,xs,m,hf,h,hx,hl,hw=>by
   simp only [Sh.fitsA,Bool.and_eq_true,decide_eq_true_eq] at hf
   obtain ⟨⟨hc,hff⟩,hF⟩:=hf
   simp only [Sh.ns] at hl
   match xs,hx with
   | y::ys,hx=>
     have h0:=h 0 (by simp)
     simp only [List.getElem?_cons_zero,Nat.add_zero] at h0
     have hk:(k+1)*P.cellsOf u=k*P.cellsOf u+f.n:=by rw [Nat.add_mul,Nat.one_mul,hc]
     refine ⟨(cs.drop (k*P.cellsOf u)).take f.n,(cs.drop ((k+1)*P.cellsOf u)).take (Sh.ns fs),?_,sees_of f u m _ y hff (by rw [← hc]; exact h0) (fun z hz=>hw z ?_),seesA_of fs u (k+1) cs ys m hF (fun i hi=>?_) (by simpa using hx) (by rw [hk]; omega) (fun z hz=>hw z ?_)⟩
     ·rw [Sh.ns,hk,← List.drop_drop,List.take_add]
     ·simp only [List.map_cons,DataW.weightsAll,List.mem_append]; exact .inl hz
     ·rw [show k+1+i=k+(i+1) by omega]
      simpa using h (i+1) (by simp; omega)
     ·simp only [List.map_cons,DataW.weightsAll,List.mem_append]; exact .inr hz
end
end
/-- an argument opened -/
theorem sees_arg {H:Type} {enc:TypeId×Value→H} {P:Program} {w:World} {ts:List TypeId} {ds:List (DataW H)} (hsz:(DataW.weightsEach P ts ds).all (·≤reachBytes)=true) (j:Nat) {t:TypeId} {v:Value} {d:DataW H} {p:List MemPlace} (s:Sh)
  (hf:s.fits P t=true) (ht:ts[j]? =some t) (hd:ds[j]? =some d) (h:DataW.Trod enc P w 0 (fun _=>true) true t v d p):Shows w s v.cells.toList:=by
 obtain ⟨fuel,h⟩:=h
 exact sees_of s t fuel _ (d,p) hf h fun n hn=>of_decide_eq_true (List.all_eq_true.1 hsz n (DataW.weights_mem_each ht hd n hn))
/-- the elements of a slice as a list -/
theorem chunks {T:Type} (f:T→List Value) (p:T→Prop) (m:Nat):∀ (n:Nat) (xs:List Value),xs.length=n*m→(∀ i,i < n→∃ t,(xs.drop (i*m)).take m=f t∧p t)→
  ∃ ts:List T,ts.length=n∧xs=ts.flatMap f∧∀ t∈ts,p t
 | 0,xs,hl,h=>⟨[],rfl,by simpa using hl,by simp⟩
 | n+1,xs,hl,h=>by
   obtain ⟨t,ht,hp⟩:=h 0 (by omega)
   rw [Nat.zero_mul,List.drop_zero] at ht
   have hle:(n+1)*m=m+n*m:=by rw [Nat.add_mul,Nat.one_mul,Nat.add_comm]
   obtain ⟨ts,h1,h2,h3⟩:=chunks f p m n (xs.drop m) (by rw [List.length_drop]; omega) (fun i hi=>by
    obtain ⟨t',ht',hp'⟩:=h (i+1) (by omega)
    refine ⟨t',?_,hp'⟩
    rw [List.drop_drop,show m+i*m=(i+1)*m by rw [Nat.add_mul,Nat.one_mul,Nat.add_comm]]
    exact ht')
   refine ⟨t::ts,by simp [h1],?_,by simpa using ⟨hp,h3⟩⟩
   rw [List.flatMap_cons,← h2,← ht,List.take_append_drop]
theorem flatMap_one {T:Type} (f:T→Value):∀ ts:List T,(ts.flatMap fun t=>[f t])=ts.map f
 | []=>rfl
 | t::ts=>by simp [flatMap_one f ts]
/-- a slice of ints -/
theorem sees_ints {w:World} {k:IntKind} {bs:Nat} {cs:List Value} (h:Shows w (.sl (.int k) bs) cs):
  ∃ (A:Option Addr) (c:Nat) (zs:List Int),cs=[.slice A zs.length c]∧At w A (zs.map (Value.int k))∧zs.length≤c∧c*bs≤140737488351232∧∀ z∈zs,(Lit.int k z).wf=true:=by
 simp only [Shows,Sh.n,Nat.mul_one] at h
 obtain ⟨A,n,c,xs,rfl,hA,hl,hc,hb,he⟩:=h
 obtain ⟨zs,h1,h2,h3⟩:=chunks (fun z=>[Value.int k z]) (fun z=>(Lit.int k z).wf=true) 1 n xs (by omega) (fun i hi=>by rw [Nat.mul_one]; exact he i hi)
 rw [flatMap_one] at h2
 subst h1 h2
 exact ⟨A,c,zs,rfl,hA,hc,hb,h3⟩
/-- what an argument is -/
def ShowsV (w:World) (s:Sh) (v:Value):Prop:=match s with
 | .st fs=>∃ cs:List Value,v= .agg ⟨cs⟩∧ShowsL w fs cs
 | s=>Shows w s [v]
theorem sees_val {P:Program} {W w:World} {r:Reach} {b0:Nat} {t:TypeId} {v:Value} (s:Sh) (hf:s.fits P t=true) (hv:Value.okWide P W r b0 t v) (h:Shows w s v.cells.toList):ShowsV w s v:=by
 cases s with
 | int k=>
   simp only [Sh.fits] at hf
   split at hf
   ·rename_i k' hu
    obtain ⟨n,rfl⟩:=okWide_int hu hv
    exact h
   ·cases hf
 | bool=>
   simp only [Sh.fits] at hf
   split at hf
   ·rename_i hu
    obtain ⟨n,rfl⟩:=okWide_bool hu hv
    exact h
   ·cases hf
 | str=>
   simp only [Sh.fits] at hf
   split at hf
   ·rename_i hu
    obtain ⟨n,rfl⟩:=okWide_string hu hv
    exact h
   ·cases hf
 | sl e bs=>
   simp only [Sh.fits] at hf
   split at hf
   ·rename_i u hu
    obtain ⟨a,l,c,rfl⟩:=okWide_slice hu hv
    exact h
   ·cases hf
 | st fs=>
   simp only [Sh.fits] at hf
   split at hf
   ·rename_i gs hu
    obtain ⟨cs,rfl, _⟩:=okWide_struct hu hv
    exact ⟨cs.toList,rfl,h⟩
   ·rename_i n u hu
    simp only [Value.okWide,hu] at hv
    obtain ⟨cs,rfl, _⟩:=hv
    exact ⟨cs.toList,rfl,h⟩
   ·cases hf
end
end Go.Proofs.Ytjlcoglmjldjbaa
namespace Go.Proofs.Ytjlcoglmjldjbaa.treeHalf
section
open Go.ChangeShapes Go.WideShapes Go.ChangeAt Go.RowKit Go.Deep Go.Joins
theorem lifted (os:Os) (started:os.Started) (H:Type) (enc:TypeId×Value→H):
  ReturnsInHanded {} Try.checked os 7 .any (Rows.treeHalfSpec.pre6 enc Try.prog Try.f7 Rows.treeHalfRow.domain false) (Rows.treeHalfSpec.post enc Try.prog Try.f7 false true false false):=by
 refine returnsInHanded_of_change_sized (C:=Try.checked) ownKnob_none started (by kernel_rfl) Try.func7
  (ChangeSpec.witness6 (enc:=enc) (C:=Try.checked) false ⟨#[],#[.slice none 0 0, .int .i64 0, .int .i64 0],[]⟩ 8 (by kernel_rfl) (by kernel_rfl) (by kernel_rfl) (by kernel_rfl)) ?_
 intro W base args ds gs before hval0 hW hcnd hsz0 _
 have hval:∀ (j:Nat) t v,Try.f7.params[j]? =some t→args[j]? =some v→Value.okWide Try.prog W .any base t v:=hval0
 have hsz:(DataW.weightsEach Try.prog (Try.f7.params.toList++Rows.treeHalfSpec.plain.varTypes Try.prog) (ds++gs)).all (·≤reachBytes)=true:=hsz0
 clear hsz0 hval0
 have hW':=hW
 obtain ⟨p,q,hA0,hV,rfl,hfz,hnd⟩:=hW
 have hA:DataW.TrodAll enc Try.prog W 0 (fun _=>true) true Try.f7.params.toList args.toList ds p:=hA0
 clear hA0
 rw [Try.params7] at hA hval hsz
 obtain ⟨v0,vs0,d0,ds0,p0,q0,hargs,rfl,rfl,h0,r0⟩:=trodAll_cons hA
 obtain ⟨v1,vs1,d1,ds1,p1,q1,rfl,rfl,rfl,h1,r1⟩:=trodAll_cons r0
 obtain ⟨v2,vs2,d2,ds2,p2,q2,rfl,rfl,rfl,h2,r2⟩:=trodAll_cons r1
 obtain ⟨rfl,rfl,rfl⟩:=trodAll_nil r2
 obtain rfl:args=#[v0,v1,v2]:=by cases args; simp_all
 obtain ⟨rfl,rfl⟩:=trodVars_none hV
 have s0:=sees_val (.sl (.int .i64) 8) (by kernel_rfl) (hval 0 _ _ rfl rfl) (sees_arg hsz 0 (.sl (.int .i64) 8) (by kernel_rfl) rfl rfl h0)
 have s1:=sees_val (.int .i64) (by kernel_rfl) (hval 1 _ _ rfl rfl) (sees_arg hsz 1 (.int .i64) (by kernel_rfl) rfl rfl h1)
 have s2:=sees_val (.int .i64) (by kernel_rfl) (hval 2 _ _ rfl rfl) (sees_arg hsz 2 (.int .i64) (by kernel_rfl) rfl rfl h2)
 clear hsz
 obtain ⟨A,c,l,hE,atA,lA,bA,wA⟩:=sees_ints s0
 cases hE
 obtain ⟨x,hE,wx⟩:=s1
 cases hE
 obtain ⟨st,hE,wst⟩:=s2
 cases hE
 refine (treehalf_any A _ c l x st W atA rfl (by omega)).mono fun e W' ⟨he,hx⟩=>?_
 subst he
 exact ⟨_,rfl,law_post laidOut (by rw [Try.params7]; exact (by decide+kernel)) rfl Try.underlying4 hW' rfl rfl rfl rfl hx⟩
theorem over:Rows.treeHalfRow.holds Try.pinned (OpenSpec.ofChange Rows.treeHalfSpec):=
 OpenClaim.holds_of_wide 7 Try.f7 rfl rfl rfl rfl rfl rfl rfl ⟨rfl,rfl,rfl,rfl,rfl⟩ rfl rfl rfl rfl rfl (by kernel_rfl) Try.func7 (by kernel_rfl)
  (of_decide_eq_true (by kernel_rfl)) (by unfold Func.isWrapper; first | (rw [if_pos (by decide+kernel)]; kernel_rfl) | (rw [if_neg (by decide+kernel)]; exact ⟨rfl,rfl⟩))
  (fun os started H enc _=>lifted os started H enc)
theorem proved:Rows.TreeHalfSaid:=
 over
end
end Go.Proofs.Ytjlcoglmjldjbaa.treeHalf

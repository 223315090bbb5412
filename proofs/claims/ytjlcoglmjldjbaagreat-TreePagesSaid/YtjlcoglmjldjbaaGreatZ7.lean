/- TreePagesRow: part 7 of the proof. -/
import Derived.Test.YtjlcoglmjldjbaaGreatZ6
import Derived.Test.YtjlcoglmjldjbaaGreatRows
import Derived.ProofKit
import Derived.OpenShut
import Derived.Below
import Derived.ChangeSame
import Derived.WideKeyArgs
import Derived.SliceStrings
import Derived.ChangeMaps5
import Derived.Lib.SmallJoins
import Derived.SizedLaws
import Derived.WalkKit
set_option linter.unusedVariables false
set_option linter.unusedSimpArgs false
set_option maxRecDepth 100000
set_option maxHeartbeats 16000000
namespace Go.Proofs.YtjlcoglmjldjbaaGreat
section
open Go.RowKit
theorem b8_cases (nd:NoD) (x:ByteArray):nd.es.length < 8∨(¬ nd.es.length < 8∧hasE nd.es x=false)∨(¬ nd.es.length < 8∧hasE nd.es x=true):=by
 by_cases h:nd.es.length < 8
 ·exact .inl h
 ·cases hasE nd.es x with
  | false=>exact .inr (.inl ⟨h,rfl⟩)
  | true=>exact .inr (.inr ⟨h,rfl⟩)
/-- a split, its insertion as an entry -/
def CqPost (b:Nat) (p:PuT) (L:List EdT) (w:World) (e:Ending) (w':World):Prop:=∃ A c fp,e= .returned (.slice A L.length c)∧St w [b] [ePk b p fp,eO 67 3 (.slice A L.length c) L.length (L.flatMap edC)] w'
theorem kcut_pk (b:Nat) (root pos leaf:Int) (la:Addr) (ln lc:Nat) (nd:NoD) (np pg:Int) (EA:Option Addr) (ec:Nat) (lf:List TaT) (w:World) (hb:Blk w b 123 #[.int .i64 root, .int .i64 pos, .int .i64 leaf, .slice (some la) ln lc, .int .i64 0, .int .i64 0, .bool false])
  (hE:∀ W,Upd [b] w W→At W EA (nd.es.flatMap enC)) (hez:∀ e∈nd.es,e.1.size≤1000000) (hnb:nd.es.length≤1000) (hlv:0≤nd.lv∧nd.lv≤255) (hpg:0≤pg∧pg≤1000000) (hes:0 < nd.es.length) (hec:nd.es.length≤ec) (hrt: -1≤nd.right∧nd.right≤1000000) (hhi:nd.high.size≤1000000) (hdd:nd.dead=false) (hL:∀ W,Upd [b] w W→At W (some la) (lf.flatMap tkK)) (hln:lf.length=ln) (hlnb:ln≤10000):
  Calls Tryz.prog 56 #[.pointer (some ⟨b,0,none⟩), .agg #[.int .i64 np, .int .i64 nd.lv, .int .i64 nd.right, .string nd.high, .bool nd.dead, .slice EA nd.es.length ec, .int .i64 (nd.free:Int)], .int .i64 pg] w
   (CqPost b ⟨root,pos,leaf,lf++[(midE nd,nd.lv+1,pg)],if nd.lv=0 then np else 0,if nd.lv=0 then pg else 0,if nd.lv=0 then true else false⟩ (cutE np nd pg) w):=by
 refine (kcut_any b root pos leaf 0 0 false la ln lc nd np pg EA ec lf w hb hE hez hnb hlv hpg hes hec hrt hhi hdd hL hln hlnb).mono fun e w' h=>?_
 obtain ⟨A,c,LA,lc',h1,h2⟩:=h
 have hll:ln+1=(lf++[(midE nd,nd.lv+1,pg)]).length:=by rw [List.length_append,hln]; rfl
 have h3:=h2
 dsimp only at h3
 rw [hll] at h3
 obtain ⟨fp,h4⟩:=pk_new (p:=⟨root,pos,leaf,lf++[(midE nd,nd.lv+1,pg)],if nd.lv=0 then np else 0,if nd.lv=0 then pg else 0,if nd.lv=0 then true else false⟩) (g:=[]) h3 rfl
 exact ⟨A,c,fp,h1,h4⟩
theorem kstep_g (b:Nat) (tt:TypeId) (tv:Value) (root pos leaf fro too:Int) (spl:Bool) (la:Addr) (ln lc:Nat) (te:ByteArray) (tl tk:Int) (lf:List TaT) (ps:List PgS) (fresh:Int) (fp g:List Nat) (w:World) (hb:Blk w b 123 #[.int .i64 root, .int .i64 pos, .int .i64 leaf, .slice ((some la)) ln lc, .int .i64 fro, .int .i64 too, .bool spl]) (hL:∀ W,Upd [b] w W→At W (some la) (((te,tl,tk)::lf).flatMap tkK)) (hln:((te,tl,tk)::lf).length=ln) (hlc:((te,tl,tk)::lf).length≤lc) (hlnb:ln≤10000) (hS:∀ W,Upd [b] w W→PgsOk W tt tv ps) (hok:OkS ps) (hoc:OkC ps) (hfp:fp=b::g) (hbg:b∉g) (hlt:∀ k∈g,k < w.heap.size) (hla:la.block∈g) (hte:te.size≤900000) (htl:0≤tl∧tl≤90000) (hfr: -1≤fresh∧fresh≤1000000):
  Calls Tryz.prog 21 #[.pointer (some ⟨b,0,none⟩), .iface tt (tv), .int .i64 fresh] w (KtPost b (stepF ps ⟨root,pos,leaf,(te,tl,tk)::lf,fro,too,spl⟩ fresh) fp w):=by
 have st0:=St.lend (E:=eB b 123 #[.int .i64 root, .int .i64 pos, .int .i64 leaf, .slice ((some la)) ln lc, .int .i64 fro, .int .i64 too, .bool spl]) hb (eB_loc _ _ _) (fun k hk=>by simp [eB] at hk; subst hk; exact hb.lt)
 have hln1:1≤ln:=by rw [← hln]; simp
 have hlc1:lf.length+1≤lc:=hlc
 have hln2:lf.length+1=ln:=hln
 go_enter Tryz.func21,Tryz.ntmps21
 have hst0:=st0
 refine wp_seq (sqr (sqp [.k 6 (.slice none 0 0), .k 7 (.bool false), .k 8 (vi 0)] ?_))
 refine then_normal (wp_seq (wp_seq (sqr (sqp [.m 14 0] ?_))))
 refine sqv (.bool false) hst0 (by
   exact sv0 rfl rfl rfl rfl rfl (fun _ _ _ h=>h) fun ρ β W X cx=>by
    have fF14:ρ (.tmp 14)=vp b:=(cx.ou 14)
    simp [go_sem,cx.sees.const,fF14]) fun W5 hst5=>?_
 refine then_normal (wcf rfl (wp_skip (then_normal (wp_seq (sqr (sqp [.m 16 0, .m 17 0, .m 18 0, .k 19 (vp b), .k 20 (.pointer (some ⟨b,4,none⟩))] ?_))))))
 refine sqst (n:=1) 0 #[vi root,vi pos,vi leaf, .slice ((some la)) ln lc,vi 0,vi too, .bool spl] hst5 fun W11 hst11=>?_
 refine sqp [.k 21 (vp b), .k 22 (.pointer (some ⟨b,5,none⟩))] ?_
 refine sqst (n:=1) 0 #[vi root,vi pos,vi leaf, .slice ((some la)) ln lc,vi 0,vi 0, .bool spl] hst11 fun W14 hst14=>?_
 refine sqp [.k 23 (vp b), .k 24 (.pointer (some ⟨b,6,none⟩))] ?_
 refine sqst (n:=1) 0 #[vi root,vi pos,vi leaf, .slice ((some la)) ln lc,vi 0,vi 0, .bool false] hst14 fun W17 hst17=>?_
 refine then_normal (wp_seq (wp_seq (sqr (sqp [.m 25 0, .k 26 (vp b), .k 27 (.pointer (some ⟨b,3,none⟩))] ?_))))
 refine sqld 0 hst17 ?_
 have hd24:((ln:Int)==0)=false:=(by rw [beq_eq_false_iff_ne]; omega)
 refine sqp [.k 29 (vi ((ln:Int))), .e 30 (.bool ((ln:Int)==0)) (.bool false) (congrArg Value.bool hd24)] ?_
 refine then_normal (wcf rfl (wp_skip (then_normal (wp_seq (sqr (sqp [.m 31 0, .k 32 (vp b), .k 33 (.pointer (some ⟨b,3,none⟩))] ?_))))))
 refine sqld 0 hst17 ?_
 refine sql (.pointer (some ((ad ((some la))).add (0*4)))) hst17 (fun cx=>run_indexSlM (e:=120) (m:=0) (sz:=4) rfl (by kernel_rfl) (by kernel_rfl) (cx.ou 34) (cx.co _) (by omega) (by omega) (hL _ cx.upd) (flatPos (sz:=4) tkK_len (by decide) (by omega))) ?_
 refine sql (.agg #[.string te,vi 0,vi tk,vi tl]) hst17 (fun cx=>run_loadElt (f:=tkK) (m:=0) (sz:=4) (off:=0) (n:=4) rfl (by kernel_rfl) (by kernel_rfl) (cx.ou 35) rfl tkK_len (hL _ cx.upd) rfl (fun k hk=>match k,hk with | 0, _=>rfl | 1, _=>rfl | 2, _=>rfl | 3, _=>rfl | k+4,hk=>absurd hk (by omega))) ?_
 refine sqal #[.string ByteArray.empty,vi 0,vi 0,vi 0] hst17 fun B9_31 W31 hst31=>?_
 refine sqst (n:=4) 1 #[.string te,vi 0,vi tk,vi tl] hst31 fun W32 hst32=>?_
 refine then_normal (wp_seq ?_)
 rcases hnd:ndAt ps pos with _ | nd
 ·refine wp_region_Y [0,0,2,6,14,31,63,127,127,0,767,2047] [[],[],[],[],[0],[],[],[],[],[],[2]] [[],[],[],[],[],[],[],[],[],[2],[3]] [[],[],[],[],[],[],[],[],[],[],[2]] [.k 38 (.iface tt (tv)), .k 39 (vp b), .k 40 (vp b), .k 41 (.pointer (some ⟨b,1,none⟩)), .c 42 (vi pos), .a 43, .a 37, .a 44, .c 45 (.bool false), .a 10, .n, .k 11 (.bool false)] (fun ix σ β X=>match ix with | 0=>True | 1=>True | 2=>True | 3=>True | 4=>True | 5=>σ 43= .tuple #[.agg #[vi (iv (tg (tg (β 43) 0) 0)),vi 0,vi 0, .string ((⟨#[]⟩:ByteArray)), .bool false, .slice none 0 0,vi 0], .bool false] | 6=>σ 37= .tuple #[.agg #[vi (iv (tg (tg (β 43) 0) 0)),vi 0,vi 0, .string ((⟨#[]⟩:ByteArray)), .bool false, .slice none 0 0,vi 0], .bool false] | 7=>σ 44= .agg #[vi (iv (tg (tg (β 43) 0) 0)),vi 0,vi 0, .string ((⟨#[]⟩:ByteArray)), .bool false, .slice none 0 0,vi 0] | 8=>True | 9=>σ 10=vp (pb (β 10))∧X 2=eB (pb (β 10)) 84 #[vi 0,vi 0,vi 0, .string ByteArray.empty, .bool false, .slice none 0 0,vi 0] | 10=>X 3=eB (pb (β 10)) 84 #[vi (iv (tg (tg (β 43) 0) 0)),vi 0,vi 0, .string ((⟨#[]⟩:ByteArray)), .bool false, .slice none 0 0,vi 0] | _=>True) [0,1,3] [4,5,6,7,8,9,10] [(10,9,3,12),(25,6,1,26),(0,0,6,6),(0,7,2,2)] hst32 ?_ ?_ ?_
  ·exact fun ix _ _ _ _ _ _ hs hb hx h=>match ix,h with
   | 5,h=>by dsimp only; rw [← hs 43 rfl,← hb 43 rfl]; exact h
   | 6,h=>by dsimp only; rw [← hs 37 rfl,← hb 43 rfl]; exact h
   | 7,h=>by dsimp only; rw [← hs 44 rfl,← hb 43 rfl]; exact h
   | 9,h=>by dsimp only; rw [← hs 10 rfl,← hb 10 rfl,← hx 2 rfl]; exact h
   | 10,h=>by dsimp only; rw [← hb 10 rfl,← hb 43 rfl,← hx 3 rfl]; exact h
   | 0, _ | 1, _ | 2, _ | 3, _ | 4, _ | 8, _ | _+11, _=>trivial
  ·refine ⟨?_,?_,?_,?_,?_,?_,?_,trivial⟩
   ·exact xs4 rfl id fun cx=>run_load1 rfl (by kernel_rfl) (cx.an 3) ((cx.bi 0 rfl).cell 1)
   ·refine svA fun ρ β W X cx=>?_
    refine DoesU.call (run_callF (args:=#[.iface tt (tv),vi pos]) rfl cx.sees rfl (by kernel_rfl) (map2 (cx.an 0) (cx.an 4))) ?_
    refine (kd_no hnd (kat_any _ _ ps pos _ (hS _ cx.upd) hok hoc)).mono ?_
    rintro e W1 ⟨p4,rfl,hx⟩
    refine ⟨_,rfl,post_call [] rfl rfl hx (by simp) List.Pairwise.nil (fun σ β' X' hs hb hv hN=>?_)⟩
    have hv1:=(hv 43 rfl).1; have hv2:=(hv 43 rfl).2
    exact hv1.trans (by rw [hv2]; rfl)
   ·exact sv rfl rfl rfl rfl rfl _ (fun _ _ _ h=>h) (fun β β' h=>by rw [h 43 (by decide)]) fun ρ β W X cx=>run_move' rfl (dTn (cx.an 5))
   ·exact sv rfl rfl rfl rfl rfl _ (fun _ _ _ h=>h) (fun β β' h=>by rw [h 43 (by decide)]) fun ρ β W X cx=>run_extract' rfl (dTn (cx.an 6)) rfl
   ·exact xs4 rfl id fun cx=>run_extract' rfl (dTn (cx.an 6)) rfl
   ·refine svA fun ρ β W X cx=>?_
    exact dv_alloc (cs:=#[vi 0,vi 0,vi 0, .string ByteArray.empty, .bool false, .slice none 0 0,vi 0]) rfl (by kernel_rfl) rfl rfl (fun σ β' X' hs hb hv hx=>⟨hv,hx⟩)
   ·refine svA fun ρ β W X cx=>?_
    exact dv_store (n:=7) rfl (dTn (cx.an 9)).1 (dTn (cx.an 7)) (by kernel_rfl) (by kernel_rfl) (by kernel_rfl) cx (dTn (cx.an 9)).2 rfl (nle rfl) (by kernel_rfl) rfl rfl rfl (fun σ β' X' hs hb hx=>by rw [hb 10,hb 43]; exact hx)
  intro σ β X W33 hD hst33 fr hfr
  obtain ⟨pg43_33,hu_pg43_33⟩:∃ z,iv (tg (tg (β 43) 0) 0)=z:=⟨_,rfl⟩
  obtain ⟨B10_33,hu_B10_33⟩:∃ z,pb (β 10)=z:=⟨_,rfl⟩
  simp only [exq 3 ((dTn (hD 10 lq))),hu_pg43_33,hu_B10_33] at hst33
  simp only [ed 43 ((dTn (hD 5 lq))),ed 37 ((dTn (hD 6 lq))),ed 44 ((dTn (hD 7 lq))),ed 10 ((dTn (hD 9 lq)).1),hu_pg43_33,hu_B10_33] at hfr
  clear hD hu_pg43_33 hu_B10_33; subst hfr; clear σ β X
  refine then_normal (wp_seq (sqr ?_))
  refine sqv (.func (.func 51) #[] #[vp B9_31]) hst33 (by
    exact sv0 rfl rfl rfl rfl rfl (fun _ _ _ h=>h) fun ρ β W X cx=>by
     have fF9:ρ (.tmp 9)=vp B9_31:=(cx.ou 9)
     simp [go_sem,Instr.makeFunc,fF9]) fun W34 hst34=>?_
  refine sqp [.m 12 46] ?_
  refine then_normal (wp_seq (wp_block (wp_seq (sqr (sqp [.k 48 (.bool false), .k 49 (.bool true), .k 47 (.bool true)] ?_)))))
  refine then_normal (wct rfl (wp_seq (sqr (sqp [.k 6 (.slice none 0 0), .k 7 (.bool false), .k 8 (vi 22)] ?_))))
  refine then_normal (wp_ret (blk_ret (then_ret ?_)))
  refine bpr (.tuple #[.slice none 0 0, .bool false,vi 22]) (results_3 Tryz.results21 rpt rpt rpt) ?_
  rw [st_none hnd]
  have hn42:=nilrowN hst34 67 3
  simp only [List.cons_append,List.nil_append] at hn42
  have hup_:=hn42.upd
  have hpk_:=hn42.pick [0,3] (by decide) rfl
  subst hln
  exact ⟨_, _,rfl,pk_old hpk_ hfp hbg hlt hlc (hL _ hup_) (fun ad e _=>by rw [← Option.some.inj e]; exact hla)⟩
 ·have hN0:=nd_ok hok hnd
  have hN:NdQ nd:=⟨hN0.lv,fun e he=>Nat.le_trans (hN0.es e he) (by decide)⟩
  have hN1:=hN0.len
  have hN2:=hN0.rt
  have hN3:=hN0.hi
  have hN4:=hN0.lv
  have hN5:=hN0.fr
  have hN7:=hN0.es
  refine sqr (sqp [.m 38 1, .m 39 0, .k 40 (vp b), .k 41 (.pointer (some ⟨b,1,none⟩))] ?_)
  refine sqld 0 hst32 ?_
  refine sqk2 (fun EA43_48 ec43_48=> .tuple #[.agg #[vi pos,vi nd.lv,vi nd.right, .string nd.high, .bool nd.dead, .slice EA43_48 nd.es.length ec43_48,vi ((nd.free:Int))], .bool true]) (fun EA43_48 ec43_48=>eO 89 3 (.slice EA43_48 nd.es.length ec43_48) nd.es.length (nd.es.flatMap enC)) hst32 (fun cx=>⟨_,(kd_yes hnd (kat_any _ _ ps pos _ (hS _ cx.upd) hok hoc)).mono (by rintro e W1 ⟨EA4,ec4,rfl,hs4⟩; exact ⟨_, _,rfl,hs4⟩),(map2 (cx.ou 38) (cx.ou 42))⟩) fun EA43_48 ec43_48 W48 hst48=>?_
  refine sqp [.m 37 43, .k 44 (.agg #[vi pos,vi nd.lv,vi nd.right, .string nd.high, .bool nd.dead, .slice EA43_48 nd.es.length ec43_48,vi ((nd.free:Int))]), .k 45 (.bool true)] ?_
  refine sqal #[vi 0,vi 0,vi 0, .string ByteArray.empty, .bool false, .slice none 0 0,vi 0] hst48 fun B10_52 W52 hst52=>?_
  refine sqst (n:=7) 3 #[vi pos,vi nd.lv,vi nd.right, .string nd.high, .bool nd.dead, .slice EA43_48 nd.es.length ec43_48,vi ((nd.free:Int))] hst52 fun W53 hst53=>?_
  refine sqp [.k 11 (.bool true)] ?_
  refine then_normal (wp_seq (sqr ?_))
  refine sqv (.func (.func 51) #[] #[vp B9_31]) hst53 (by
    exact sv0 rfl rfl rfl rfl rfl (fun _ _ _ h=>h) fun ρ β W X cx=>by
     have fF9:ρ (.tmp 9)=vp B9_31:=(cx.ou 9)
     simp [go_sem,Instr.makeFunc,fF9]) fun W55 hst55=>?_
  refine sqp [.m 12 46] ?_
  refine then_normal (wp_seq (wp_block (wp_seq (sqr (sqp [.k 48 (.bool true), .k 49 (.bool false), .k 47 (.bool false)] ?_)))))
  refine then_normal (wcf rfl (wp_seq (sqr ?_)))
  refine sqlb 3 7 hst55 ?_
  refine sqp [.k 52 (vp B9_31), .k 53 (vp B9_31)] ?_
  refine sqld 1 hst55 ?_
  refine sqk (.bool (sndB nd.dead nd.high te)) hst55 (fun cx=>⟨_,ksends_any pos nd.lv nd.right (nd.free:Int) nd.high nd.dead _ _ _ te _ (by omega) (by omega),(map2 (cx.ou 51) (cx.ou 54))⟩) fun W64 hst64=>?_
  refine sqp [.m 50 55] ?_
  refine then_normal (wbs (fun hs66=>?_) fun hs66=>?_)
  ·refine wp_seq (wp_seq (sqr (sqp [.k 56 (.pointer (some ⟨B10_52,2,none⟩))] ?_)))
   refine sqld 3 hst64 ?_
   refine sqp [.k 58 (.bool (decide (nd.right < 0)))] ?_
   refine then_normal (wds (fun hs70 hs70p=>?_) fun hs70 hs70p=>?_)
   ·refine wp_seq (sqr (sqp [.k 6 (.slice none 0 0), .k 7 (.bool false), .k 8 (vi 11)] ?_))
    refine then_normal (wp_ret (then_ret (blk_ret (then_ret ?_))))
    refine bpr (.tuple #[.slice none 0 0, .bool false,vi 11]) (results_3 Tryz.results21 rpt rpt rpt) ?_
    rw [st_lost hnd hs66 (by omega)]
    have hn74:=nilrowN hst64 67 3
    simp only [List.cons_append,List.nil_append] at hn74
    have hup_:=hn74.upd
    have hpk_:=hn74.pick [0,4] (by decide) rfl
    subst hln
    exact ⟨_, _,rfl,pk_old hpk_ hfp hbg hlt hlc (hL _ hup_) (fun ad e _=>by rw [← Option.some.inj e]; exact hla)⟩
   refine wp_skip (then_normal (wp_seq (sqr (sqp [.m 59 0, .k 60 (.pointer (some ⟨B10_52,2,none⟩))] ?_))))
   refine sqld 3 hst64 ?_
   refine sqp [.k 62 (vp b), .k 63 (.pointer (some ⟨b,1,none⟩))] ?_
   refine sqst (n:=1) 0 #[vi root,vi nd.right,vi leaf, .slice ((some la)) ln lc,vi 0,vi 0, .bool false] hst64 fun W80 hst80=>?_
   refine then_normal (wp_seq (sqr (sqp [.k 6 (.slice none 0 0), .k 7 (.bool false), .k 8 (vi 0)] ?_)))
   refine then_normal (wp_ret (blk_ret (then_ret ?_)))
   refine bpr (.tuple #[.slice none 0 0, .bool false,vi 0]) (results_3 Tryz.results21 rpt rpt rpt) ?_
   rw [st_right hnd hs66 (by omega)]
   have hn84:=nilrowN hst80 67 3
   simp only [List.cons_append,List.nil_append] at hn84
   have hup_:=hn84.upd
   have hpk_:=hn84.pick [0,4] (by decide) rfl
   subst hln
   exact ⟨_, _,rfl,pk_old hpk_ hfp hbg hlt hlc (hL _ hup_) (fun ad e _=>by rw [← Option.some.inj e]; exact hla)⟩
  refine wp_seq (sqr (sqp [.k 65 (.pointer (some ⟨B10_52,1,none⟩))] ?_))
  refine sqld 3 hst64 ?_
  refine sqp [.k 67 (.pointer (some ⟨B9_31,3,none⟩))] ?_
  refine sqld 1 hst64 ?_
  refine sqp [.k 69 (.bool (decide (tl < nd.lv))), .m 64 69] ?_
  refine then_normal (wds (fun hs91 hs91p=>?_) fun hs91 hs91p=>?_)
  ·refine wp_seq (sqr (sqp [.m 70 0] ?_))
   refine sqlb 3 7 hst64 ?_
   refine sqp [.k 72 (vp B9_31), .k 73 (vp B9_31)] ?_
   refine sqld 1 hst64 ?_
   refine sqk (vi (downF te nd.es (-1))) hst64 (fun cx=>⟨_,kdown_any _ _ _ _ _ _ _ _ _ _ nd.es _ (At.of_ownN (cx.ri 2 rfl)) rfl hN.es6 (by omega) (by omega),(map2 (cx.ou 71) (cx.ou 74))⟩) fun W97 hst97=>?_
   refine sqp [.k 76 (vp b), .k 77 (.pointer (some ⟨b,1,none⟩))] ?_
   refine sqst (n:=1) 0 #[vi root,vi (downF te nd.es (-1)),vi leaf, .slice ((some la)) ln lc,vi 0,vi 0, .bool false] hst97 fun W100 hst100=>?_
   refine then_normal (wp_seq (sqr (sqp [.k 6 (.slice none 0 0), .k 7 (.bool false), .k 8 (vi 0)] ?_)))
   refine then_normal (wp_ret (blk_ret (then_ret ?_)))
   refine bpr (.tuple #[.slice none 0 0, .bool false,vi 0]) (results_3 Tryz.results21 rpt rpt rpt) ?_
   rw [st_down hnd hs66 (by omega)]
   have hn104:=nilrowN hst100 67 3
   simp only [List.cons_append,List.nil_append] at hn104
   have hup_:=hn104.upd
   have hpk_:=hn104.pick [0,4] (by decide) rfl
   subst hln
   exact ⟨_, _,rfl,pk_old hpk_ hfp hbg hlt hlc (hL _ hup_) (fun ad e _=>by rw [← Option.some.inj e]; exact hla)⟩
  refine wp_seq (sqr (sqp [.k 79 (.pointer (some ⟨B10_52,1,none⟩))] ?_))
  refine sqld 3 hst64 ?_
  refine sqp [.k 81 (.pointer (some ⟨B9_31,3,none⟩))] ?_
  refine sqld 1 hst64 ?_
  refine sqp [.k 83 (.bool (decide (nd.lv < tl))), .m 78 83] ?_
  refine then_normal (wds (fun hs111 hs111p=>?_) fun hs111 hs111p=>?_)
  ·refine wp_seq (sqr (sqp [.k 6 (.slice none 0 0), .k 7 (.bool false), .k 8 (vi 11)] ?_))
   refine then_normal (wp_ret (blk_ret (then_ret ?_)))
   refine bpr (.tuple #[.slice none 0 0, .bool false,vi 11]) (results_3 Tryz.results21 rpt rpt rpt) ?_
   rw [st_form hnd hs66 (by omega) (by omega)]
   have hn115:=nilrowN hst64 67 3
   simp only [List.cons_append,List.nil_append] at hn115
   have hup_:=hn115.upd
   have hpk_:=hn115.pick [0,4] (by decide) rfl
   subst hln
   exact ⟨_, _,rfl,pk_old hpk_ hfp hbg hlt hlc (hL _ hup_) (fun ad e _=>by rw [← Option.some.inj e]; exact hla)⟩
  refine wp_seq ?_
  rcases b8_cases nd te with hn8 | ⟨hn8,hq⟩ | ⟨hn8,hq⟩
  ·refine sqr (sqp [.k 85 (.pointer (some ⟨B10_52,5,none⟩))] ?_)
   refine sqld 3 hst64 ?_
   refine sqp [.k 87 (vi ((nd.es.length:Int))), .e 88 (.bool (decide ((nd.es.length:Int) < 8))) (.bool true) (congrArg Value.bool (decide_eq_true (by omega))), .k 89 (.bool true)] ?_
   refine sqgn 89 [90,91,92,93] rfl rfl ?_
   refine sqp [.k 94 (.bool true), .k 84 (.bool true)] ?_
   refine then_normal (wct rfl (wp_seq ?_))
   rcases hq:hasE nd.es te with _ | _
   ·refine wp_region_Y [0,0,0,7,15,31,63] [[],[3],[1],[0,2]] [[],[],[],[4,5]] [[],[],[],[0]] [.k 95 (vp b), .c 96 (.agg #[vi pos,vi nd.lv,vi nd.right, .string nd.high, .bool nd.dead, .slice EA43_48 nd.es.length ec43_48,vi ((nd.free:Int))]), .c 97 (.agg #[.string te,vi 0,vi tk,vi tl]), .a 98, .a 6, .k 7 (.bool false), .k 8 (vi 0)] (fun ix σ β X=>match ix with | 0=>True | 1=>True | 2=>True | 3=>σ 98= .slice (sA (β 98)) 1 (sC (β 98))∧X 4=eB b 123 #[vi root,vi root,vi ((if tl=0 then pos else leaf)), .slice ((if lc=1 then some la else (some la).map (·.add (1*4)))) ((ln - 1)) ((lc - 1)),vi 0,vi 0, .bool false]∧X 5=eO 67 3 (.slice (sA (β 98)) 1 (sC (β 98))) 1 ([(pos,(nd.free:Int),itB nd.lv tk te)].flatMap edC) | 4=>σ 6= .slice (sA (β 98)) 1 (sC (β 98)) | _=>True) [1,2,3,4,5] [1,2,3,4] [(6,4,3,9),(86,0,4,90)] hst64 ?_ ?_ ?_
    ·exact fun ix _ _ _ _ _ _ hs hb hx h=>match ix,h with
     | 3,h=>by dsimp only; rw [← hs 98 rfl,← hb 98 rfl,← hx 4 rfl,← hx 5 rfl]; exact h
     | 4,h=>by dsimp only; rw [← hs 6 rfl,← hb 98 rfl]; exact h
     | 0, _ | 1, _ | 2, _ | _+5, _=>trivial
    ·refine ⟨?_,?_,?_,?_,trivial⟩
     ·exact xs4 rfl id fun cx=>run_loadB (n:=7) rfl (by kernel_rfl) (by kernel_rfl) (cx.ou 10) (cx.bi 3 rfl) (nle rfl) rfl
     ·exact xs4 rfl id fun cx=>run_loadB (n:=4) rfl (by kernel_rfl) (by kernel_rfl) (cx.ou 9) (cx.bi 1 rfl) (nle rfl) rfl
     ·refine svA fun ρ β W X cx=>?_
      refine DoesU.call (run_callF (args:=#[vp b, .agg #[vi pos,vi nd.lv,vi nd.right, .string nd.high, .bool nd.dead, .slice EA43_48 nd.es.length ec43_48,vi ((nd.free:Int))], .agg #[.string te,vi 0,vi tk,vi tl]]) rfl cx.sees rfl (by kernel_rfl) (map3 (cx.an 0) (cx.an 1) (cx.an 2))) ?_
      refine (kput_any _ _ _ _ _ _ _ _ _ _ nd pos _ _ te 0 tk tl false _ (cx.bi 0 rfl) (CtxV.keepAt cx (cx.init 2 _ rfl) (cx.init 0 _ rfl) rfl rfl (by decide)) (by omega) (by omega) (by omega) (by omega) hq).mono ?_
      rintro e W1 ⟨A4,c4,rfl,hs4⟩
      refine ⟨_,rfl,post_obj (E:=eB b 123 #[vi root,vi pos,vi leaf, .slice ((some la)) ln lc,vi 0,vi 0, .bool false]) [eB b 123 #[vi root,vi root,vi ((if tl=0 then pos else leaf)), .slice ((if lc=1 then some la else (some la).map (·.add (1*4)))) ((ln - 1)) ((lc - 1)),vi 0,vi 0, .bool false],eO 67 3 (.slice A4 1 c4) 1 ([(pos,(nd.free:Int),itB nd.lv tk te)].flatMap edC)] (cx.init 0 _ rfl) rfl rfl hs4 (fun σ β' X' hs hb hv hN=>?_)⟩
      have hv1:=(hv 98 rfl).1; have hv2:=(hv 98 rfl).2
      exact ⟨hv1.trans (by rw [hv2]; rfl),(List.cons.inj hN).1,(by rw [hv2]; exact (List.cons.inj (List.cons.inj hN).2).1)⟩
     ·exact sv rfl rfl rfl rfl rfl _ (fun _ _ _ h=>h) (fun β β' h=>by rw [h 98 (by decide)]) fun ρ β W X cx=>run_assign' rfl (dTn (cx.an 3)).1
    intro σ β X W123 hD hst123 fr hfr
    obtain ⟨A98_123,hu_A98_123⟩:∃ z,sA (β 98)=z:=⟨_,rfl⟩
    obtain ⟨c98_123,hu_c98_123⟩:∃ z,sC (β 98)=z:=⟨_,rfl⟩
    simp only [exq 4 ((dTn (hD 3 lq)).2.1),exq 5 ((dTn (hD 3 lq)).2.2),hu_A98_123,hu_c98_123] at hst123
    simp only [ed 98 ((dTn (hD 3 lq)).1),ed 6 ((dTn (hD 4 lq))),hu_A98_123,hu_c98_123] at hfr
    clear hD hu_A98_123 hu_c98_123; subst hfr; clear σ β X
    refine then_normal (wp_ret (blk_ret (then_ret ?_)))
    refine bpr (.tuple #[.slice A98_123 1 c98_123, .bool false,vi 0]) (results_3 Tryz.results21 rpt rpt rpt) ?_
    rw [st_put hnd hs66 (by omega) (by omega) hq hn8]
    have hup_:=hst123.upd
    have hpk_:=hst123.pick [3,4] (by decide) rfl
    have hl1_:ln - 1=lf.length:=by omega
    have hlv_:nd.lv=tl:=by omega
    rw [hl1_,hlv_] at hpk_
    exact ⟨_, _,rfl,pk_old hpk_ hfp hbg hlt (by show lf.length≤lc - 1; omega) (At.dropF (ts:=(te,tl,tk)::lf) tkK_len (hL _ hup_) 1 lc hlc) (fun ad e _=>by rw [tail_blk4 e]; exact hla)⟩
   ·refine wp_region_Y [0,0,0,7,15,31,63] [[],[3],[1],[0,2]] [[],[],[],[4,5]] [[],[],[],[0]] [.k 95 (vp b), .c 96 (.agg #[vi pos,vi nd.lv,vi nd.right, .string nd.high, .bool nd.dead, .slice EA43_48 nd.es.length ec43_48,vi ((nd.free:Int))]), .c 97 (.agg #[.string te,vi 0,vi tk,vi tl]), .a 98, .a 6, .k 7 (.bool false), .k 8 (vi 0)] (fun ix σ β X=>match ix with | 0=>True | 1=>True | 2=>True | 3=>σ 98= .slice (sA (β 98)) 0 (sC (β 98))∧X 4=eB b 123 #[vi root,vi root,vi ((if tl=0 then pos else leaf)), .slice ((if lc=1 then some la else (some la).map (·.add (1*4)))) ((ln - 1)) ((lc - 1)),vi 0,vi 0, .bool false]∧X 5=eO 67 3 (.slice (sA (β 98)) 0 (sC (β 98))) 0 (([]:List EdT).flatMap edC) | 4=>σ 6= .slice (sA (β 98)) 0 (sC (β 98)) | _=>True) [1,2,3,4,5] [1,2,3,4] [(6,4,3,9),(86,0,4,90)] hst64 ?_ ?_ ?_
    ·exact fun ix _ _ _ _ _ _ hs hb hx h=>match ix,h with
     | 3,h=>by dsimp only; rw [← hs 98 rfl,← hb 98 rfl,← hx 4 rfl,← hx 5 rfl]; exact h
     | 4,h=>by dsimp only; rw [← hs 6 rfl,← hb 98 rfl]; exact h
     | 0, _ | 1, _ | 2, _ | _+5, _=>trivial
    ·refine ⟨?_,?_,?_,?_,trivial⟩
     ·exact xs4 rfl id fun cx=>run_loadB (n:=7) rfl (by kernel_rfl) (by kernel_rfl) (cx.ou 10) (cx.bi 3 rfl) (nle rfl) rfl
     ·exact xs4 rfl id fun cx=>run_loadB (n:=4) rfl (by kernel_rfl) (by kernel_rfl) (cx.ou 9) (cx.bi 1 rfl) (nle rfl) rfl
     ·refine svA fun ρ β W X cx=>?_
      refine DoesU.call (run_callF (args:=#[vp b, .agg #[vi pos,vi nd.lv,vi nd.right, .string nd.high, .bool nd.dead, .slice EA43_48 nd.es.length ec43_48,vi ((nd.free:Int))], .agg #[.string te,vi 0,vi tk,vi tl]]) rfl cx.sees rfl (by kernel_rfl) (map3 (cx.an 0) (cx.an 1) (cx.an 2))) ?_
      refine (kput_any _ _ _ _ _ _ _ _ _ _ nd pos _ _ te 0 tk tl true _ (cx.bi 0 rfl) (CtxV.keepAt cx (cx.init 2 _ rfl) (cx.init 0 _ rfl) rfl rfl (by decide)) (by omega) (by omega) (by omega) (by omega) hq).mono ?_
      rintro e W1 ⟨A4,c4,rfl,hs4⟩
      refine ⟨_,rfl,post_obj (E:=eB b 123 #[vi root,vi pos,vi leaf, .slice ((some la)) ln lc,vi 0,vi 0, .bool false]) [eB b 123 #[vi root,vi root,vi ((if tl=0 then pos else leaf)), .slice ((if lc=1 then some la else (some la).map (·.add (1*4)))) ((ln - 1)) ((lc - 1)),vi 0,vi 0, .bool false],eO 67 3 (.slice A4 0 c4) 0 (([]:List EdT).flatMap edC)] (cx.init 0 _ rfl) rfl rfl hs4 (fun σ β' X' hs hb hv hN=>?_)⟩
      have hv1:=(hv 98 rfl).1; have hv2:=(hv 98 rfl).2
      exact ⟨hv1.trans (by rw [hv2]; rfl),(List.cons.inj hN).1,(by rw [hv2]; exact (List.cons.inj (List.cons.inj hN).2).1)⟩
     ·exact sv rfl rfl rfl rfl rfl _ (fun _ _ _ h=>h) (fun β β' h=>by rw [h 98 (by decide)]) fun ρ β W X cx=>run_assign' rfl (dTn (cx.an 3)).1
    intro σ β X W124 hD hst124 fr hfr
    obtain ⟨A98_124,hu_A98_124⟩:∃ z,sA (β 98)=z:=⟨_,rfl⟩
    obtain ⟨c98_124,hu_c98_124⟩:∃ z,sC (β 98)=z:=⟨_,rfl⟩
    simp only [exq 4 ((dTn (hD 3 lq)).2.1),exq 5 ((dTn (hD 3 lq)).2.2),hu_A98_124,hu_c98_124] at hst124
    simp only [ed 98 ((dTn (hD 3 lq)).1),ed 6 ((dTn (hD 4 lq))),hu_A98_124,hu_c98_124] at hfr
    clear hD hu_A98_124 hu_c98_124; subst hfr; clear σ β X
    refine then_normal (wp_ret (blk_ret (then_ret ?_)))
    refine bpr (.tuple #[.slice A98_124 0 c98_124, .bool false,vi 0]) (results_3 Tryz.results21 rpt rpt rpt) ?_
    rw [st_there hnd hs66 (by omega) (by omega) hq]
    have hup_:=hst124.upd
    have hpk_:=hst124.pick [3,4] (by decide) rfl
    have hl1_:ln - 1=lf.length:=by omega
    have hlv_:nd.lv=tl:=by omega
    rw [hl1_] at hpk_
    exact ⟨_, _,rfl,pk_old hpk_ hfp hbg hlt (by show lf.length≤lc - 1; omega) (At.dropF (ts:=(te,tl,tk)::lf) tkK_len (hL _ hup_) 1 lc hlc) (fun ad e _=>by rw [tail_blk4 e]; exact hla)⟩
  ·refine sqr (sqp [.k 85 (.pointer (some ⟨B10_52,5,none⟩))] ?_)
   refine sqld 3 hst64 ?_
   refine sqp [.k 87 (vi ((nd.es.length:Int))), .e 88 (.bool (decide ((nd.es.length:Int) < 8))) (.bool false) (congrArg Value.bool (decide_eq_false (by omega))), .k 89 (.bool false)] ?_
   refine sqgy 89 [90,91,92,93] rfl rfl ?_
   refine sqp [.k 90 (.pointer (some ⟨B10_52,5,none⟩))] ?_
   refine sqld 3 hst64 ?_
   refine sqp [.m 92 12] ?_
   refine sqv (.bool false) hst64 (sv_call rfl rfl rfl rfl rfl (fun _ _ _ h=>h.trans (congrArg Value.bool hq)) fun ρ β W X cx=>⟨_, _,run_callF (args:=#[.slice EA43_48 nd.es.length ec43_48, .func (.func 51) #[] #[vp B9_31]]) rfl cx.sees rfl (by kernel_rfl) (map2 (cx.ou 91) (cx.ou 92)),kstep1_con (At.of_ownN (cx.ri 2 rfl)) (by omega) (cx.bi 1 rfl)⟩) fun W133 hst133=>?_
   refine sqp [.k 94 (.bool false), .k 84 (.bool false)] ?_
   refine then_normal (wcf rfl (wp_seq (sqr (sqp [.m 100 2, .k 101 (.bool (decide (fresh < 0))), .m 99 101] ?_))))
   refine then_normal (wds (fun hs139 hs139p=>?_) fun hs139 hs139p=>?_)
   ·refine wp_seq (sqr (sqp [.k 6 (.slice none 0 0), .k 7 (.bool false), .k 8 (vi 23)] ?_))
    refine then_normal (wp_ret (blk_ret (then_ret ?_)))
    refine bpr (.tuple #[.slice none 0 0, .bool false,vi 23]) (results_3 Tryz.results21 rpt rpt rpt) ?_
    rw [st_full hnd hs66 (by omega) (by omega) hq hn8 (by omega)]
    have hn143:=nilrowN hst133 67 3
    simp only [List.cons_append,List.nil_append] at hn143
    have hup_:=hn143.upd
    have hpk_:=hn143.pick [0,4] (by decide) rfl
    subst hln
    exact ⟨_, _,rfl,pk_old hpk_ hfp hbg hlt hlc (hL _ hup_) (fun ad e _=>by rw [← Option.some.inj e]; exact hla)⟩
   refine wp_skip (blk_normal (then_normal (wp_seq ?_)))
   have hec:=eown_capN ((hst133.get 2 rfl).holds:World.ownsRow _ 0 89 3 (.slice EA43_48 nd.es.length ec43_48) nd.es.length (nd.es.flatMap enC))
   have hdd:nd.dead=false:=by have h_:=hs66; unfold sndB at h_; rw [Bool.or_eq_false_iff] at h_; exact h_.1
   refine sqr (sqp [.m 102 0] ?_)
   refine sqv (.func (.func 56) #[vp b] #[]) hst133 (by
     exact sv0 rfl rfl rfl rfl rfl (fun _ _ _ h=>h) fun ρ β W X cx=>by
      have fF102:ρ (.tmp 102)=vp b:=(cx.ou 102)
      simp [go_sem,Instr.makeFunc,fF102]) fun W145 hst145=>?_
   refine sqp [.m 13 103] ?_
   refine then_normal (wp_seq (wp_seq (wp_region_Z [0,1,3,7,0,16,48,112,255] [[],[],[],[0],[],[],[],[0]] [.k 104 (vp b), .k 105 (vp b), .k 106 (.pointer (some ⟨b,1,none⟩)), .c 107 (vi pos), .k 108 (vp b), .k 109 (vp b), .k 110 (vp b), .c 111 (vi root), .k 112 (.bool (pos==root))] [0,1,2,3] [3,7] [(104,0,9,113)] hst145 ?_ fun W147 hst147=>?_)))
   ·refine ⟨?_,?_,trivial⟩
    ·exact xs4 rfl id fun cx=>run_load1 rfl (by kernel_rfl) (cx.an 2) ((cx.bi 0 rfl).cell 1)
    ·exact xs4 rfl id fun cx=>run_load1 rfl (by kernel_rfl) (cx.an 6) ((cx.bi 0 rfl).cell 0)
   refine then_normal (wbs (fun hs148=>?_) fun hs148=>?_)
   ·have hs148p:=beq_iff_eq.1 hs148
    refine sqr (sqp [.m 113 0] ?_)
    refine sqv (.func (.func 57) #[vp b] #[]) hst147 (by
      exact sv0 rfl rfl rfl rfl rfl (fun _ _ _ h=>h) fun ρ β W X cx=>by
       have fF113:ρ (.tmp 113)=vp b:=(cx.ou 113)
       simp [go_sem,Instr.makeFunc,fF113]) fun W150 hst150=>?_
    refine sqp [.m 13 114] ?_
    refine then_normal (wp_seq (wp_region_Y [0,0,0,7,15,31,63] [[],[3],[],[0,2]] [[],[],[],[4,5]] [[],[],[],[0]] [.k 115 (.func (.func 57) #[vp b] #[]), .c 116 (.agg #[vi pos,vi nd.lv,vi nd.right, .string nd.high, .bool nd.dead, .slice EA43_48 nd.es.length ec43_48,vi ((nd.free:Int))]), .k 117 (vi fresh), .a 118, .a 6, .k 7 (.bool true), .k 8 (vi 0)] (fun ix σ β X=>match ix with | 0=>True | 1=>True | 2=>True | 3=>σ 118= .slice (sA (β 118)) ((growE root nd fresh).length) (sC (β 118))∧X 4=eB b 123 #[vi root,vi fresh,vi leaf, .slice ((some la)) ln lc,vi 0,vi 0, .bool false]∧X 5=eO 67 3 (.slice (sA (β 118)) ((growE root nd fresh).length) (sC (β 118))) ((growE root nd fresh).length) ((growE root nd fresh).flatMap edC) | 4=>σ 6= .slice (sA (β 118)) ((growE root nd fresh).length) (sC (β 118)) | _=>True) [1,2,3,4,5] [1,3,4] [(6,4,3,9),(106,0,4,110)] hst150 ?_ ?_ ?_))
    ·exact fun ix _ _ _ _ _ _ hs hb hx h=>match ix,h with
     | 3,h=>by dsimp only; rw [← hs 118 rfl,← hb 118 rfl,← hx 4 rfl,← hx 5 rfl]; exact h
     | 4,h=>by dsimp only; rw [← hs 6 rfl,← hb 118 rfl]; exact h
     | 0, _ | 1, _ | 2, _ | _+5, _=>trivial
    ·refine ⟨?_,?_,?_,trivial⟩
     ·exact xs4 rfl id fun cx=>run_loadB (n:=7) rfl (by kernel_rfl) (by kernel_rfl) (cx.ou 10) (cx.bi 3 rfl) (nle rfl) rfl
     ·refine svA fun ρ β W X cx=>?_
      refine DoesU.call (run_callV (f:=57) (args:=#[.agg #[vi pos,vi nd.lv,vi nd.right, .string nd.high, .bool nd.dead, .slice EA43_48 nd.es.length ec43_48,vi ((nd.free:Int))],vi fresh]) (args':=#[vp b, .agg #[vi pos,vi nd.lv,vi nd.right, .string nd.high, .bool nd.dead, .slice EA43_48 nd.es.length ec43_48,vi ((nd.free:Int))],vi fresh]) rfl rfl (cx.an 0) (by kernel_rfl) (map2 (cx.an 1) (cx.an 2)) rfl) ?_
      refine (kgrow_any _ _ _ _ _ _ _ _ _ _ nd pos fresh _ _ _ (cx.bi 0 rfl) (CtxV.keepAt cx (cx.init 2 _ rfl) (cx.init 0 _ rfl) rfl rfl (by decide)) hN.es6 (by omega) (by omega) (by omega) (by omega)).mono ?_
      rintro e W1 ⟨A4,c4,rfl,hs4⟩
      refine ⟨_,rfl,post_obj (E:=eB b 123 #[vi root,vi pos,vi leaf, .slice ((some la)) ln lc,vi 0,vi 0, .bool false]) [eB b 123 #[vi root,vi fresh,vi leaf, .slice ((some la)) ln lc,vi 0,vi 0, .bool false],eO 67 3 (.slice A4 (growE root nd fresh).length c4) (growE root nd fresh).length ((growE root nd fresh).flatMap edC)] (cx.init 0 _ rfl) rfl rfl hs4 (fun σ β' X' hs hb hv hN=>?_)⟩
      have hv1:=(hv 118 rfl).1; have hv2:=(hv 118 rfl).2
      exact ⟨hv1.trans (by rw [hv2]; rfl),(List.cons.inj hN).1,(by rw [hv2]; exact (List.cons.inj (List.cons.inj hN).2).1)⟩
     ·exact sv rfl rfl rfl rfl rfl _ (fun _ _ _ h=>h) (fun β β' h=>by rw [h 118 (by decide)]) fun ρ β W X cx=>run_assign' rfl (dTn (cx.an 3)).1
    intro σ β X W152 hD hst152 fr hfr
    obtain ⟨A118_152,hu_A118_152⟩:∃ z,sA (β 118)=z:=⟨_,rfl⟩
    obtain ⟨c118_152,hu_c118_152⟩:∃ z,sC (β 118)=z:=⟨_,rfl⟩
    simp only [exq 4 ((dTn (hD 3 lq)).2.1),exq 5 ((dTn (hD 3 lq)).2.2),hu_A118_152,hu_c118_152] at hst152
    simp only [ed 118 ((dTn (hD 3 lq)).1),ed 6 ((dTn (hD 4 lq))),hu_A118_152,hu_c118_152] at hfr
    clear hD hu_A118_152 hu_c118_152; subst hfr; clear σ β X
    refine then_normal (wp_ret ?_)
    refine bpr (.tuple #[.slice A118_152 ((growE root nd fresh).length) c118_152, .bool true,vi 0]) (results_3 Tryz.results21 rpt rpt rpt) ?_
    rw [st_grow hnd hs66 (by omega) (by omega) hq hn8 (by omega) (by omega)]
    have hup_:=hst152.upd
    have hpk_:=hst152.pick [3,4] (by decide) rfl
    subst hln
    exact ⟨_, _,rfl,pk_old hpk_ hfp hbg hlt hlc (hL _ hup_) (fun ad e _=>by rw [← Option.some.inj e]; exact hla)⟩
   have hs148p:=beq_eq_false_iff_ne.1 hs148
   refine wp_skip (then_normal (wp_seq (wp_region_Y [0,0,0,7,15,31,63] [[],[3],[],[0,2]] [[],[],[],[4,5]] [[],[],[],[0]] [.k 115 (.func (.func 56) #[vp b] #[]), .c 116 (.agg #[vi pos,vi nd.lv,vi nd.right, .string nd.high, .bool nd.dead, .slice EA43_48 nd.es.length ec43_48,vi ((nd.free:Int))]), .k 117 (vi fresh), .a 118, .a 6, .k 7 (.bool true), .k 8 (vi 0)] (fun ix σ β X=>match ix with | 0=>True | 1=>True | 2=>True | 3=>σ 118= .slice (sA (β 118)) ((cutE pos nd fresh).length) (sC (β 118))∧X 4=ePk b ⟨root,pos,leaf,(te,tl,tk)::lf++[(midE nd,nd.lv+1,fresh)],if nd.lv=0 then pos else 0,if nd.lv=0 then fresh else 0,if nd.lv=0 then true else false⟩ ((X 4).fp)∧X 5=eO 67 3 (.slice (sA (β 118)) ((cutE pos nd fresh).length) (sC (β 118))) ((cutE pos nd fresh).length) ((cutE pos nd fresh).flatMap edC) | 4=>σ 6= .slice (sA (β 118)) ((cutE pos nd fresh).length) (sC (β 118)) | _=>True) [1,2,3,4,5] [1,3,4] [(6,4,3,9),(106,0,4,110)] hst147 ?_ ?_ ?_)))
   ·exact fun ix _ _ _ _ _ _ hs hb hx h=>match ix,h with
    | 3,h=>by dsimp only; rw [← hs 118 rfl,← hb 118 rfl,← hx 4 rfl,← hx 5 rfl]; exact h
    | 4,h=>by dsimp only; rw [← hs 6 rfl,← hb 118 rfl]; exact h
    | 0, _ | 1, _ | 2, _ | _+5, _=>trivial
   ·refine ⟨?_,?_,?_,trivial⟩
    ·exact xs4 rfl id fun cx=>run_loadB (n:=7) rfl (by kernel_rfl) (by kernel_rfl) (cx.ou 10) (cx.bi 3 rfl) (nle rfl) rfl
    ·refine svA fun ρ β W X cx=>?_
     refine DoesU.call (run_callV (f:=56) (args:=#[.agg #[vi pos,vi nd.lv,vi nd.right, .string nd.high, .bool nd.dead, .slice EA43_48 nd.es.length ec43_48,vi ((nd.free:Int))],vi fresh]) (args':=#[vp b, .agg #[vi pos,vi nd.lv,vi nd.right, .string nd.high, .bool nd.dead, .slice EA43_48 nd.es.length ec43_48,vi ((nd.free:Int))],vi fresh]) rfl rfl (cx.an 0) (by kernel_rfl) (map2 (cx.an 1) (cx.an 2)) rfl) ?_
     refine (kcut_pk _ _ _ _ _ _ _ nd pos fresh _ _ ((te,tl,tk)::lf) _ (cx.bi 0 rfl) (CtxV.keepAt cx (cx.init 2 _ rfl) (cx.init 0 _ rfl) rfl rfl (by decide)) hN.es6 (by omega) (by omega) (by omega) (by omega) hec (by omega) (by omega) hdd (fun W' hu=>hL W' (cx.upd.join hu (fun i hi=> .inl hi))) hln (by omega)).mono ?_
     rintro e W1 ⟨A4,c4,fp4,rfl,hs4⟩
     refine ⟨_,rfl,post_obj (E:=eB b 123 #[vi root,vi pos,vi leaf, .slice ((some la)) ln lc,vi 0,vi 0, .bool false]) [ePk b ⟨root,pos,leaf,(te,tl,tk)::lf++[(midE nd,nd.lv+1,fresh)],if nd.lv=0 then pos else 0,if nd.lv=0 then fresh else 0,if nd.lv=0 then true else false⟩ fp4,eO 67 3 (.slice A4 (cutE pos nd fresh).length c4) (cutE pos nd fresh).length ((cutE pos nd fresh).flatMap edC)] (cx.init 0 _ rfl) rfl rfl hs4 (fun σ β' X' hs hb hv hN=>?_)⟩
     have hv1:=(hv 118 rfl).1; have hv2:=(hv 118 rfl).2
     exact ⟨hv1.trans (by rw [hv2]; rfl),ePk_self ((List.cons.inj hN).1),(by rw [hv2]; exact (List.cons.inj (List.cons.inj hN).2).1)⟩
    ·exact sv rfl rfl rfl rfl rfl _ (fun _ _ _ h=>h) (fun β β' h=>by rw [h 118 (by decide)]) fun ρ β W X cx=>run_assign' rfl (dTn (cx.an 3)).1
   intro σ β X W153 hD hst153 fr hfr
   obtain ⟨A118_153,hu_A118_153⟩:∃ z,sA (β 118)=z:=⟨_,rfl⟩
   obtain ⟨c118_153,hu_c118_153⟩:∃ z,sC (β 118)=z:=⟨_,rfl⟩
   have xX4:X 4= _:=(dTn (hD 3 lq)).2.1
   obtain ⟨r4_153,hu_r4_153⟩:∃ z,(X 4).fp=z:=⟨_,rfl⟩
   rw [hu_r4_153] at xX4
   clear hu_r4_153
   simp only [xX4,exq 5 ((dTn (hD 3 lq)).2.2),hu_A118_153,hu_c118_153] at hst153
   simp only [ed 118 ((dTn (hD 3 lq)).1),ed 6 ((dTn (hD 4 lq))),hu_A118_153,hu_c118_153] at hfr
   clear hD xX4 hu_A118_153 hu_c118_153; subst hfr; clear σ β X
   refine then_normal (wp_ret ?_)
   refine bpr (.tuple #[.slice A118_153 ((cutE pos nd fresh).length) c118_153, .bool true,vi 0]) (results_3 Tryz.results21 rpt rpt rpt) ?_
   rw [st_cut hnd hs66 (by omega) (by omega) hq hn8 (by omega) (by omega)]
   have hlv_:nd.lv=tl:=by omega
   have hpk_:=hst153.pick [3,4] (by decide) rfl
   rw [hlv_] at hpk_
   exact ⟨_, _,rfl, _,St.monoB hpk_ (by rw [hfp]; simp [eB])⟩
  ·refine sqr (sqp [.k 85 (.pointer (some ⟨B10_52,5,none⟩))] ?_)
   refine sqld 3 hst64 ?_
   refine sqp [.k 87 (vi ((nd.es.length:Int))), .e 88 (.bool (decide ((nd.es.length:Int) < 8))) (.bool false) (congrArg Value.bool (decide_eq_false (by omega))), .k 89 (.bool false)] ?_
   refine sqgy 89 [90,91,92,93] rfl rfl ?_
   refine sqp [.k 90 (.pointer (some ⟨B10_52,5,none⟩))] ?_
   refine sqld 3 hst64 ?_
   refine sqp [.m 92 12] ?_
   refine sqv (.bool true) hst64 (sv_call rfl rfl rfl rfl rfl (fun _ _ _ h=>h.trans (congrArg Value.bool hq)) fun ρ β W X cx=>⟨_, _,run_callF (args:=#[.slice EA43_48 nd.es.length ec43_48, .func (.func 51) #[] #[vp B9_31]]) rfl cx.sees rfl (by kernel_rfl) (map2 (cx.ou 91) (cx.ou 92)),kstep1_con (At.of_ownN (cx.ri 2 rfl)) (by omega) (cx.bi 1 rfl)⟩) fun W162 hst162=>?_
   refine sqp [.k 94 (.bool true), .k 84 (.bool true)] ?_
   refine then_normal (wct rfl (wp_seq (wp_region_Y [0,0,0,7,15,31,63] [[],[3],[1],[0,2]] [[],[],[],[4,5]] [[],[],[],[0]] [.k 95 (vp b), .c 96 (.agg #[vi pos,vi nd.lv,vi nd.right, .string nd.high, .bool nd.dead, .slice EA43_48 nd.es.length ec43_48,vi ((nd.free:Int))]), .c 97 (.agg #[.string te,vi 0,vi tk,vi tl]), .a 98, .a 6, .k 7 (.bool false), .k 8 (vi 0)] (fun ix σ β X=>match ix with | 0=>True | 1=>True | 2=>True | 3=>σ 98= .slice (sA (β 98)) 0 (sC (β 98))∧X 4=eB b 123 #[vi root,vi root,vi ((if tl=0 then pos else leaf)), .slice ((if lc=1 then some la else (some la).map (·.add (1*4)))) ((ln - 1)) ((lc - 1)),vi 0,vi 0, .bool false]∧X 5=eO 67 3 (.slice (sA (β 98)) 0 (sC (β 98))) 0 (([]:List EdT).flatMap edC) | 4=>σ 6= .slice (sA (β 98)) 0 (sC (β 98)) | _=>True) [1,2,3,4,5] [1,2,3,4] [(6,4,3,9),(86,0,4,90)] hst162 ?_ ?_ ?_)))
   ·exact fun ix _ _ _ _ _ _ hs hb hx h=>match ix,h with
    | 3,h=>by dsimp only; rw [← hs 98 rfl,← hb 98 rfl,← hx 4 rfl,← hx 5 rfl]; exact h
    | 4,h=>by dsimp only; rw [← hs 6 rfl,← hb 98 rfl]; exact h
    | 0, _ | 1, _ | 2, _ | _+5, _=>trivial
   ·refine ⟨?_,?_,?_,?_,trivial⟩
    ·exact xs4 rfl id fun cx=>run_loadB (n:=7) rfl (by kernel_rfl) (by kernel_rfl) (cx.ou 10) (cx.bi 3 rfl) (nle rfl) rfl
    ·exact xs4 rfl id fun cx=>run_loadB (n:=4) rfl (by kernel_rfl) (by kernel_rfl) (cx.ou 9) (cx.bi 1 rfl) (nle rfl) rfl
    ·refine svA fun ρ β W X cx=>?_
     refine DoesU.call (run_callF (args:=#[vp b, .agg #[vi pos,vi nd.lv,vi nd.right, .string nd.high, .bool nd.dead, .slice EA43_48 nd.es.length ec43_48,vi ((nd.free:Int))], .agg #[.string te,vi 0,vi tk,vi tl]]) rfl cx.sees rfl (by kernel_rfl) (map3 (cx.an 0) (cx.an 1) (cx.an 2))) ?_
     refine (kput_any _ _ _ _ _ _ _ _ _ _ nd pos _ _ te 0 tk tl true _ (cx.bi 0 rfl) (CtxV.keepAt cx (cx.init 2 _ rfl) (cx.init 0 _ rfl) rfl rfl (by decide)) (by omega) (by omega) (by omega) (by omega) hq).mono ?_
     rintro e W1 ⟨A4,c4,rfl,hs4⟩
     refine ⟨_,rfl,post_obj (E:=eB b 123 #[vi root,vi pos,vi leaf, .slice ((some la)) ln lc,vi 0,vi 0, .bool false]) [eB b 123 #[vi root,vi root,vi ((if tl=0 then pos else leaf)), .slice ((if lc=1 then some la else (some la).map (·.add (1*4)))) ((ln - 1)) ((lc - 1)),vi 0,vi 0, .bool false],eO 67 3 (.slice A4 0 c4) 0 (([]:List EdT).flatMap edC)] (cx.init 0 _ rfl) rfl rfl hs4 (fun σ β' X' hs hb hv hN=>?_)⟩
     have hv1:=(hv 98 rfl).1; have hv2:=(hv 98 rfl).2
     exact ⟨hv1.trans (by rw [hv2]; rfl),(List.cons.inj hN).1,(by rw [hv2]; exact (List.cons.inj (List.cons.inj hN).2).1)⟩
    ·exact sv rfl rfl rfl rfl rfl _ (fun _ _ _ h=>h) (fun β β' h=>by rw [h 98 (by decide)]) fun ρ β W X cx=>run_assign' rfl (dTn (cx.an 3)).1
   intro σ β X W165 hD hst165 fr hfr
   obtain ⟨A98_165,hu_A98_165⟩:∃ z,sA (β 98)=z:=⟨_,rfl⟩
   obtain ⟨c98_165,hu_c98_165⟩:∃ z,sC (β 98)=z:=⟨_,rfl⟩
   simp only [exq 4 ((dTn (hD 3 lq)).2.1),exq 5 ((dTn (hD 3 lq)).2.2),hu_A98_165,hu_c98_165] at hst165
   simp only [ed 98 ((dTn (hD 3 lq)).1),ed 6 ((dTn (hD 4 lq))),hu_A98_165,hu_c98_165] at hfr
   clear hD hu_A98_165 hu_c98_165; subst hfr; clear σ β X
   refine then_normal (wp_ret (blk_ret (then_ret ?_)))
   refine bpr (.tuple #[.slice A98_165 0 c98_165, .bool false,vi 0]) (results_3 Tryz.results21 rpt rpt rpt) ?_
   rw [st_there hnd hs66 (by omega) (by omega) hq]
   have hup_:=hst165.upd
   have hpk_:=hst165.pick [3,4] (by decide) rfl
   have hl1_:ln - 1=lf.length:=by omega
   have hlv_:nd.lv=tl:=by omega
   rw [hl1_] at hpk_
   exact ⟨_, _,rfl,pk_old hpk_ hfp hbg hlt (by show lf.length≤lc - 1; omega) (At.dropF (ts:=(te,tl,tk)::lf) tkK_len (hL _ hup_) 1 lc hlc) (fun ad e _=>by rw [tail_blk4 e]; exact hla)⟩
end
section
open Go.RowKit
theorem book_ok {b:Nat} {ps:List PgS} {w:World} (h:BkAt w b ps) (hl:ps.length≤1000):PgsOk w 24 (.pointer (some ⟨b,0,none⟩)) ps:=
 ⟨⟨71, _,fun W=>by kernel_rfl,by kernel_rfl,fun x=>rpage_any b ps x w h hl⟩⟩
theorem kstep_pk {b bk:Nat} {ps:List PgS} {p:PuT} {fresh:Int} {fp:List Nat} {w:World} (h:(ePk b p fp).holds w) (hB:BkU fp w bk ps) (hne:p.left≠[]) (hok:OkS ps) (hoc:OkC ps) (h10:p.left.length≤10000) (hte:∀ t∈p.left,t.1.size≤900000∧0≤t.2.1∧t.2.1≤90000) (h8:∀ nd,ndAt ps p.pos=some nd→nd.es.length < 8):
  Calls Tryz.prog 21 #[.pointer (some ⟨b,0,none⟩), .iface 24 (.pointer (some ⟨bk,0,none⟩)), .int .i64 fresh] w (KtPost b (stepF ps p fresh) fp w):=by
 obtain ⟨A,c,g,hfp,hbg,hc,hAg,hlt,hb,hA⟩:=h
 obtain ⟨root,pos,leaf,left,fro,too,spl⟩:=p
 cases left with
 | nil=>exact absurd rfl hne
 | cons t lf=>
   obtain ⟨te,tl,tk⟩:=t
   obtain ⟨la,rfl, _, _⟩:=hA 0 (.string te) rfl
   have hg:=hAg la rfl (by simp)
   have ht:=hte (te,tl,tk) (by simp)
   obtain ⟨LA,lcc,Ps,h1,h2⟩:=hB
   refine kstep_s b _ _ root pos leaf fro too spl la _ c te tl tk lf ps fresh fp g w hb (fun W hW=>?_) rfl hc h10 (fun W hW=>book_ok ⟨LA,lcc,Ps,h1,h2 W (hW.mono fun k _ hk=>by rw [hfp,List.mem_singleton.1 hk]; simp)⟩ hok.len) hok hoc hfp hbg hlt hg ht.1 ht.2 h8
   refine at_blocks hA fun ad e _=>?_
   rw [← Option.some.inj e]
   exact hW.block _ (hlt _ hg) (fun hm=>hbg (by rw [List.mem_singleton] at hm; exact hm ▸ hg))
theorem kdone_t {b:Nat} {p:PuT} {fp:List Nat} {w:World} (h:(ePk b p fp).holds w) (h0:p.left=[]):Calls Tryz.prog 20 #[.pointer (some ⟨b,0,none⟩)] w (Ret (.bool true) w):=by
 have h1:=kdone_pk h
 rw [h0] at h1
 exact h1
/-- the book of the example -/
def sanB:List PgS:=doB (blankF 4) (begF 3)
def sanK:ByteArray:=⟨#[97,98]⟩
def sanX:ByteArray:=⟨#[97,98,0,1,0,2]⟩
theorem sanB_eq:sanB=[(2,0,[⟨#[0,0,0,0]⟩]),(0,0,[]),(0,0,[]),(2,0,[⟨#[0,0,0,0]⟩])]:=by kernel_rfl
theorem sanB_ok:OkS sanB:=by
 rw [sanB_eq]
 refine ⟨by decide,fun p hp=>?_,fun p hp s hs=>?_⟩
 ·simp only [List.mem_cons,List.not_mem_nil,or_false] at hp
  rcases hp with rfl | rfl | rfl | rfl<;>decide
 ·simp only [List.mem_cons,List.not_mem_nil,or_false] at hp
  rcases hp with rfl | rfl | rfl | rfl<;>simp at hs<;>subst hs<;>decide
theorem sanB_c:OkC sanB:=by
 rw [sanB_eq]
 intro p hp
 simp only [List.mem_cons,List.not_mem_nil,or_false] at hp
 rcases hp with rfl | rfl | rfl | rfl<;>decide
def sanN:NoD:=⟨0, -1,⟨#[]⟩,false,[],1⟩
theorem sanB_nd:ndAt sanB 3=some sanN:=by kernel_rfl
def sanP:PuT:=⟨3,3,3,[],0,0,false⟩
theorem san_step:stepF sanB (putT 3 sanK 1 2) (-1)=(sanP,⟨[(3,1,sanX)],false,0⟩):=by kernel_rfl
theorem san_ck:checkF sanB 3=0:=by rw [sanB_eq]; kernel_rfl
theorem san_ret {v v':Value} {f:FuncId} {args:Array Value} {w:World} (h:v=v') (hc:Calls Tryz.prog f args w (Ret v w)):Calls Tryz.prog f args w (Ret v' w):=h ▸ hc
theorem kt_to {P:Program} {f:FuncId} {args:Array Value} {w:World} {b:Nat} {fp:List Nat} {R R':PuT×GoT} (hR:R=R') (hc:Calls P f args w (KtPost b R fp w)):Calls P f args w (KtPost b R' fp w):=hR ▸ hc
theorem at_to {w:World} {A:Option Addr} {xs ys:List Value} (h:At w A xs) (e:xs=ys):At w A ys:=e ▸ h
theorem sanity10_any (w:World):
  Calls Tryz.prog 5 #[] w (Ret (.bool true) w):=by
 go_enter Tryz.func5,Tryz.ntmps5
 have hst0:=St.start w
 refine wp_seq (sqr (sqp [.k 0 (.bool false)] ?_))
 refine then_normal (wp_seq (sqr ?_))
 refine sqk1s (fun B9_2=>vp B9_2) (fun B9_2 r0_2=>eBk B9_2 (blankF 4) r0_2) hst0 (fun cx=>⟨_,(rblank_any 4 _ (by decide)).mono (by rintro e W1 ⟨B4,fp4,rfl,hs4⟩; exact ⟨_, _,rfl,hs4⟩),(map1 (cx.co _))⟩) fun B9_2 r0_2 W2 hst2=>?_
 refine sqp [.m 1 9] ?_
 refine then_normal (wp_seq (wp_region_Y [0,0,2,6,0,16,48,126,255,511] [[],[],[2],[],[],[3],[],[],[1,4]] [[1],[2],[],[],[3],[],[],[4]] [] [.a 10, .a 11, .c 12 (.string (strOfNums ([2]))), .k 13 (.agg #[vi 3,vi (-1), .string (strOfNums ([2]))]), .a 14, .c 15 (.string (strOfNums ([0,0,0,0]))), .k 16 (.agg #[vi 3,vi 0, .string (strOfNums ([0,0,0,0]))]), .a 17, .c 18 (.bool true), .k 2 (.bool true)] (fun ix σ β X=>match ix with | 0=>σ 10= .slice (sA (β 10)) 2 (sC (β 10))∧X 1=eO 67 3 (.slice (sA (β 10)) 2 (sC (β 10))) 2 ((begF 3).flatMap edC) | 1=>σ 11= .slice (sA (β 11)) 1 1∧X 2=eO 5 1 (.slice (sA (β 11)) 1 1) 1 ([.int .u8 2]) | 2=>True | 3=>True | 4=>σ 14= .slice (sA (β 14)) 4 4∧X 3=eO 5 1 (.slice (sA (β 14)) 4 4) 4 ([.int .u8 0, .int .u8 0, .int .u8 0, .int .u8 0]) | 5=>True | 6=>True | 7=>σ 17= .slice ((some ⟨(pb' (β 17)),0,none⟩)) 2 2∧X 4=eO 67 3 (.slice ((some ⟨(pb' (β 17)),0,none⟩)) 2 2) 2 ([vi 3,vi (-1), .string (strOfNums ([2])),vi 3,vi 0, .string (strOfNums ([0,0,0,0]))]) | _=>True) [0,1,2,3,4] [0,1,2,4,5,7,8] [(2,9,1,3),(7,0,9,16)] hst2 ?_ ?_ ?_))
 ·exact fun ix _ _ _ _ _ _ hs hb hx h=>match ix,h with
  | 0,h=>by dsimp only; rw [← hs 10 rfl,← hb 10 rfl,← hx 1 rfl]; exact h
  | 1,h=>by dsimp only; rw [← hs 11 rfl,← hb 11 rfl,← hx 2 rfl]; exact h
  | 4,h=>by dsimp only; rw [← hs 14 rfl,← hb 14 rfl,← hx 3 rfl]; exact h
  | 7,h=>by dsimp only; rw [← hs 17 rfl,← hb 17 rfl,← hx 4 rfl]; exact h
  | 2, _ | 3, _ | 5, _ | 6, _ | _+8, _=>trivial
 ·refine ⟨?_,?_,?_,?_,?_,?_,?_,trivial⟩
  ·refine svA fun ρ β W X cx=>?_
   refine DoesU.call (run_callF (args:=#[vi 3]) rfl cx.sees rfl (by kernel_rfl) (map1 (cx.co _))) ?_
   refine (kbegin_any 3 _).mono ?_
   rintro e W1 ⟨A4,c4,rfl,ho_,hx⟩
   refine ⟨_,rfl,post_call [eO 67 3 (.slice A4 2 c4) 2 ((begF 3).flatMap edC)] rfl rfl hx (one_new (eO_new (n:=2) (xs:=(begF 3).flatMap edC) ho_)) (List.pairwise_singleton _ _) (fun σ β' X' hs hb hv hN=>?_)⟩
   have hv1:=(hv 10 rfl).1; have hv2:=(hv 10 rfl).2
   exact ⟨hv1.trans (by rw [hv2]; rfl),(by rw [hv2]; exact (List.cons.inj hN).1)⟩
  ·refine svA fun ρ β W X cx=>?_
   exact dv_lit (e:=5) (xs:=[.int .u8 2]) rfl (by simp [go_sem,cx.sees.const]) rfl (by decide) rfl rfl (fun σ β' X' hs hb hv hx=>⟨hv,hx⟩)
  ·exact xs4 rfl id fun cx=>run_convB (e:=5) rfl (by kernel_rfl) (by kernel_rfl) (by kernel_rfl) (dTn (cx.an 1)).1 (cx.row (dTn (cx.an 1)).2 rfl)
  ·refine svA fun ρ β W X cx=>?_
   exact dv_lit (e:=5) (xs:=[.int .u8 0, .int .u8 0, .int .u8 0, .int .u8 0]) rfl (by simp [go_sem,cx.sees.const]) rfl (by decide) rfl rfl (fun σ β' X' hs hb hv hx=>⟨hv,hx⟩)
  ·exact xs4 rfl id fun cx=>run_convB (e:=5) rfl (by kernel_rfl) (by kernel_rfl) (by kernel_rfl) (dTn (cx.an 4)).1 (cx.row (dTn (cx.an 4)).2 rfl)
  ·refine svA fun ρ β W X cx=>?_
   have fF13:ρ (.tmp 13)= .agg #[vi 3,vi (-1), .string (strOfNums ([2]))]:=(cx.an 3)
   have fF16:ρ (.tmp 16)= .agg #[vi 3,vi 0, .string (strOfNums ([0,0,0,0]))]:=(cx.an 6)
   exact dv_litN (e:=67) (sz:=3) (xs:=[vi 3,vi (-1), .string (strOfNums ([2])),vi 3,vi 0, .string (strOfNums ([0,0,0,0]))]) rfl (by simp [go_sem,fF13,fF16]) rfl (by decide) rfl rfl (fun σ β' X' hs hb hv hx=>⟨hv,hx⟩)
  ·exact xsc rfl id rfl rfl fun cx=>⟨_,rsame_any _ _ _ _ (begF 3) _ (at_to (At.of_ownN (cx.row (dTn (cx.an 0)).2 rfl)) (by kernel_rfl)) (at_to (At.of_ownN (cx.row (dTn (cx.an 7)).2 rfl)) (by kernel_rfl)) (by decide),(map2 (dTn (cx.an 0)).1 (dTn (cx.an 7)).1)⟩
 intro σ β X W4 hD hst4 fr hfr
 obtain ⟨A10_4,hu_A10_4⟩:∃ z,sA (β 10)=z:=⟨_,rfl⟩
 obtain ⟨c10_4,hu_c10_4⟩:∃ z,sC (β 10)=z:=⟨_,rfl⟩
 obtain ⟨A11_4,hu_A11_4⟩:∃ z,sA (β 11)=z:=⟨_,rfl⟩
 obtain ⟨A14_4,hu_A14_4⟩:∃ z,sA (β 14)=z:=⟨_,rfl⟩
 obtain ⟨B17_4,hu_B17_4⟩:∃ z,pb' (β 17)=z:=⟨_,rfl⟩
 simp only [exq 1 ((dTn (hD 0 lq)).2),exq 2 ((dTn (hD 1 lq)).2),exq 3 ((dTn (hD 4 lq)).2),exq 4 ((dTn (hD 7 lq)).2),hu_A10_4,hu_c10_4,hu_A11_4,hu_A14_4,hu_B17_4] at hst4
 simp only [ed 10 ((dTn (hD 0 lq)).1),ed 11 ((dTn (hD 1 lq)).1),ed 14 ((dTn (hD 4 lq)).1),ed 17 ((dTn (hD 7 lq)).1),hu_A10_4,hu_c10_4,hu_A11_4,hu_A14_4,hu_B17_4] at hfr
 clear hD hu_A10_4 hu_c10_4 hu_A11_4 hu_A14_4 hu_B17_4; subst hfr; clear σ β X
 refine then_normal (wp_seq (sqr (sqp [.m 19 1] ?_)))
 refine sqk2 (fun A20_6 c20_6=> .slice A20_6 2 c20_6) (fun A20_6 c20_6=>eO 67 3 (.slice A20_6 2 c20_6) 2 ((begF 3).flatMap edC)) hst4 (fun cx=>⟨_,(kbegin_any 3 _).mono (by rintro e W1 ⟨A4,c4,rfl,ho_,hx⟩; exact ⟨_, _,rfl,St.one hx (eO_new (n:=2) (xs:=(begF 3).flatMap edC) ho_)⟩),(map1 (cx.co _))⟩) fun A20_6 c20_6 W6 hst6=>?_
 refine sqc0s (fun X_=>X_.fp) (.tuple #[]) (fun r6_7=>eBk B9_2 (doB (blankF 4) (begF 3)) r6_7) 0 hst6 (by
   refine svA fun ρ β W X cx=>?_
   refine DoesU.call (run_callF (args:=#[vp B9_2, .slice A20_6 2 c20_6]) rfl cx.sees rfl (by kernel_rfl) (map2 (cx.ou 19) (cx.ou 20))) ?_
   refine (rdo_any B9_2 (blankF 4) _ 4 _ _ (begF 3) _ (CtxV.holdF cx (cx.init 0 _ rfl) rfl) (CtxV.ltF cx (cx.init 0 _ rfl) rfl) (CtxV.keepAt cx (cx.init 5 _ rfl) (cx.init 0 _ rfl) rfl rfl (by decide)) (by decide) (blank_sz 4).2 (by decide) (blank_sz 4).1.its).mono ?_
   rintro e W1 ⟨rfl,fp4,hs4⟩
   refine ⟨_,rfl,post_obj (E:=eBk B9_2 (blankF 4) r0_2) [eBk B9_2 (doB (blankF 4) (begF 3)) fp4] (cx.init 0 _ rfl) rfl rfl hs4 (fun σ β' X' hs hb hv hN=>?_)⟩
   have hv1:=(hv 21 rfl).1; have hv2:=(hv 21 rfl).2
   exact ⟨hv1.trans rfl,eBk_self ((List.cons.inj hN).1)⟩) fun r6_7 W7 hst7=>?_
 refine then_normal (wp_seq ?_)
 have hsb_:doB (blankF 4) (begF 3)=sanB:=rfl
 rw [hsb_] at hst7
 refine sqr (sqp [.k 22 (.agg #[vi 1,vi 2])] ?_)
 refine sqk1s (fun B23_9=>vp B23_9) (fun B23_9 r6_9=>ePk B23_9 (putT 3 (⟨#[97,98]⟩:ByteArray) 1 2) r6_9) hst7 (fun cx=>⟨_,(kgrowN_any 3 (⟨#[97,98]⟩:ByteArray) 1 2 _ (by decide)).mono (by rintro e W1 ⟨B4,fp4,rfl,hs4⟩; exact ⟨_, _,rfl,hs4⟩),(map3 (cx.co _) (cx.co _) (cx.ou 22))⟩) fun B23_9 r6_9 W9 hst9=>?_
 refine sqp [.m 3 23] ?_
 refine then_normal (wp_seq (wp_seq (sqr (sqp [.m 24 3] ?_))))
 refine sqv (.bool false) hst9 (by
   exact sv0 rfl rfl rfl rfl rfl (fun _ _ _ h=>h) fun ρ β W X cx=>by
    have fF24:ρ (.tmp 24)=vp B23_9:=(cx.ou 24)
    simp [go_sem,cx.sees.const,fF24]) fun W12 hst12=>?_
 refine then_normal (wcf rfl (wp_skip (then_normal (wp_seq (wp_region_Y [0,0,2,7,15,31,31,31,63,383,1023] [[],[],[],[6,0]] [[],[],[],[7,8]] [[],[],[],[6]] [.k 27 (vp B23_9), .k 28 (vp B9_2), .c 29 (.iface 24 (vp B9_2)), .a 30, .a 26, .a 31, .c 32 (.bool false), .c 33 (vi 0), .a 4, .k 5 (.bool false), .k 6 (vi 0)] (fun ix σ β X=>match ix with | 0=>True | 1=>True | 2=>True | 3=>σ 30= .tuple #[.slice (sA (tg (β 30) 0)) 1 (sC (tg (β 30) 0)), .bool false,vi 0]∧X 7=ePk B23_9 sanP ((X 7).fp)∧X 8=eO 67 3 (.slice (sA (tg (β 30) 0)) 1 (sC (tg (β 30) 0))) 1 ([(3,1,sanX)].flatMap edC) | 4=>σ 26= .tuple #[.slice (sA (tg (β 30) 0)) 1 (sC (tg (β 30) 0)), .bool false,vi 0] | 5=>σ 31= .slice (sA (tg (β 30) 0)) 1 (sC (tg (β 30) 0)) | 6=>True | 7=>True | 8=>σ 4= .slice (sA (tg (β 30) 0)) 1 (sC (tg (β 30) 0)) | _=>True) [0,1,2,3,4,5,7,8] [2,3,4,5,6,7,8] [(4,8,3,7),(19,4,1,20),(0,0,4,4),(0,5,3,3)] hst12 ?_ ?_ ?_)))))
 ·exact fun ix _ _ _ _ _ _ hs hb hx h=>match ix,h with
  | 3,h=>by dsimp only; rw [← hs 30 rfl,← hb 30 rfl,← hx 7 rfl,← hx 8 rfl]; exact h
  | 4,h=>by dsimp only; rw [← hs 26 rfl,← hb 30 rfl]; exact h
  | 5,h=>by dsimp only; rw [← hs 31 rfl,← hb 30 rfl]; exact h
  | 8,h=>by dsimp only; rw [← hs 4 rfl,← hb 30 rfl]; exact h
  | 0, _ | 1, _ | 2, _ | 6, _ | 7, _ | _+9, _=>trivial
 ·refine ⟨?_,?_,?_,?_,?_,?_,?_,trivial⟩
  ·exact sv0 rfl rfl rfl rfl rfl (fun _ _ _ h=>h) fun ρ β W X cx=>by
    have fF28:ρ (.tmp 28)=vp B9_2:=(cx.an 1)
    simp [go_sem,fF28]
  ·refine svA fun ρ β W X cx=>?_
   refine DoesU.call (run_callF (args:=#[vp B23_9, .iface 24 (vp B9_2),vi (-1)]) rfl cx.sees rfl (by kernel_rfl) (map3 (cx.an 0) (cx.an 2) (cx.co _))) ?_
   refine (kt_to san_step (kstep_pk (fresh:= -1) (CtxV.holdF cx (cx.init 6 _ rfl) rfl) (CtxV.bkU cx (cx.init 0 _ rfl) (cx.init 6 _ rfl) rfl rfl (by decide)) (by decide) sanB_ok sanB_c (by decide) (fun t ht=>by rw [putT,List.mem_singleton] at ht; subst ht; decide) (fun nd h=>by have h_:=sanB_nd.symm.trans h; rw [← Option.some.inj h_]; decide))).mono ?_
   rintro e W1 ⟨A4,c4,rfl,fp4,hs4⟩
   refine ⟨_,rfl,post_obj (E:=ePk B23_9 (putT 3 (⟨#[97,98]⟩:ByteArray) 1 2) r6_9) [ePk B23_9 sanP fp4,eO 67 3 (.slice A4 1 c4) 1 ([(3,1,sanX)].flatMap edC)] (cx.init 6 _ rfl) rfl rfl hs4 (fun σ β' X' hs hb hv hN=>?_)⟩
   have hv1:=(hv 30 rfl).1; have hv2:=(hv 30 rfl).2
   exact ⟨hv1.trans (by rw [hv2]; rfl),ePk_self ((List.cons.inj hN).1),(by rw [hv2]; exact (List.cons.inj (List.cons.inj hN).2).1)⟩
  ·exact sv rfl rfl rfl rfl rfl _ (fun _ _ _ h=>h) (fun β β' h=>by rw [h 30 (by decide)]) fun ρ β W X cx=>run_move' rfl (dTn (cx.an 3)).1
  ·exact sv rfl rfl rfl rfl rfl _ (fun _ _ _ h=>h) (fun β β' h=>by rw [h 30 (by decide)]) fun ρ β W X cx=>run_extract' rfl (dTn (cx.an 4)) rfl
  ·exact xs4 rfl id fun cx=>run_extract' rfl (dTn (cx.an 4)) rfl
  ·exact xs4 rfl id fun cx=>run_extract' rfl (dTn (cx.an 4)) rfl
  ·exact sv rfl rfl rfl rfl rfl _ (fun _ _ _ h=>h) (fun β β' h=>by rw [h 30 (by decide)]) fun ρ β W X cx=>run_assign' rfl (dTn (cx.an 5))
 intro σ β X W13 hD hst13 fr hfr
 obtain ⟨A30_13,hu_A30_13⟩:∃ z,sA (tg (β 30) 0)=z:=⟨_,rfl⟩
 obtain ⟨c30_13,hu_c30_13⟩:∃ z,sC (tg (β 30) 0)=z:=⟨_,rfl⟩
 have xX7:X 7= _:=(dTn (hD 3 lq)).2.1
 obtain ⟨r7_13,hu_r7_13⟩:∃ z,(X 7).fp=z:=⟨_,rfl⟩
 rw [hu_r7_13] at xX7
 clear hu_r7_13
 simp only [xX7,exq 8 ((dTn (hD 3 lq)).2.2),hu_A30_13,hu_c30_13] at hst13
 simp only [ed 30 ((dTn (hD 3 lq)).1),ed 26 ((dTn (hD 4 lq))),ed 31 ((dTn (hD 5 lq))),ed 4 ((dTn (hD 8 lq))),hu_A30_13,hu_c30_13] at hfr
 clear hD xX7 hu_A30_13 hu_c30_13; subst hfr; clear σ β X
 refine then_normal (wp_seq (sqr ?_))
 refine sqn1 (fun x_=>sA x_) (fun A34_14=> .slice A34_14 4 4) (fun A34_14=>eO 5 1 (.slice A34_14 4 4) 4 ([.int .u8 0, .int .u8 1, .int .u8 0, .int .u8 2])) hst13 (by
   refine svA fun ρ β W X cx=>?_
   exact dv_lit (e:=5) (xs:=[.int .u8 0, .int .u8 1, .int .u8 0, .int .u8 2]) rfl (by simp [go_sem,cx.sees.const]) rfl (by decide) rfl rfl (fun σ β' X' hs hb hv hx=>⟨hv,hx⟩)) fun A34_14 W14 hst14=>?_
 refine sql (.string (strOfNums ([0,1,0,2]))) hst14 (fun cx=>run_convB (e:=5) rfl (by kernel_rfl) (by kernel_rfl) (by kernel_rfl) (cx.ou 34) (cx.ri 8 rfl)) ?_
 refine sqp [sS 36 ((⟨#[97,98]⟩:ByteArray)) (strOfNums ([0,1,0,2])) (by rw [strOfNums_size]; decide), .m 7 36] ?_
 refine then_normal (wp_seq (sqr (sqp [.m 37 4, .m 38 7, .k 39 (.agg #[vi 3,vi 1, .string (((⟨#[97,98]⟩:ByteArray))++(strOfNums ([0,1,0,2])))])] ?_)))
 refine sqli 67 3 1 [vi 3,vi 1, .string (((⟨#[97,98]⟩:ByteArray))++(strOfNums ([0,1,0,2])))] hst14 (@fun ρ β W X cx=>by have fF39:ρ (.tmp 39)= .agg #[vi 3,vi 1, .string (((⟨#[97,98]⟩:ByteArray))++(strOfNums ([0,1,0,2])))]:=(cx.ou 39); simp [go_sem,fF39]) fun B40_21 W21 hst21=>?_
 refine sqk (.bool true) hst21 (fun cx=>⟨_,rsame_any _ _ _ _ [(3,1,sanX)] _ (at_to (At.of_ownN (cx.ri 7 rfl)) (by kernel_rfl)) (at_to (At.of_ownN (cx.ri 9 rfl)) (by kernel_rfl)) (by decide),(map2 (cx.ou 37) (cx.ou 40))⟩) fun W22 hst22=>?_
 refine sqp [.k 8 (.bool true)] ?_
 refine then_normal (wp_seq (sqr (sqp [.k 42 (.bool true), .k 43 (.bool true)] ?_)))
 refine sqgy 43 [44] rfl rfl ?_
 refine sqp [.k 44 (.bool true)] ?_
 refine sqp [.k 45 (.bool true), .k 46 (.bool true)] ?_
 refine sqgy 46 [47,48] rfl rfl ?_
 refine sqp [.k 47 (.bool false), .k 48 (.bool true)] ?_
 refine sqp [.k 49 (.bool true), .k 50 (.bool true)] ?_
 refine sqgy 50 [51,52] rfl rfl ?_
 refine sqp [.m 51 6, .k 52 (.bool true)] ?_
 refine sqp [.k 53 (.bool true), .k 54 (.bool true)] ?_
 refine sqgy 54 [55,56] rfl rfl ?_
 refine sqp [.m 55 3] ?_
 refine sqk (.bool true) hst22 (fun cx=>⟨_,kdone_t (CtxV.holdF cx (cx.init 6 _ rfl) rfl) rfl,(map1 (cx.ou 55))⟩) fun W38 hst38=>?_
 refine sqp [.k 57 (.bool true), .k 58 (.bool true)] ?_
 refine sqgy 58 [59,60,61] rfl rfl ?_
 refine sqp [.m 59 3] ?_
 refine sqk (vi 3) hst38 (fun cx=>⟨_,kleaf_pk (CtxV.holdF cx (cx.init 6 _ rfl) rfl),(map1 (cx.ou 59))⟩) fun W42 hst42=>?_
 refine sqp [.k 61 (.bool true)] ?_
 refine sqp [.k 62 (.bool true), .k 63 (.bool true)] ?_
 refine sqgy 63 [64,65,66,67] rfl rfl ?_
 refine sqp [.k 64 (.agg #[vi 1,vi 2])] ?_
 refine sqk (.string ((entF sanK 1 2))) hst42 (fun cx=>⟨_,kentry_any sanK 1 2 _ (by decide),(map2 (cx.co _) (cx.ou 64))⟩) fun W47 hst47=>?_
 have hd50:(((entF sanK 1 2)).toList==(((⟨#[97,98]⟩:ByteArray))++(strOfNums ([0,1,0,2]))).toList)=true:=(by kernel_rfl)
 refine sqp [.m 66 7, .e 67 (.bool (((entF sanK 1 2)).toList==(((⟨#[97,98]⟩:ByteArray))++(strOfNums ([0,1,0,2]))).toList)) (.bool true) (congrArg Value.bool hd50)] ?_
 refine sqp [.k 68 (.bool true), .k 69 (.bool true)] ?_
 refine sqgy 69 [70,71,72,73] rfl rfl ?_
 refine sqp [.m 70 1] ?_
 refine sqv (.iface 24 (vp B9_2)) hst47 (by
   exact sv0 rfl rfl rfl rfl rfl (fun _ _ _ h=>h) fun ρ β W X cx=>by
    have fF70:ρ (.tmp 70)=vp B9_2:=(cx.ou 70)
    simp [go_sem,fF70]) fun W54 hst54=>?_
 refine sqk (vi 0) hst54 (fun cx=>⟨_,san_ret (by rw [san_ck]) (kcheck_g _ _ 3 sanB _ (book_ok (eBk_at (CtxV.holdF cx (cx.init 0 _ rfl) rfl)) sanB_ok.len) sanB_ok sanB_c),(map2 (cx.ou 71) (cx.co _))⟩) fun W55 hst55=>?_
 refine sqp [.k 73 (.bool true)] ?_
 refine sqp [.k 74 (.bool true), .k 0 (.bool true)] ?_
 refine then_normal (wp_ret ?_)
 refine bpr (.bool true) (results_1 Tryz.results5 rpt) ?_
 exact Ret.of rfl hst55.ext
end
section
open Go.RowKit
def shL (b:Nat) (LA:Option Addr) (lc n:Nat) (Ps Qs:List PgT):List Ent:=[eB b 46 #[.slice LA n lc],eO 102 3 (.slice LA n lc) n (Ps.flatMap ptC),ePt Qs]
def eSh (b:Nat) (ps:List PgS) (fp:List Nat):Ent:=⟨fp,fun W=>∃ LA lc Ps Qs,Ps.map abT=ps∧(∀ p∈Ps,p∈Qs)∧fp=(shL b LA lc ps.length Ps Qs).flatMap (·.fp)∧(shL b LA lc ps.length Ps Qs).Pairwise Ent.apart∧∀ e∈shL b LA lc ps.length Ps Qs,e.holds W∧e.loc⟩
theorem eSh_loc (b:Nat) (ps:List PgS) (fp:List Nat):(eSh b ps fp).loc:=fun W W' hk h=>by
 obtain ⟨LA,lc,Ps,Qs,h1,h2,h3,h4,h5⟩:=h
 exact ⟨LA,lc,Ps,Qs,h1,h2,h3,h4,fun e he=>⟨(h5 e he).2 W W' (fun k hk'=>hk k (by rw [eSh,h3]; exact List.mem_flatMap.2 ⟨e,he,hk'⟩)) (h5 e he).1,(h5 e he).2⟩⟩
theorem eSh_self {e:Ent} {b:Nat} {ps:List PgS} {fp:List Nat} (h:e=eSh b ps fp):e=eSh b ps e.fp:=by subst h; rfl
structure ShO (W:World) (b:Nat) (LA:Option Addr) (lc n:Nat) (Ps:List PgT):Prop where
 blk:Blk W b 46 #[.slice LA n lc]
 at_:At W LA (Ps.flatMap ptC)
 len:Ps.length=n
 its:∀ p∈Ps,At W p.A (p.its.map Value.string)
def ShAt (W:World) (b:Nat) (ps:List PgS):Prop:=∃ LA lc Ps,Ps.map abT=ps∧ShO W b LA lc ps.length Ps
theorem ShO.ext {W W':World} {b lc n:Nat} {LA:Option Addr} {Ps:List PgT} (h:ShO W b LA lc n Ps) (hx:Ext W W'):ShO W' b LA lc n Ps:=⟨h.blk.ext hx,h.at_.ext hx,h.len,fun p hp=>(h.its p hp).ext hx⟩
theorem eSh_at {b:Nat} {ps:List PgS} {fp:List Nat} {W:World} (h:(eSh b ps fp).holds W):ShAt W b ps:=by
 obtain ⟨LA,lc,Ps,Qs,h1,h2,h3,h4,h5⟩:=h
 have hl:Ps.length=ps.length:=by rw [← h1,List.length_map]
 refine ⟨LA,lc,Ps,h1,(h5 (eB b 46 #[.slice LA ps.length lc]) (List.mem_cons_self ..)).1,?_,hl,fun p hp=>ePt_at (h5 (ePt Qs) (by simp [shL])).1 (h2 p hp)⟩
 exact At.of_ownN (h5 (eO 102 3 (.slice LA ps.length lc) ps.length (Ps.flatMap ptC)) (by simp [shL])).1
theorem St.sh {w0 W:World} {bor:List Nat} {L:List Ent} {b lc n:Nat} {LA:Option Addr} {Ps Qs:List PgT} {ps:List PgS} (h:St w0 bor (L++shL b LA lc n Ps Qs) W) (h1:Ps.map abT=ps) (hn:ps.length=n) (h2:∀ p∈Ps,p∈Qs):∃ fp,St w0 bor (L++[eSh b ps fp]) W:=by
 subst hn
 refine ⟨_,St.pack (E:=eSh b ps ((shL b LA lc ps.length Ps Qs).flatMap (·.fp))) h rfl ⟨LA,lc,Ps,Qs,h1,h2,rfl,(List.pairwise_append.1 h.apart).2.1,fun e he=>?_⟩ (eSh_loc _ _ _)⟩
 have h3:=h.ok e (List.mem_append_right _ he)
 exact ⟨h3.holds,h3.loc⟩
def SdPost (b:Nat) (ps:List PgS) (fp:List Nat) (w:World) (e:Ending) (w':World):Prop:=e= .returned (.bool true)∧∃ fp',St w fp [eSh b ps fp'] w'
theorem pg_to {k k' l:Int} {L L':List ByteArray} {f:FuncId} {args:Array Value} {w:World} (h1:k=k') (h2:L=L') (hc:Calls Tryz.prog f args w (PgPost k l L 0 w)):Calls Tryz.prog f args w (PgPost k' l L' 0 w):=by subst h1 h2; exact hc
theorem edS_plain (p:PgS) (e:EdT) (n:Int):plainL (edS p e n).2.2=(edS p e n).2.2:=by
 unfold edS
 split
 ·rfl
 ·exact plain_idem _
theorem edS_lsn (p:PgS) (e:EdT) (n:Int):(edS p e n).2.1=n:=by unfold edS; split<;>rfl
theorem shdo_any (b:Nat) (sh:List PgS) (fp:List Nat) (N:Nat) (A:Option Addr) (c:Nat) (l:List EdT) (n:Int) (w:World) (hB:(eSh b sh fp).holds w) (hlt:∀ k∈fp,k < w.heap.size) (hL:∀ W,Upd fp w W→At W A (l.flatMap edC)) (hl:l.length≤100000) (hN:sh.length=N) (hNb:N≤1000) (hF:FitS sh) (hE:∀ e∈l,FitE N e) (hn:0≤n∧n≤1000):
  Calls Tryz.prog 17 #[.pointer (some ⟨b,0,none⟩), .slice A l.length c, .int .i64 n] w (SdPost b (doS sh l n) fp w):=by
 have st1:=St.lend hB (eSh_loc _ _ _) hlt
 obtain ⟨LA,lc,Ps,Qs,hps,hsub,hfp,hap,hall⟩:=hB
 have st0:=St.unpack st1 hfp hall hap
 rw [hN] at st0
 have hPl:Ps.length=N:=by rw [← hN,← hps,List.length_map]
 go_enter Tryz.func17,Tryz.ntmps17
 have hst0:=st0
 refine wp_seq (sqr (sqp [.k 6 (.bool false)] ?_))
 refine then_normal (wp_seq (wp_seq (sqr (sqp [.k 7 (vi 0)] ?_))))
 refine then_normal (wp_block ?_)
 refine wp_loopT (fun t_ mz az W=>∃ k:Nat,∃ Ps:List PgT,∃ Qs:List PgT,k≤l.length∧Ps.map abT=doS sh (l.take k) n∧(∀ p∈Ps,p∈Qs)∧Ps.length=N∧mz=l.length - k∧az=⟨(ovr (jv az) [(6,6,1,[vi ((k:Int))]),(0,8,72,[])] t_).toArray,[]⟩∧St w fp [eB b 46 #[.slice LA N lc],eO 102 3 (.slice LA N lc) N (Ps.flatMap ptC),ePt Qs] W) (l.length - 0) ?_ ?_
 · -- the loop begins
   exact ⟨0,Ps,Qs,Nat.zero_le _,hps,hsub,hPl,rfl,(by kernel_rfl),hst0.pk [0,1,2]⟩
 rintro n3 a3 W3 ⟨k,Ps,Qs,hk,hPs,hsub,hPl,rfl,hj_,hst3⟩
 refine ovz hj_ fun u3_=>?_
 refine wp_seq (wp_seq (sqr (sqp [.m 15 7, .m 16 1, .k 17 (vi ((l.length:Int))), .k 18 (.bool (decide ((k:Int) < (l.length:Int))))] ?_)))
 refine then_normal (wds (fun hs8 hs8p=>?_) fun hs8 hs8p=>?_)
 ·refine wp_skip (then_normal (wp_seq (wp_block (wp_seq ?_))))
  obtain ⟨ep,es,eb,hek⟩:=getEdT (l:=l) (k:=k) (by omega)
  obtain ⟨hkl_,hke_⟩:=List.getElem?_eq_some_iff.1 hek
  have hfe:=hE (ep,es,eb) (by rw [← hke_]; exact List.getElem_mem hkl_)
  have hfe1:0≤ep∧ep < N:=hfe.1
  obtain ⟨pg,hN_pg⟩:∃ z,Ps.getD (ep).toNat pt0=z:=⟨_,rfl⟩
  have hpg:=getD_mem' (l:=Ps) (n:=(ep).toNat) (d:=pt0) (by omega)
  rw [hN_pg] at hpg
  have hgD:(doS sh (l.take k) n).getD (ep).toNat pgs0=(pg.k,pg.l,pg.its):=by rw [← hPs,getD_abT,hN_pg]; rfl
  have hFk:=fit_do (l:=l.take k) hF (fun e he=>by rw [hN]; exact hE e (List.mem_of_mem_take he)) hn
  have hfp_:FitP (pg.k,pg.l,pg.its):=by rw [← hgD]; exact hFk _ (getD_mem' (by rw [doS_len,hN]; omega)).2
  have hq_:=(fit_ed hfp_ hfe hn).1
  obtain ⟨q,hq⟩:∃ z,edS (pg.k,pg.l,pg.its) (ep,es,eb) n=z:=⟨_,rfl⟩
  have hqp:=edS_plain (pg.k,pg.l,pg.its) (ep,es,eb) n
  have hql:=edS_lsn (pg.k,pg.l,pg.its) (ep,es,eb) n
  rw [hq] at hq_ hqp hql
  obtain ⟨qk,ql,qs⟩:=q
  have hql:ql=n:=hql
  subst hql
  have hqp:plainL qs=qs:=hqp
  have hqr:=fit_right hq_
  have hqS:=fit_small hq_
  have hd1:doS sh (l.take (k+1)) ql=(doS sh (l.take k) ql).set (ep).toNat (qk,ql,qs):=by rw [doS_take hkl_,hke_,do1S,hgD,hq]
  refine sqr (sqp [.m 21 1, .m 22 7] ?_)
  refine sql (.pointer (some ((ad A).add (k*3)))) hst3 (fun cx=>run_indexSlM (e:=67) (m:=k) (sz:=3) rfl (by kernel_rfl) (by kernel_rfl) (cx.ou 21) (cx.ou 22) (by omega) (by omega) (hL _ cx.upd) (flatPos (sz:=3) edC_len (by decide) (by omega))) ?_
  refine sql (.agg #[vi ep,vi es, .string eb]) hst3 (fun cx=>run_loadElt (f:=edC) (m:=k) (sz:=3) (off:=0) (n:=3) rfl (by kernel_rfl) (by kernel_rfl) (cx.ou 23) rfl edC_len (hL _ cx.upd) hek (fun k hk=>match k,hk with | 0, _=>rfl | 1, _=>rfl | 2, _=>rfl | k+3,hk=>absurd hk (by omega))) ?_
  refine sqal #[vi 0,vi 0, .string ByteArray.empty] hst3 fun B8_13 W13 hst13=>?_
  refine sqst (n:=3) 3 #[vi ep,vi es, .string eb] hst13 fun W14 hst14=>?_
  refine then_normal (wp_seq (wp_seq ?_))
  have hd16:(decide (ep < 0))=false:=(decide_eq_false (by omega))
  have hd17:(decide ((N:Int)≤ep))=false:=(decide_eq_false (by omega))
  refine wp_region_Z [0,1,3,7,15,31,15,79,207,463,975,2047,4095] [[],[3],[],[],[],[3],[],[],[],[0]] [.k 25 (vp B8_13), .c 26 (vi ep), .e 27 (.bool (decide (ep < 0))) (.bool false) (congrArg Value.bool hd16), .k 28 (.bool false), .k 29 (vp B8_13), .c 30 (vi ep), .k 31 (vp b), .k 32 (vp b), .k 33 (vp b), .c 34 (.slice LA N lc), .k 35 (vi ((N:Int))), .e 36 (.bool (decide ((N:Int)≤ep))) (.bool false) (congrArg Value.bool hd17), .k 37 (.bool false)] [0,1,2,3] [1,5,9] [(25,0,13,38)] hst14 ?_ fun W15 hst15=>?_
  ·refine ⟨?_,?_,?_,trivial⟩
   ·exact xs4 rfl id fun cx=>run_load1 rfl (by kernel_rfl) (cx.an 0) ((cx.bi 3 rfl).cell 0)
   ·exact xs5 rfl id (fun cx=>(cx.an 3)) fun cx=>run_load1 rfl (by kernel_rfl) (cx.an 4) ((cx.bi 3 rfl).cell 0)
   ·exact xs5 rfl id (fun cx=>(cx.an 3)) fun cx=>run_load1 rfl (by kernel_rfl) (cx.an 8) ((cx.bi 0 rfl).cell 0)
  refine then_normal (wcf rfl (wp_skip (then_normal (wp_seq (wp_region_Y [0,1,3,7,0,16,63,127,0,0,1023,2047,4095,4095,0,24575,65535] [[],[],[],[0],[],[3],[1],[1],[3],[],[2],[],[],[],[],[5]] [[],[],[],[],[],[],[],[],[],[],[4],[],[],[],[5],[6]] [[],[],[],[],[],[],[],[],[],[],[],[],[],[],[],[5]] [.k 39 (vp b), .k 40 (vp b), .k 41 (vp b), .c 42 (.slice LA N lc), .k 43 (vp B8_13), .c 44 (vi ep), .c 45 (.pointer (some ((ad LA).add (((ep).toNat)*3)))), .c 46 (.agg #[vi pg.k,vi pg.l, .slice pg.A pg.its.length pg.c]), .c 47 (.agg #[vi ep,vi es, .string eb]), .k 48 (vi ql), .a 49, .a 38, .a 50, .c 51 (vi 0), .a 9, .n, .k 10 (vi 0)] (fun ix σ β X=>match ix with | 0=>True | 1=>True | 2=>True | 3=>True | 4=>True | 5=>True | 6=>True | 7=>True | 8=>True | 9=>True | 10=>σ 49= .tuple #[.agg #[vi qk,vi ql, .slice (sA (tg (tg (β 49) 0) 2)) qs.length (sC (tg (tg (β 49) 0) 2))],vi 0]∧X 4=eO 9 1 (.slice (sA (tg (tg (β 49) 0) 2)) qs.length (sC (tg (tg (β 49) 0) 2))) qs.length (qs.map Value.string) | 11=>σ 38= .tuple #[.agg #[vi qk,vi ql, .slice (sA (tg (tg (β 49) 0) 2)) qs.length (sC (tg (tg (β 49) 0) 2))],vi 0] | 12=>σ 50= .agg #[vi qk,vi ql, .slice (sA (tg (tg (β 49) 0) 2)) qs.length (sC (tg (tg (β 49) 0) 2))] | 13=>True | 14=>σ 9=vp (pb (β 9))∧X 5=eB (pb (β 9)) 102 #[vi 0,vi 0, .slice none 0 0] | 15=>X 6=eB (pb (β 9)) 102 #[vi qk,vi ql, .slice (sA (tg (tg (β 49) 0) 2)) qs.length (sC (tg (tg (β 49) 0) 2))] | _=>True) [0,1,2,3,4,6] [3,5,6,7,8,10,11,12,13,14,15] [(9,14,3,11),(27,11,1,28),(0,0,11,11),(0,12,2,2)] hst15 ?_ ?_ ?_)))))
  ·exact fun ix _ _ _ _ _ _ hs hb hx h=>match ix,h with
   | 10,h=>by dsimp only; rw [← hs 49 rfl,← hb 49 rfl,← hx 4 rfl]; exact h
   | 11,h=>by dsimp only; rw [← hs 38 rfl,← hb 49 rfl]; exact h
   | 12,h=>by dsimp only; rw [← hs 50 rfl,← hb 49 rfl]; exact h
   | 14,h=>by dsimp only; rw [← hs 9 rfl,← hb 9 rfl,← hx 5 rfl]; exact h
   | 15,h=>by dsimp only; rw [← hb 9 rfl,← hb 49 rfl,← hx 6 rfl]; exact h
   | 0, _ | 1, _ | 2, _ | 3, _ | 4, _ | 5, _ | 6, _ | 7, _ | 8, _ | 9, _ | 13, _ | _+16, _=>trivial
  ·refine ⟨?_,?_,?_,?_,?_,?_,?_,?_,?_,?_,?_,trivial⟩
   ·exact xs4 rfl id fun cx=>run_load1 rfl (by kernel_rfl) (cx.an 2) ((cx.bi 0 rfl).cell 0)
   ·exact xs4 rfl id fun cx=>run_load1 rfl (by kernel_rfl) (cx.an 4) ((cx.bi 3 rfl).cell 0)
   ·exact xs4 rfl id fun cx=>run_indexSlM (e:=102) (m:=(ep).toNat) (sz:=3) rfl (by kernel_rfl) (by kernel_rfl) (cx.an 3) (cx.an 5) (by omega) (by omega) (At.of_ownN (cx.ri 1 rfl)) (flatPos (sz:=3) ptC_len (by decide) (by omega))
   ·exact xs4 rfl id fun cx=>run_loadElt (f:=ptC) (m:=((ep).toNat)) (sz:=3) (off:=0) (n:=3) rfl (by kernel_rfl) (by kernel_rfl) (cx.an 6) rfl ptC_len (At.of_ownN (cx.ri 1 rfl)) hpg.1 (fun k hk=>match k,hk with | 0, _=>rfl | 1, _=>rfl | 2, _=>rfl | k+3,hk=>absurd hk (by omega))
   ·exact xs4 rfl id fun cx=>run_loadB (n:=3) rfl (by kernel_rfl) (by kernel_rfl) (cx.ou 8) (cx.bi 3 rfl) (nle rfl) rfl
   ·refine svA fun ρ β W X cx=>?_
    refine DoesU.call (run_callF (args:=#[.agg #[vi pg.k,vi pg.l, .slice pg.A pg.its.length pg.c], .agg #[vi ep,vi es, .string eb],vi ql]) rfl cx.sees rfl (by kernel_rfl) (map3 (cx.an 7) (cx.an 8) (cx.an 9))) ?_
    refine (pg_to (congrArg (fun z=>z.1) hq) (congrArg (fun z=>z.2.2) hq) (pgdo_f pg.k pg.l pg.A pg.c pg.its ep es eb ql N _ (ePt_at (CtxV.holdF cx (cx.init 2 _ rfl) rfl) (hsub _ hpg.2)) hfp_ hfe hn)).mono ?_
    rintro e W1 ⟨A4,c4,rfl,ho,hx⟩
    refine ⟨_,rfl,post_call [eO 9 1 (.slice A4 (qs.length) c4) (qs.length) (qs.map Value.string)] rfl rfl hx (one_new (eO_new ho)) (List.pairwise_singleton _ _) (fun σ β' X' hs hb hv hN=>?_)⟩
    have hv1:=(hv 49 rfl).1; have hv2:=(hv 49 rfl).2
    exact ⟨hv1.trans (by rw [hv2]; rfl),(by rw [hv2]; exact (List.cons.inj hN).1)⟩
   ·exact sv rfl rfl rfl rfl rfl _ (fun _ _ _ h=>h) (fun β β' h=>by rw [h 49 (by decide)]) fun ρ β W X cx=>run_move' rfl (dTn (cx.an 10)).1
   ·exact sv rfl rfl rfl rfl rfl _ (fun _ _ _ h=>h) (fun β β' h=>by rw [h 49 (by decide)]) fun ρ β W X cx=>run_extract' rfl (dTn (cx.an 11)) rfl
   ·exact xs4 rfl id fun cx=>run_extract' rfl (dTn (cx.an 11)) rfl
   ·refine svA fun ρ β W X cx=>?_
    exact dv_alloc (cs:=#[vi 0,vi 0, .slice none 0 0]) rfl (by kernel_rfl) rfl rfl (fun σ β' X' hs hb hv hx=>⟨hv,hx⟩)
   ·refine svA fun ρ β W X cx=>?_
    exact dv_store (n:=3) rfl (dTn (cx.an 14)).1 (dTn (cx.an 12)) (by kernel_rfl) (by kernel_rfl) (by kernel_rfl) cx (dTn (cx.an 14)).2 rfl (nle rfl) (by kernel_rfl) rfl rfl rfl (fun σ β' X' hs hb hx=>by rw [hb 9,hb 49]; exact hx)
  intro σ β X W18 hD hst18 fr hfr
  obtain ⟨A49_18,hu_A49_18⟩:∃ z,sA (tg (tg (β 49) 0) 2)=z:=⟨_,rfl⟩
  obtain ⟨c49_18,hu_c49_18⟩:∃ z,sC (tg (tg (β 49) 0) 2)=z:=⟨_,rfl⟩
  obtain ⟨B9_18,hu_B9_18⟩:∃ z,pb (β 9)=z:=⟨_,rfl⟩
  simp only [exq 4 ((dTn (hD 10 lq)).2),exq 6 ((dTn (hD 15 lq))),hu_A49_18,hu_c49_18,hu_B9_18] at hst18
  simp only [ed 49 ((dTn (hD 10 lq)).1),ed 38 ((dTn (hD 11 lq))),ed 50 ((dTn (hD 12 lq))),ed 9 ((dTn (hD 14 lq)).1),hu_A49_18,hu_c49_18,hu_B9_18] at hfr
  clear hD hu_A49_18 hu_c49_18 hu_B9_18; subst hfr; clear σ β X
  refine then_normal (wp_seq (sqr ?_))
  refine sqlb 5 3 hst18 ?_
  refine sqk (.tuple #[.string ((bytesF qk ql (plainL qs))),vi 0]) hst18 (fun cx=>⟨_,bytes_fit hqr (pgbytes_any qk ql _ _ qs _ (At.of_own (cx.ri 4 rfl)) hqS),(map1 (cx.ou 53))⟩) fun W20 hst20=>?_
  refine sqp [.m 52 54, .k 55 (.string ((bytesF qk ql (plainL qs)))), .k 56 (vi 0), .m 11 55, .m 12 56] ?_
  refine then_normal (wp_seq (sqr (sqp [.m 58 11] ?_)))
  refine sqk2 (fun A59_27 c59_27=> .tuple #[.agg #[vi qk,vi ql, .slice A59_27 qs.length c59_27],vi 0]) (fun A59_27 c59_27=>eO 9 1 (.slice A59_27 qs.length c59_27) qs.length (qs.map Value.string)) hst20 (fun cx=>⟨_,(pg_to rfl hqp (pgread_any qk ql qs _ hqr)).mono (by rintro e W1 ⟨A4,c4,rfl,ho,hx⟩; exact ⟨_, _,rfl,St.one hx (eO_new ho)⟩),(map1 (cx.ou 58))⟩) fun A59_27 c59_27 W27 hst27=>?_
  refine sqp [.m 57 59, .k 60 (.agg #[vi qk,vi ql, .slice A59_27 qs.length c59_27]), .k 61 (vi 0)] ?_
  refine sqal #[vi 0,vi 0, .slice none 0 0] hst27 fun B13_31 W31 hst31=>?_
  refine sqst (n:=3) 7 #[vi qk,vi ql, .slice A59_27 qs.length c59_27] hst31 fun W32 hst32=>?_
  refine sqp [.m 14 61] ?_
  refine then_normal (wp_seq (wp_seq (sqr (sqp [.m 62 10, .k 63 (.bool false), .k 64 (.bool false)] ?_))))
  refine sqgy 64 [65,66] rfl rfl ?_
  refine sqp [.m 65 12, .k 66 (.bool false)] ?_
  refine sqp [.k 67 (.bool false), .k 68 (.bool false)] ?_
  refine sqgy 68 [69,70] rfl rfl ?_
  refine sqp [.m 69 14, .k 70 (.bool false)] ?_
  refine sqp [.k 71 (.bool false)] ?_
  refine then_normal (wcf rfl (wp_skip (then_normal (wp_region_Y [0,1,3,7,0,16,0,127,255] [[],[],[],[0],[],[3],[7],[1],[1]] [[],[],[],[],[],[],[],[],[8]] [[],[],[],[],[],[],[],[],[1]] [.k 72 (vp b), .k 73 (vp b), .k 74 (vp b), .c 75 (.slice LA N lc), .k 76 (vp B8_13), .c 77 (vi ep), .c 78 (.agg #[vi qk,vi ql, .slice A59_27 qs.length c59_27]), .c 79 (.pointer (some ((ad LA).add (((ep).toNat)*3)))), .n] (fun ix σ β X=>match ix with | 0=>True | 1=>True | 2=>True | 3=>True | 4=>True | 5=>True | 6=>True | 7=>True | 8=>X 8=eO 102 3 (.slice LA N lc) N ((Ps.set (ep).toNat (PgT.mk qk ql A59_27 c59_27 qs)).flatMap ptC) | _=>True) [0,2,3,4,5,6,7,8] [3,5,6,7,8] [(72,0,8,80)] hst32 ?_ ?_ ?_))))
  ·exact fun ix _ _ _ _ _ _ hs hb hx h=>match ix,h with
   | 8,h=>by dsimp only; rw [← hx 8 rfl]; exact h
   | 0, _ | 1, _ | 2, _ | 3, _ | 4, _ | 5, _ | 6, _ | 7, _ | _+9, _=>trivial
  ·refine ⟨?_,?_,?_,?_,?_,trivial⟩
   ·exact xs4 rfl id fun cx=>run_load1 rfl (by kernel_rfl) (cx.an 2) ((cx.bi 0 rfl).cell 0)
   ·exact xs4 rfl id fun cx=>run_load1 rfl (by kernel_rfl) (cx.an 4) ((cx.bi 3 rfl).cell 0)
   ·exact xs4 rfl id fun cx=>run_loadB (n:=3) rfl (by kernel_rfl) (by kernel_rfl) (cx.ou 13) (cx.bi 7 rfl) (nle rfl) rfl
   ·exact xs4 rfl id fun cx=>run_indexSlM (e:=102) (m:=(ep).toNat) (sz:=3) rfl (by kernel_rfl) (by kernel_rfl) (cx.an 3) (cx.an 5) (by omega) (by omega) (At.of_ownN (cx.ri 1 rfl)) (flatPos (sz:=3) ptC_len (by decide) (by omega))
   ·refine svA fun ρ β W X cx=>?_
    exact dv_storeElt (m:=((ep).toNat)*3) (n:=N) (sz:=3) (k:=3) rfl (cx.an 7) (cx.an 6) (by kernel_rfl) (by kernel_rfl) (by kernel_rfl) cx (cx.init 1 _ rfl) rfl (by omega) (by decide) rfl (putL_flat ptC_len (by omega) (PgT.mk qk ql A59_27 c59_27 qs)) rfl rfl (fun σ β' X' hs hb hx=>hx)
  intro σ β X W44 hD hst44 fr hfr
  simp only [exq 8 ((dTn (hD 8 lq)))] at hst44
  clear hD; subst hfr; clear σ β X
  refine blk_normal (then_normal (sqr (sqp [.m 19 7,sI 20 ((k:Int)+1) (by omega), .m 7 20] ?_)))
  refine then_normal ?_
  have hm48:=St.mergeT (Qs:=Qs) (p:=(PgT.mk qk ql A59_27 c59_27 qs)) (L:=[eB b 46 #[.slice LA N lc],eO 102 3 (.slice LA N lc) N ((Ps.set (ep).toNat (PgT.mk qk ql A59_27 c59_27 qs)).flatMap ptC)]) (hst44.pick [0,7,1,5] (by decide) rfl)
  refine ⟨l.length - ((k+1)),by omega,?_⟩
  exact ⟨(k+1),(Ps.set (ep).toNat (PgT.mk qk ql A59_27 c59_27 qs)),(Qs++[(PgT.mk qk ql A59_27 c59_27 qs)]),by omega,by rw [hd1,map_setT,hPs]; rfl,memT hsub _ _,by rw [List.length_set]; exact hPl,rfl,(by kernel_rfl),hm48.pk [0,1,2]⟩
 refine wp_exit (then_exit (then_exit (blk_eq (then_normal (wp_seq (sqr (sqp [.k 6 (.bool true)] ?_)))))))
 refine then_normal (wp_ret ?_)
 refine bpr (.bool true) (results_1 Tryz.results17 rpt) ?_
 rw [List.take_of_length_le (by omega)] at hPs
 have hpk_:=hst3.pick [0,1,2] (by decide) rfl
 exact ⟨rfl,St.sh (L:=[]) hpk_ hPs (by rw [doS_len,hN]) hsub⟩
theorem kstep_0 (b:Nat) (root pos leaf fro too:Int) (spl:Bool) (LA:Option Addr) (lc:Nat) (tt:TypeId) (tv:Value) (ps:List PgS) (fresh:Int) (fp g:List Nat) (w:World) (hb:Blk w b 123 #[.int .i64 root, .int .i64 pos, .int .i64 leaf, .slice LA 0 lc, .int .i64 fro, .int .i64 too, .bool spl]) (hfp:fp=b::g) (hbg:b∉g) (hlt:∀ k∈g,k < w.heap.size):
  Calls Tryz.prog 21 #[.pointer (some ⟨b,0,none⟩), .iface tt (tv), .int .i64 fresh] w (KtPost b (stepF ps ⟨root,pos,leaf,[],fro,too,spl⟩ fresh) fp w):=by
 have st0:=St.lend (E:=eB b 123 #[.int .i64 root, .int .i64 pos, .int .i64 leaf, .slice LA 0 lc, .int .i64 fro, .int .i64 too, .bool spl]) hb (eB_loc _ _ _) (fun k hk=>by simp [eB] at hk; subst hk; exact hb.lt)
 go_enter Tryz.func21,Tryz.ntmps21
 have hst0:=st0
 refine wp_seq (sqr (sqp [.k 6 (.slice none 0 0), .k 7 (.bool false), .k 8 (vi 0)] ?_))
 refine then_normal (wp_seq (wp_seq (sqr (sqp [.m 14 0] ?_))))
 refine sqv (.bool false) hst0 (by
   exact sv0 rfl rfl rfl rfl rfl (fun _ _ _ h=>h) fun ρ β W X cx=>by
    have fF14:ρ (.tmp 14)=vp b:=(cx.ou 14)
    simp [go_sem,cx.sees.const,fF14]) fun W5 hst5=>?_
 refine then_normal (wcf rfl (wp_skip (then_normal (wp_seq (sqr (sqp [.m 16 0, .m 17 0, .m 18 0, .k 19 (vp b), .k 20 (.pointer (some ⟨b,4,none⟩))] ?_))))))
 refine sqst (n:=1) 0 #[vi root,vi pos,vi leaf, .slice LA 0 lc,vi 0,vi too, .bool spl] hst5 fun W11 hst11=>?_
 refine sqp [.k 21 (vp b), .k 22 (.pointer (some ⟨b,5,none⟩))] ?_
 refine sqst (n:=1) 0 #[vi root,vi pos,vi leaf, .slice LA 0 lc,vi 0,vi 0, .bool spl] hst11 fun W14 hst14=>?_
 refine sqp [.k 23 (vp b), .k 24 (.pointer (some ⟨b,6,none⟩))] ?_
 refine sqst (n:=1) 0 #[vi root,vi pos,vi leaf, .slice LA 0 lc,vi 0,vi 0, .bool false] hst14 fun W17 hst17=>?_
 refine then_normal (wp_seq (wp_seq (sqr (sqp [.m 25 0, .k 26 (vp b), .k 27 (.pointer (some ⟨b,3,none⟩))] ?_))))
 refine sqld 0 hst17 ?_
 refine sqp [.k 29 (vi 0), .k 30 (.bool true)] ?_
 refine then_normal (wct rfl (wp_seq (sqr (sqp [.k 6 (.slice none 0 0), .k 7 (.bool false), .k 8 (vi 0)] ?_))))
 refine then_normal (wp_ret (then_ret ?_))
 refine bpr (.tuple #[.slice none 0 0, .bool false,vi 0]) (results_3 Tryz.results21 rpt rpt rpt) ?_
 have hn27:=nilrowN hst17 67 3
 simp only [List.cons_append,List.nil_append] at hn27
 have hpk_:=hn27.pick [0,1] (by decide) rfl
 exact ⟨_, _,rfl,pk_old (p:=⟨root,pos,leaf,[],0,0,false⟩) hpk_ hfp hbg hlt (Nat.zero_le _) (At.nil _ _) (fun ad e h=>absurd rfl h)⟩
theorem shpage_o (b:Nat) (LA:Option Addr) (lc n:Nat) (Ps:List PgT) (ps:List PgS) (x:Int) (w:World) (hB:ShO w b LA lc n Ps) (hps:Ps.map abT=ps) (hl:n≤1000):
  Calls Tryz.prog 156 #[.pointer (some ⟨b,0,none⟩), .int .i64 x] w (Ret (pgT ps x (pgR Ps x).A (pgR Ps x).c) w):=by
 have hPl:=hB.len
 go_enter Tryz.func156,Tryz.ntmps156
 have hst0:=St.start w
 refine wp_seq (sqr (sqal #[vi 0,vi 0, .slice none 0 0] hst0 fun B4_1 W1 hst1=>?_))
 refine sqp [.k 5 (.bool false)] ?_
 refine then_normal (wp_seq (wp_seq (sqr (sqp [.m 6 1, .k 7 (.bool (decide (x < 0))), .m 8 7] ?_))))
 refine sqw' 8 [9,10,11,12,13,14,15] ?_ rfl (fun hq=>?_) ?_
 rotate_left
 ·refine sqp [.m 9 1, .m 10 0, .k 11 (vp b), .k 12 (vp b)] ?_
  refine sql (.slice LA n lc) hst1 (fun cx=>run_load1 rfl (by kernel_rfl) (cx.ou 12) ((Blk.ext hB.blk cx.upd.to_ext).cell 0)) ?_
  refine sqp [.k 14 (vi ((n:Int))), .k 15 (.bool (decide ((n:Int)≤x)))] ?_
  exact sqe
 refine sqwx ?_
 refine sqp [sPo 16 (decide (x < 0)) (decide ((n:Int)≤x))] ?_
 refine then_normal (wbs (fun hs14=>?_) fun hs14=>?_)
 ·have hs14p:=hs14
  simp only [zB] at hs14p
  refine wp_seq (sqr (sqp [.k 17 (.agg #[vi 0,vi 0, .slice none 0 0])] ?_))
  refine sqst (n:=3) 0 #[vi 0,vi 0, .slice none 0 0] hst1 fun W16 hst16=>?_
  refine sqp [.k 5 (.bool false)] ?_
  refine then_normal (wp_ret (then_ret ?_))
  refine bpr (.tuple #[.agg #[vi 0,vi 0, .slice none 0 0], .bool false]) (results_2 Tryz.results156 (rpa (hst16.blk 0 rfl) 0 3) rpt) ?_
  exact Ret.of (by rw [← hps,pg_none (Ps:=Ps) (x:=x) (by omega)]) hst16.ext
 have hs14p:=hs14
 simp only [zB] at hs14p
 obtain ⟨hs14p1,hs14p2⟩:=hs14p
 refine wp_skip (then_normal (wp_seq ?_))
 obtain ⟨N,rfl⟩:∃ N:Nat,x=(N:Int):=⟨x.toNat,by omega⟩
 obtain ⟨p,hN_p⟩:∃ z,Ps.getD N pt0=z:=⟨_,rfl⟩
 have hp:=getD_mem' (l:=Ps) (n:=N) (d:=pt0) (by omega)
 rw [hN_p] at hp
 refine sqr (sqp [.m 18 0, .k 19 (vp b), .k 20 (vp b)] ?_)
 refine sql (.slice LA n lc) hst1 (fun cx=>run_load1 rfl (by kernel_rfl) (cx.ou 20) ((Blk.ext hB.blk cx.upd.to_ext).cell 0)) ?_
 refine sqp [.m 22 1] ?_
 refine sql (.pointer (some ((ad LA).add (N*3)))) hst1 (fun cx=>run_indexSlM (e:=102) (m:=N) (sz:=3) rfl (by kernel_rfl) (by kernel_rfl) (cx.ou 21) (cx.ou 22) (by omega) (by omega) (hB.at_.ext cx.upd.to_ext) (flatPos (sz:=3) ptC_len (by decide) (by omega))) ?_
 refine sql (.agg #[vi p.k,vi p.l, .slice p.A p.its.length p.c]) hst1 (fun cx=>run_loadElt (f:=ptC) (m:=N) (sz:=3) (off:=0) (n:=3) rfl (by kernel_rfl) (by kernel_rfl) (cx.ou 23) rfl ptC_len (hB.at_.ext cx.upd.to_ext) hp.1 (fun k hk=>match k,hk with | 0, _=>rfl | 1, _=>rfl | 2, _=>rfl | k+3,hk=>absurd hk (by omega))) ?_
 refine sqst (n:=3) 0 #[vi p.k,vi p.l, .slice p.A p.its.length p.c] hst1 fun W25 hst25=>?_
 refine sqp [.k 5 (.bool true)] ?_
 refine then_normal (wp_ret ?_)
 refine bpr (.tuple #[.agg #[vi p.k,vi p.l, .slice p.A p.its.length p.c], .bool true]) (results_2 Tryz.results156 (rpa (hst25.blk 0 rfl) 0 3) rpt) ?_
 exact Ret.of (by rw [← hps,pg_some (by omega) hN_p]) hst25.ext
theorem shpage_any (b:Nat) (ps:List PgS) (x:Int) (w:World) (hB:ShAt w b ps) (hl:ps.length≤1000):∃ A c,At w A ((pgV ps x).2.2.map Value.string)∧∀ W,Ext w W→Calls Tryz.prog 156 #[.pointer (some ⟨b,0,none⟩), .int .i64 x] W (Ret (pgT ps x A c) W):=by
 obtain ⟨LA,lc,Ps,h1,h2⟩:=hB
 refine ⟨(pgR Ps x).A,(pgR Ps x).c,?_,fun W hW=>shpage_o b LA lc _ Ps ps x W (h2.ext hW) h1 hl⟩
 by_cases h:0≤x∧x < Ps.length
 ·obtain ⟨N,rfl⟩:∃ N:Nat,x=(N:Int):=⟨x.toNat,by omega⟩
  obtain ⟨e1,e3⟩:=pg_at (Ps:=Ps) (N:=N) (by omega) rfl
  rw [← h1,e1,e3]
  exact h2.its _ (getD_mem' (by omega)).2
 ·have e1:pgV ps x=pgs0:=by rw [← h1,pgV,if_neg (by rw [List.length_map]; exact h)]
  rw [e1]; exact At.nil _ _
theorem sh_ok {b:Nat} {ps:List PgS} {w:World} (h:ShAt w b ps) (hl:ps.length≤1000):PgsOk w 43 (.pointer (some ⟨b,0,none⟩)) ps:=
 ⟨⟨156, _,fun W=>by kernel_rfl,by kernel_rfl,fun x=>shpage_any b ps x w h hl⟩⟩
/-- an insertion's step over any pages -/
theorem kstep_h {b:Nat} {tt:TypeId} {tv:Value} {ps:List PgS} {p:PuT} {fresh:Int} {fp:List Nat} {w:World} (h:(ePk b p fp).holds w) (hS:∀ W,Upd fp w W→PgsOk W tt tv ps) (hok:OkS ps) (hoc:OkC ps) (h10:p.left.length≤10000) (hte:∀ t∈p.left,t.1.size≤900000∧0≤t.2.1∧t.2.1≤90000) (hfr: -1≤fresh∧fresh≤1000000):
  Calls Tryz.prog 21 #[.pointer (some ⟨b,0,none⟩), .iface tt tv, .int .i64 fresh] w (KtPost b (stepF ps p fresh) fp w):=by
 obtain ⟨A,c,g,hfp,hbg,hc,hAg,hlt,hb,hA⟩:=h
 obtain ⟨root,pos,leaf,left,fro,too,spl⟩:=p
 cases left with
 | nil=>exact kstep_0 b root pos leaf fro too spl A c _ _ ps fresh fp g w hb hfp hbg hlt
 | cons t lf=>
   obtain ⟨te,tl,tk⟩:=t
   obtain ⟨la,rfl, _, _⟩:=hA 0 (.string te) rfl
   have hg:=hAg la rfl (by simp)
   have ht:=hte (te,tl,tk) (by simp)
   refine kstep_g b _ _ root pos leaf fro too spl la _ c te tl tk lf ps fresh fp g w hb (fun W hW=>?_) rfl hc h10 (fun W hW=>hS W (hW.mono fun k _ hk=>by rw [hfp,List.mem_singleton.1 hk]; simp)) hok hoc hfp hbg hlt hg ht.1 ht.2 hfr
   refine at_blocks hA fun ad e _=>?_
   rw [← Option.some.inj e]
   exact hW.block _ (hlt _ hg) (fun hm=>hbg (by rw [List.mem_singleton] at hm; exact hm ▸ hg))
end
section
open Go.RowKit
theorem rm_toZ {R R':List EdT×Bool} {f:FuncId} {args:Array Value} {w:World} (h:R=R') (hc:Calls Tryz.prog f args w (RmPost R w)):Calls Tryz.prog f args w (RmPost R' w):=h ▸ hc
theorem un_toZ {R R':List EdT×Int×Int} {f:FuncId} {args:Array Value} {w:World} (h:R=R') (hc:Calls Tryz.prog f args w (UnPost R w)):Calls Tryz.prog f args w (UnPost R' w):=h ▸ hc
theorem al_toZ {R R':List EnD} {f:FuncId} {args:Array Value} {w:World} (h:R=R') (hc:Calls Tryz.prog f args w (AlPost R w)):Calls Tryz.prog f args w (AlPost R' w):=h ▸ hc
theorem kentry_z {x:ByteArray} (w:World) (h:entF (qkF x) (opF x) (osF x)=x) (hk:(qkF x).size≤1000):Calls Tryz.prog 25 #[.string (qkF x), .agg #[.int .i64 (opF x), .int .i64 (osF x)]] w (Ret (.string x) w):=by
 have h1:=kentry_any (qkF x) (opF x) (osF x) w (by omega)
 rw [h] at h1
 exact h1
theorem tqS_getZ {E:List EnD} {k:Nat} (h:k < E.length):(E.map tqS)[k]? =some (.string (qkF (E.getD k en0).1)):=by simp [tqS,h]
theorem unl_lenZ {ab:List (Int×NoD)} {root:Int}:∀ {ah:Option (Int×NoD)} {l:List (Int×NoD)},(unlG ab root ah l).1.length≤4
 | _,[]=>by rw [unlG]; exact Nat.zero_le _
 | ah,n::l=>by
   rw [unlG]
   rcases unOk ab root n with _ | ⟨i,j⟩
   ·exact unl_lenZ
   ·dsimp only
    unfold unE
    cases ah<;>simp
theorem off_lenZ {S:List Nat} {k:Nat} (hd:S.Nodup):(offS S k).length=if k∈S then S.length - 1 else S.length:=by
 induction S with
 | nil=>rfl
 | cons x S ih=>
   obtain ⟨h1,h2⟩:=List.nodup_cons.1 hd
   have ih:=ih h2
   by_cases h:x=k
   ·subst h
    have e:offS (x::S) x=offS S x:=by simp [offS]
    rw [e,ih,if_neg h1,if_pos (by simp),List.length_cons]; omega
   ·have e:offS (x::S) k=x::offS S k:=by
     simp [offS,h]
    rw [e,List.length_cons,ih]
    by_cases hk:k∈S
    ·rw [if_pos hk,if_pos (by simp [hk]),List.length_cons]
     have:=List.length_pos_of_mem hk
     omega
    ·rw [if_neg hk,if_neg (by simp [hk]; exact fun e=>h e.symm),List.length_cons]
theorem off_cnt {S:List Nat} {k:Nat} {b:Bool} {x:Int} (hd:S.Nodup) (hb:b=decide (k∈S)) (hx:x=(S.length:Int)):(if b then x - 1 else x)=((offS S k).length:Int):=by
 subst hb hx
 rw [off_lenZ hd]
 by_cases hk:k∈S
 ·have:=List.length_pos_of_mem hk
  rw [if_pos hk,if_pos (decide_eq_true hk)]; omega
 ·rw [if_neg hk,if_neg (by simp [hk])]
theorem pc_startE {l:List Int} {i m:Nat} {sh ps:List PgS} {nx:Int} (h:PgA l i sh ps nx) (e:i=m) (hm:m≤60):PgC l (List.range m) sh ps:=by
 subst e; exact pc_start h hm
theorem fit_zero (n:Nat):FitS (List.replicate n pgs0):=fun p hp=>by
 rw [(List.mem_replicate.1 hp).2]
 exact ⟨⟨by decide,by decide⟩,⟨by decide,by decide⟩,Nat.zero_le _,fun s hs=>absurd hs List.not_mem_nil⟩
section
variable {ops:Array Oper} {L:List Nat} {a0:Act} {w0:World} {bor:List Nat} {X0:List Ent} {us:List (List Nat)}
 {D:Nat→(Tmp→Value)→(Tmp→Value)→(Nat→Ent)→Prop} {i:Nat} {ρ:Operand→Value} {β:Tmp→Value} {W:World} {X:Nat→Ent}
theorem CtxV.shU {q q' b:Nat} {ps:List PgS} {fb:List Nat} {F:Ent} (cx:CtxV ops L a0 w0 bor X0 us D i ρ β W X) (hX:X q=eSh b ps fb) (hX':X q'=F) (hu:(atV us i).contains q=true) (hu':(atV us i).contains q'=true) (hne:q≠q') (hl:ps.length≤1000):∀ W',Upd F.fp W W'→PgsOk W' 43 (.pointer (some ⟨b,0,none⟩)) ps:=fun W' hW=>by
 subst hX'
 refine sh_ok (eSh_at (eSh_loc b ps fb W W' (fun k hk=>hW.block k (CtxV.ltF cx hX hu k hk) fun hm=>?_) (CtxV.holdF cx hX hu))) hl
 exact cx.ap q q' hu hu' hne k (by rw [hX]; exact hk) hm
end
theorem lseed_any (A:Option Addr) (n c k:Nat) (w:World) (hc:n≤c):
  Calls Tryz.prog 7 #[.slice A n c, .int .i64 ((k:Int))] w (Ret (.slice A (min n k) c) w):=by
 go_enter Tryz.func7,Tryz.ntmps7
 have hst0:=St.start w
 refine wp_seq (sqr (sqp [.k 4 (.slice none 0 0)] ?_))
 refine then_normal (wp_seq (wp_seq (sqr (sqp [.m 5 0, .k 6 (vi ((n:Int))), .m 7 1, .k 8 (.bool (decide ((k:Int) < (n:Int))))] ?_))))
 refine then_normal (wds (fun hs6 hs6p=>?_) fun hs6 hs6p=>?_)
 ·refine wp_seq (sqr (sqp [.m 9 0, .m 10 1] ?_))
  refine sql (.slice A k c) hst0 (fun cx=>run_sliceL_hi (e:=3) (sz:=1) (m:=k) rfl (by kernel_rfl) (by kernel_rfl) (cx.ou 9) (cx.ou 10) (by omega) (by omega)) ?_
  refine sqp [.m 4 11] ?_
  refine then_normal (wp_ret (then_ret ?_))
  refine bpr (.slice A k c) (results_1 Tryz.results7 rpt) ?_
  exact Ret.of (by rw [show min n k=k by omega]) hst0.ext
 refine wp_skip (then_normal (wp_seq (sqr (sqp [.m 12 0, .m 4 12] ?_))))
 refine then_normal (wp_ret ?_)
 refine bpr (.slice A n c) (results_1 Tryz.results7 rpt) ?_
 exact Ret.of (by rw [show min n k=n by omega]) hst0.ext
theorem lref_any (i:Nat) (w:World) (hi:i≤1000000):
  Calls Tryz.prog 11 #[.int .i64 ((i:Int))] w (Ret (.agg #[.int .i64 (1+(i:Int) / 8), .int .i64 (1+(i:Int) % 8)]) w):=by
 go_enter Tryz.func11,Tryz.ntmps11
 have hst0:=St.start w
 refine wp_seq (sqr (sqal #[vi 0,vi 0] hst0 fun B2_1 W1 hst1=>?_))
 refine then_normal (wp_seq (sqr (sqp [.m 3 0,sQu 4 .i64 (i:Int) 8 ((i:Int) / 8) (by rw [Int.tdiv_eq_ediv_of_nonneg (by omega)]; exact IntWalk.i64_in _ (by omega)),sI 5 (1+((i:Int) / 8)) (by omega), .m 6 0,sRe 7 .i64 (i:Int) 8 ((i:Int) % 8) (Int.tmod_eq_emod_of_nonneg (by omega)),sI 8 (1+((i:Int) % 8)) (by omega), .k 9 (.agg #[vi (1+((i:Int) / 8)),vi (1+((i:Int) % 8))])] ?_)))
 refine sqst (n:=2) 0 #[vi (1+((i:Int) / 8)),vi (1+((i:Int) % 8))] hst1 fun W9 hst9=>?_
 refine then_normal (wp_ret ?_)
 refine bpr (.agg #[vi (1+((i:Int) / 8)),vi (1+((i:Int) % 8))]) (results_cell (n:=2) Tryz.results11 rfl (by kernel_rfl) (by kernel_rfl) (hst9.blk 0 rfl) rfl) ?_
 exact Ret.of rfl hst9.ext
theorem treepages_any (A G:Option Addr) (n0 c g0 gc:Nat) (l gone:List Int) (w:World) (hA:At w A (l.map (Value.int .i64))) (hn:l.length=n0) (hc:n0≤c) (hG:At w G (gone.map (Value.int .i64))) (hg:gone.length=g0):
  Calls Tryz.prog 4 #[.slice A n0 c, .slice G g0 gc] w (Ret (.bool true) w):=by
 go_enter Tryz.func4,Tryz.ntmps4
 have hst0:=St.start w
 refine wp_seq (sqr (sqp [.k 4 (.bool false)] ?_))
 refine then_normal (wp_seq (sqr (sqk (.bool true) hst0 (fun cx=>⟨_,sanity10_any _,map0⟩) fun W2 hst2=>?_)))
 refine sqp [.k 5 (.bool true)] ?_
 refine then_normal (wp_seq (sqr ?_))
 refine sqn1 (fun x_=>sA x_) (fun A32_4=> .slice A32_4 50 50) (fun A32_4=>eO 102 3 (.slice A32_4 50 50) 50 ((List.replicate 50 pt0).flatMap ptC)) hst2 (by
   refine svA fun ρ β W X cx=>?_
   obtain ⟨i0,hi0,hz0,hz1,hz2⟩:=info_parts Tryz.infoPage
   exact dv_makeN (n:=50) (sz:=3) rfl (by kernel_rfl) hi0 hz0 hz1 hz2 (cx.co _) (cx.co _) (by decide) (by decide) (by decide) (by decide) (by decide) (pgt_zero 50) rfl rfl (fun σ β' X' hs hb hv hx=>⟨hv,hx⟩)) fun A32_4 W4 hst4=>?_
 refine sqp [.k 33 (.agg #[.slice A32_4 50 50])] ?_
 refine sqbx #[.slice A32_4 50 50] hst4 fun B34_6 W6 hst6=>?_
 refine sqp [.m 6 34] ?_
 refine then_normal (wp_seq ?_)
 obtain ⟨fpB,hm8⟩:=St.sh (L:=[]) (Qs:=[pt0]) (St.bkNew (hst6.pick [1,0] (by decide) rfl)) (ps:=List.replicate 50 pgs0) (by rw [List.map_replicate]; rfl) (by rw [List.length_replicate]) (fun p hp=>by rw [(List.mem_replicate.1 hp).2]; simp)
 simp only [List.nil_append] at hm8
 refine sqr (sqp [.m 35 6] ?_)
 refine sqk2 (fun A36_10 c36_10=> .slice A36_10 2 c36_10) (fun A36_10 c36_10=>eO 67 3 (.slice A36_10 2 c36_10) 2 ((begF 0).flatMap edC)) hm8 (fun cx=>⟨_,(kbegin_any 0 _).mono (by rintro e W1 ⟨A4,c4,rfl,ho_,hx⟩; exact ⟨_, _,rfl,St.one hx (eO_new (n:=2) (xs:=(begF 0).flatMap edC) ho_)⟩),(map1 (cx.co _))⟩) fun A36_10 c36_10 W10 hst10=>?_
 refine sqc0s (fun X_=>X_.fp) (.bool true) (fun r2_11=>eSh B34_6 (doS (List.replicate 50 pgs0) (begF 0) 1) r2_11) 0 hst10 (by
   refine svA fun ρ β W X cx=>?_
   refine DoesU.call (run_callF (args:=#[vp B34_6, .slice A36_10 2 c36_10,vi 1]) rfl cx.sees rfl (by kernel_rfl) (map3 (cx.ou 35) (cx.ou 36) (cx.co _))) ?_
   refine (shdo_any B34_6 (List.replicate 50 pgs0) _ 50 _ _ (begF 0) 1 _ (CtxV.holdF cx (cx.init 0 _ rfl) rfl) (CtxV.ltF cx (cx.init 0 _ rfl) rfl) (CtxV.keepAt cx (cx.init 1 _ rfl) (cx.init 0 _ rfl) rfl rfl (by decide)) (by decide) List.length_replicate (by decide) (fit_zero 50) (beg_fit (by decide)) (by omega)).mono ?_
   rintro e W1 ⟨rfl,fp4,hs4⟩
   refine ⟨_,rfl,post_obj (E:=eSh B34_6 (List.replicate 50 pgs0) fpB) [eSh B34_6 (doS (List.replicate 50 pgs0) (begF 0) 1) fp4] (cx.init 0 _ rfl) rfl rfl hs4 (fun σ β' X' hs hb hv hN=>?_)⟩
   have hv1:=(hv 37 rfl).1; have hv2:=(hv 37 rfl).2
   exact ⟨hv1.trans rfl,eSh_self ((List.cons.inj hN).1)⟩) fun r2_11 W11 hst11=>?_
 refine sqp [.k 7 (.bool true)] ?_
 refine then_normal (wp_seq (sqr (sqp [.k 8 (vi 1)] ?_)))
 refine then_normal (wp_seq (sqr (sqp [.m 38 0] ?_)))
 refine sqk (.slice A ((min n0 60)) c) hst11 (fun cx=>⟨_,lseed_any A n0 c 60 _ hc,(map2 (cx.ou 38) (cx.co _))⟩) fun W15 hst15=>?_
 refine sqp [.m 9 39] ?_
 refine then_normal (wp_seq (wp_seq ?_))
 obtain ⟨mf,hN_mf⟩:∃ z,(min n0 60)=z:=⟨_,rfl⟩
 rw [hN_mf]
 have htl_:(l.take mf).length=mf:=by rw [List.length_take]; omega
 refine sqr (sqp [.k 10 (vi 0)] ?_)
 refine then_normal (wp_block ?_)
 refine wp_loopT (fun t_ mz az W=>∃ i:Nat,∃ sh:List PgS,∃ ps:List PgS,∃ nx:Int,∃ fb:List Nat,i≤mf∧PgA (l.take mf) i sh ps nx∧mz=mf - i∧az=⟨(ovr (jv az) [(4,4,1,[]),(3,8,0,[vi nx]),(1,10,0,[vi ((i:Int))]),(0,11,6,[]),(23,40,49,[])] t_).toArray,[]⟩∧St w [] [eSh B34_6 sh fb] W) (mf - 0) ?_ ?_
 · -- the loop begins
   exact ⟨0,(doS (List.replicate 50 pgs0) (begF 0) 1),(blankF 60),1,r2_11,Nat.zero_le _,pa_start _,rfl,(by kernel_rfl),hst15.pk [0]⟩
 rintro n18 a18 W18 ⟨i,sh,ps,nx,fb,hi,hpa,rfl,hj_,hst18⟩
 refine ovz hj_ fun u18_=>?_
 refine wp_seq (wp_seq (sqr (sqp [.m 40 10, .m 41 9, .k 42 (vi ((mf:Int))), .k 43 (.bool (decide ((i:Int) < (mf:Int))))] ?_)))
 refine then_normal (wds (fun hs23 hs23p=>?_) fun hs23 hs23p=>?_)
 ·refine wp_skip (then_normal (wp_seq (wp_block (wp_seq (sqr (sqp [.m 46 9, .m 47 10] ?_))))))
  refine sql (.pointer (some ((ad A).add i))) hst18 (fun cx=>run_indexSl (e:=3) (m:=i) rfl (by kernel_rfl) (by kernel_rfl) (cx.ou 46) (cx.ou 47) (by omega) (by omega) (At.take_mapI (hA.ext cx.upd.to_ext) mf) (by rw [List.length_map]<;>omega)) ?_
  refine sql (vi (((l.take mf)).getD i 0)) hst18 (fun cx=>run_load1 rfl (by kernel_rfl) (cx.ou 48) (At.cellAd (At.take_mapI (hA.ext cx.upd.to_ext) mf) (getD_int (by omega)))) ?_
  refine sqk (.string (keyF (((l.take mf)).getD i 0))) hst18 (fun cx=>⟨_,rkey_any (((l.take mf)).getD i 0) _,(map1 (cx.ou 49))⟩) fun W28 hst28=>?_
  refine sqp [.m 51 10] ?_
  refine sqk (.agg #[vi (1+(i:Int) / 8),vi (1+(i:Int) % 8)]) hst28 (fun cx=>⟨_,lref_any i _ (by omega),(map1 (cx.ou 51))⟩) fun W30 hst30=>?_
  refine sqk1s (fun B53_31=>vp B53_31) (fun B53_31 r1_31=>ePk B53_31 (putT 0 (keyF (((l.take mf)).getD i 0)) (1+(i:Int) / 8) (1+(i:Int) % 8)) r1_31) hst30 (fun cx=>⟨_,(kgrowN_any 0 (keyF (((l.take mf)).getD i 0)) (1+(i:Int) / 8) (1+(i:Int) % 8) _ (Nat.le_trans (keyF_size _) (by decide))).mono (by rintro e W1 ⟨B4,fp4,rfl,hs4⟩; exact ⟨_, _,rfl,hs4⟩),(map3 (cx.co _) (cx.ou 50) (cx.ou 52))⟩) fun B53_31 r1_31 W31 hst31=>?_
  refine sqp [.m 11 53] ?_
  refine then_normal (wp_seq (wp_seq (sqr (sqp [.k 12 (vi 0)] ?_))))
  refine then_normal (wp_block ?_)
  refine wp_loopT (fun t_ mz az W=>∃ k:Nat,∃ sh2:List PgS,∃ ps2:List PgS,∃ nx2:Int,∃ p:PuT,∃ fb2:List Nat,∃ fk2:List Nat,k≤60∧PgB (l.take mf) i k sh2 ps2 nx2 p∧mz=60 - k∧az=⟨(ovr (jv az) [(4,4,1,[]),(3,8,0,[vi nx2]),(3,12,0,[vi ((k:Int))]),(0,13,4,[]),(37,54,32,[])] t_).toArray,[]⟩∧St w [] [eSh B34_6 sh2 fb2,ePk B53_31 p fk2] W) (60 - 0) ?_ ?_
  · -- the loop begins
    exact ⟨0,sh,ps,nx,(putT 0 (keyF (((l.take mf)).getD i 0)) (1+(i:Int) / 8) (1+(i:Int) % 8)),fb,r1_31,by omega,pb_start hpa (by omega),rfl,(by kernel_rfl),hst31.pk [0,1]⟩
  rintro n34 a34 W34 ⟨k,sh2,ps2,nx2,p,fb2,fk2,hk,hpb,rfl,hj_,hst34⟩
  refine ovz hj_ fun u34_=>?_
  obtain ⟨hok,hoc,hl50,hnx9,hpl,hte,hfit⟩:=pb_facts hpb (by omega)
  have hnk:sh2.length≤1000:=by omega
  refine wp_seq (wp_seq (sqr (sqp [.m 54 12, .k 55 (.bool (decide ((k:Int) < 60))), .m 56 55] ?_)))
  refine sqwW 56 [57,58,59] ?_ hst34 rfl (fun hq=>?_) fun W41 hst41=>?_
  rotate_left
  ·refine sqp [.m 57 11] ?_
   refine sqk (.bool ((p.left.length:Int)==0)) hst34 (fun cx=>⟨_,kdone_pk (CtxV.holdF cx (cx.init 1 _ rfl) rfl),(map1 (cx.ou 57))⟩) fun W39 hst39=>?_
   refine sqp [.k 59 (.bool (!((p.left.length:Int)==0)))] ?_
   exact sqE hst39
  refine sqwx ?_
  refine sqp [sPa 60 (decide ((k:Int) < 60)) (!((p.left.length:Int)==0))] ?_
  refine then_normal (wbs (fun hs43=>?_) fun hs43=>?_)
  ·have hs43p:=hs43
   simp only [zB] at hs43p
   obtain ⟨hs43p1,hs43p2⟩:=hs43p
   refine wp_skip (then_normal (wp_seq (wp_block (wp_seq ?_))))
   have hne:p.left≠[]:=fun h_=>by have h2_:=hs43; rw [h_] at h2_; simp at h2_
   obtain ⟨R,hR⟩:∃ z,stepF sh2 p nx2=z:=⟨_,rfl⟩
   have hed9:=stepF_len (fresh:=nx2) (p:=p) hok
   rw [hR] at hed9
   obtain ⟨her,hfe,hstp⟩:=pb_step hpb (by omega) hR hne
   have hedl:R.2.eds.length≤100000:=by omega
   refine wp_region_Y [0,0,2,0,15,31,63,63,63,127,767,2047] [[],[],[],[],[1,0]] [[],[],[],[],[2,3]] [[],[],[],[],[1]] [.k 64 (vp B53_31), .k 65 (vp B34_6), .c 66 (.iface 43 (vp B34_6)), .k 67 (vi nx2), .a 68, .a 63, .a 69, .c 70 (.bool R.2.used), .c 71 (vi R.2.err), .a 13, .k 14 (.bool R.2.used), .k 15 (vi R.2.err)] (fun ix σ β X=>match ix with | 0=>True | 1=>True | 2=>True | 3=>True | 4=>σ 68= .tuple #[.slice (sA (tg (β 68) 0)) R.2.eds.length (sC (tg (β 68) 0)), .bool R.2.used,vi R.2.err]∧X 2=ePk B53_31 R.1 ((X 2).fp)∧X 3=eO 67 3 (.slice (sA (tg (β 68) 0)) R.2.eds.length (sC (tg (β 68) 0))) R.2.eds.length (R.2.eds.flatMap edC) | 5=>σ 63= .tuple #[.slice (sA (tg (β 68) 0)) R.2.eds.length (sC (tg (β 68) 0)), .bool R.2.used,vi R.2.err] | 6=>σ 69= .slice (sA (tg (β 68) 0)) R.2.eds.length (sC (tg (β 68) 0)) | 7=>True | 8=>True | 9=>σ 13= .slice (sA (tg (β 68) 0)) R.2.eds.length (sC (tg (β 68) 0)) | _=>True) [0,2,3] [2,4,5,6,7,8,9] [(13,9,3,16),(47,5,1,48),(0,0,5,5),(0,6,3,3)] hst41 ?_ ?_ ?_
   ·exact fun ix _ _ _ _ _ _ hs hb hx h=>match ix,h with
    | 4,h=>by dsimp only; rw [← hs 68 rfl,← hb 68 rfl,← hx 2 rfl,← hx 3 rfl]; exact h
    | 5,h=>by dsimp only; rw [← hs 63 rfl,← hb 68 rfl]; exact h
    | 6,h=>by dsimp only; rw [← hs 69 rfl,← hb 68 rfl]; exact h
    | 9,h=>by dsimp only; rw [← hs 13 rfl,← hb 68 rfl]; exact h
    | 0, _ | 1, _ | 2, _ | 3, _ | 7, _ | 8, _ | _+10, _=>trivial
   ·refine ⟨?_,?_,?_,?_,?_,?_,?_,trivial⟩
    ·exact sv0 rfl rfl rfl rfl rfl (fun _ _ _ h=>h) fun ρ β W X cx=>by
      have fF65:ρ (.tmp 65)=vp B34_6:=(cx.an 1)
      simp [go_sem,fF65]
    ·refine svA fun ρ β W X cx=>?_
     refine DoesU.call (run_callF (args:=#[vp B53_31, .iface 43 (vp B34_6),vi nx2]) rfl cx.sees rfl (by kernel_rfl) (map3 (cx.an 0) (cx.an 2) (cx.an 3))) ?_
     refine (kt_to hR (kstep_h (CtxV.holdF cx (cx.init 1 _ rfl) rfl) (CtxV.shU cx (cx.init 0 _ rfl) (cx.init 1 _ rfl) rfl rfl (by decide) hnk) hok hoc (by omega) hte (by omega))).mono ?_
     rintro e W1 ⟨A4,c4,rfl,fp4,hs4⟩
     refine ⟨_,rfl,post_obj (E:=ePk B53_31 p fk2) [ePk B53_31 R.1 fp4,eO 67 3 (.slice A4 R.2.eds.length c4) R.2.eds.length (R.2.eds.flatMap edC)] (cx.init 1 _ rfl) rfl rfl hs4 (fun σ β' X' hs hb hv hN=>?_)⟩
     have hv1:=(hv 68 rfl).1; have hv2:=(hv 68 rfl).2
     exact ⟨hv1.trans (by rw [hv2]; rfl),ePk_self ((List.cons.inj hN).1),(by rw [hv2]; exact (List.cons.inj (List.cons.inj hN).2).1)⟩
    ·exact sv rfl rfl rfl rfl rfl _ (fun _ _ _ h=>h) (fun β β' h=>by rw [h 68 (by decide)]) fun ρ β W X cx=>run_move' rfl (dTn (cx.an 4)).1
    ·exact sv rfl rfl rfl rfl rfl _ (fun _ _ _ h=>h) (fun β β' h=>by rw [h 68 (by decide)]) fun ρ β W X cx=>run_extract' rfl (dTn (cx.an 5)) rfl
    ·exact xs4 rfl id fun cx=>run_extract' rfl (dTn (cx.an 5)) rfl
    ·exact xs4 rfl id fun cx=>run_extract' rfl (dTn (cx.an 5)) rfl
    ·exact sv rfl rfl rfl rfl rfl _ (fun _ _ _ h=>h) (fun β β' h=>by rw [h 68 (by decide)]) fun ρ β W X cx=>run_assign' rfl (dTn (cx.an 6))
   intro σ β X W44 hD hst44 fr hfr
   obtain ⟨A68_44,hu_A68_44⟩:∃ z,sA (tg (β 68) 0)=z:=⟨_,rfl⟩
   obtain ⟨c68_44,hu_c68_44⟩:∃ z,sC (tg (β 68) 0)=z:=⟨_,rfl⟩
   have xX2:X 2= _:=(dTn (hD 4 lq)).2.1
   obtain ⟨r2_44,hu_r2_44⟩:∃ z,(X 2).fp=z:=⟨_,rfl⟩
   rw [hu_r2_44] at xX2
   clear hu_r2_44
   simp only [xX2,exq 3 ((dTn (hD 4 lq)).2.2),hu_A68_44,hu_c68_44] at hst44
   simp only [ed 68 ((dTn (hD 4 lq)).1),ed 63 ((dTn (hD 5 lq))),ed 69 ((dTn (hD 6 lq))),ed 13 ((dTn (hD 9 lq))),hu_A68_44,hu_c68_44] at hfr
   clear hD xX2 hu_A68_44 hu_c68_44; subst hfr; clear σ β X
   refine then_normal (wp_seq (sqr (sqp [.m 72 6, .m 73 13, .m 74 10,sI 75 (2+(i:Int)) (by omega)] ?_)))
   refine sqc0s (fun X_=>X_.fp) (.bool true) (fun r3_49=>eSh B34_6 (doS sh2 R.2.eds (2+(i:Int))) r3_49) 0 hst44 (by
     refine svA fun ρ β W X cx=>?_
     refine DoesU.call (run_callF (args:=#[vp B34_6, .slice A68_44 R.2.eds.length c68_44,vi (2+(i:Int))]) rfl cx.sees rfl (by kernel_rfl) (map3 (cx.ou 72) (cx.ou 73) (cx.ou 75))) ?_
     refine (shdo_any B34_6 sh2 _ 50 _ _ R.2.eds (2+(i:Int)) _ (CtxV.holdF cx (cx.init 0 _ rfl) rfl) (CtxV.ltF cx (cx.init 0 _ rfl) rfl) (CtxV.keepAt cx (cx.init 2 _ rfl) (cx.init 0 _ rfl) rfl rfl (by decide)) hedl hl50 (by decide) hfit hfe (by omega)).mono ?_
     rintro e W1 ⟨rfl,fp4,hs4⟩
     refine ⟨_,rfl,post_obj (E:=eSh B34_6 sh2 fb2) [eSh B34_6 (doS sh2 R.2.eds (2+(i:Int))) fp4] (cx.init 0 _ rfl) rfl rfl hs4 (fun σ β' X' hs hb hv hN=>?_)⟩
     have hv1:=(hv 76 rfl).1; have hv2:=(hv 76 rfl).2
     exact ⟨hv1.trans rfl,eSh_self ((List.cons.inj hN).1)⟩) fun r3_49 W49 hst49=>?_
   refine sqp [.k 16 (.bool true)] ?_
   refine then_normal (wp_seq (wp_seq (sqr (sqp [.k 77 (.bool true), .k 78 (.bool false), .k 79 (.bool false)] ?_))))
   refine sqgy 79 [80,81] rfl rfl ?_
   have hd56:(R.2.err != 0)=false:=(by rw [her]; rfl)
   refine sqp [.m 80 15, .e 81 (.bool (R.2.err != 0)) (.bool false) (congrArg Value.bool hd56)] ?_
   refine sqp [.k 82 (.bool false)] ?_
   refine then_normal (wcf rfl (wp_skip (then_normal (wp_seq (sqr (sqp [.m 83 14] ?_))))))
   refine then_normal (wbs (fun hs59=>?_) fun hs59=>?_)
   ·refine sqr (sqp [.m 84 8,sI 85 (nx2+1) (by omega), .m 8 85] ?_)
    refine blk_normal (then_normal (sqr (sqp [.m 61 12,sI 62 ((k:Int)+1) (by omega), .m 12 62] ?_)))
    refine then_normal ?_
    refine ⟨60 - ((k+1)),by omega,?_⟩
    exact ⟨(k+1),(doS sh2 R.2.eds (2+(i:Int))),(doB ps2 R.2.eds),(nx2+1),R.1,r3_49,r2_44,by omega,by have h_:=hstp (2+(i:Int)) (by omega); rw [hs59] at h_; exact h_,rfl,(by kernel_rfl),hst49.pk [0,1]⟩
   refine wp_skip (blk_normal (then_normal (sqr (sqp [.m 61 12,sI 62 ((k:Int)+1) (by omega), .m 12 62] ?_))))
   refine then_normal ?_
   refine ⟨60 - ((k+1)),by omega,?_⟩
   exact ⟨(k+1),(doS sh2 R.2.eds (2+(i:Int))),(doB ps2 R.2.eds),nx2,R.1,r3_49,r2_44,by omega,by have h_:=hstp (2+(i:Int)) (by omega); rw [hs59] at h_; exact h_,rfl,(by kernel_rfl),hst49.pk [0,1]⟩
  have hs43p:=hs43
  simp only [zB] at hs43p
  refine wp_exit (then_exit (then_exit (blk_eq (then_normal (wp_seq ?_)))))
  have hpe:=pb_end hpb (by rcases Nat.lt_or_ge k 60 with h_ | h_; (exact .inr (List.eq_nil_of_length_eq_zero (by have h2_:=hs43; rw [decide_eq_true (show (k:Int) < 60 by omega)] at h2_; simp at h2_; simpa using h2_))); (exact .inl (by omega)))
  refine sqr (sqp [.m 86 11] ?_)
  refine sqv (.bool true) hst41 (sv_call rfl rfl rfl rfl rfl (fun _ _ _ h=>h.trans (congrArg Value.bool (by rw [hpe.1]; rfl))) fun ρ β W X cx=>⟨_, _,run_callF (args:=#[vp B53_31]) rfl cx.sees rfl (by kernel_rfl) (map1 (cx.ou 86)),kdone_pk (CtxV.holdF cx (cx.init 1 _ rfl) rfl)⟩) fun W70 hst70=>?_
  refine sqp [.k 88 (.bool false)] ?_
  refine then_normal (wcf rfl (wp_skip (blk_normal (then_normal (sqr (sqp [.m 44 10,sI 45 ((i:Int)+1) (by omega), .m 10 45] ?_))))))
  refine then_normal ?_
  refine ⟨mf - ((i+1)),by omega,?_⟩
  exact ⟨(i+1),sh2,ps2,nx2,fb2,by omega,hpe.2,rfl,(by kernel_rfl),hst70.pk [0]⟩
 refine wp_exit (then_exit (then_exit (blk_eq (then_normal (wp_seq (sqr (sqp [.m 89 9, .k 90 (vi ((mf:Int))), .m 17 90] ?_)))))))
 refine then_normal (wp_seq (wp_seq (sqr (sqp [.k 18 (vi 0)] ?_))))
 refine then_normal (wp_block ?_)
 have hpc0:=pc_startE hpa (show i=mf by omega) (by omega)
 refine wp_loopT (fun t_ mz az W=>∃ j:Nat,∃ lf:Int,∃ S:List Nat,∃ sh3:List PgS,∃ ps3:List PgS,∃ fb3:List Nat,j≤g0∧lf=(S.length:Int)∧PgC (l.take mf) S sh3 ps3∧mz=g0 - j∧az=⟨(ovr (jv az) [(4,4,1,[]),(12,17,0,[vi lf,vi ((j:Int))]),(0,19,8,[]),(64,91,61,[])] t_).toArray,[]⟩∧St w [] [eSh B34_6 sh3 fb3] W) (g0 - 0) ?_ ?_
 · -- the loop begins
   exact ⟨0,(mf:Int),(List.range mf),sh,ps,fb,Nat.zero_le _,by rw [List.length_range],hpc0,rfl,(by kernel_rfl),hst18.pk [0]⟩
 rintro n79 a79 W79 ⟨j,lf,S,sh3,ps3,fb3,hj,hlf,hpc,rfl,hj_,hst79⟩
 refine ovz hj_ fun u79_=>?_
 obtain ⟨hok,hoc,hl50,hfit,hnd,hck,hal,hS90⟩:=pc_facts hpc
 have hnk:sh3.length≤1000:=by omega
 refine wp_seq (wp_seq (sqr (sqp [.m 91 18, .m 92 1, .k 93 (vi ((g0:Int))), .k 94 (.bool (decide ((j:Int) < (g0:Int)))), .m 95 94] ?_)))
 refine sqw 95 [96,97] rfl (fun _=>sqp [.m 96 18, .k 97 (.bool (decide ((j:Int) < 60)))] sqe) ?_
 refine sqp [sPa 98 (decide ((j:Int) < (g0:Int))) (decide ((j:Int) < 60)), .m 99 98] ?_
 refine sqw 99 [100,101,102] rfl (fun _=>sqp [.m 100 9, .k 101 (vi ((mf:Int))), .k 102 (.bool (decide (0 < (mf:Int))))] sqe) ?_
 refine sqp [sPa 103 ((decide ((j:Int) < (g0:Int)))&&(decide ((j:Int) < 60))) (decide (0 < (mf:Int)))] ?_
 refine then_normal (wbs (fun hs93=>?_) fun hs93=>?_)
 ·have hs93p:=hs93
  simp only [zB] at hs93p
  obtain ⟨⟨hs93p1,hs93p2⟩,hs93p3⟩:=hs93p
  refine wp_skip (then_normal (wp_seq (wp_block (wp_seq (sqr (sqp [.m 106 1, .m 107 18] ?_))))))
  refine sql (.pointer (some ((ad G).add j))) hst79 (fun cx=>run_indexSl (e:=3) (m:=j) rfl (by kernel_rfl) (by kernel_rfl) (cx.ou 106) (cx.ou 107) (by omega) (by omega) (hG.ext cx.upd.to_ext) (by rw [List.length_map]<;>omega)) ?_
  refine sql (vi (gone.getD j 0)) hst79 (fun cx=>run_load1 rfl (by kernel_rfl) (cx.ou 108) (At.cellAd (hG.ext cx.upd.to_ext) (getD_int (by omega)))) ?_
  refine sqp [.m 110 9, .k 111 (vi ((mf:Int)))] ?_
  refine sqk (vi ((((gone.getD j 0).tmod (mf:Int)+(mf:Int)).tmod (mf:Int)))) hst79 (fun cx=>⟨_,lrestn (gone.getD j 0) mf _ (by omega) (by omega),(map2 (cx.ou 109) (cx.ou 111))⟩) fun W100 hst100=>?_
  refine sqp [.m 19 112] ?_
  refine then_normal (wp_seq ?_)
  obtain ⟨kz,hN_kz⟩:∃ z,(((gone.getD j 0).tmod (mf:Int)+(mf:Int)).tmod (mf:Int))=z:=⟨_,rfl⟩
  rw [hN_kz]
  have hk1_:=Int.tmod_nonneg (a:=(gone.getD j 0).tmod (mf:Int)+(mf:Int)) (mf:Int) (by have h_:=Int.lt_tmod_of_pos (gone.getD j 0) (b:=(mf:Int)) (by omega); omega)
  have hk2_:=Int.tmod_lt_of_pos ((gone.getD j 0).tmod (mf:Int)+(mf:Int)) (b:=(mf:Int)) (by omega)
  rw [hN_kz] at hk1_ hk2_
  obtain ⟨kn,rfl⟩:∃ z:Nat,kz=(z:Int):=⟨kz.toNat,by omega⟩
  obtain ⟨R,hR⟩:∃ z,rmF sh3 0 (entG (l.take mf) kn)=z:=⟨_,rfl⟩
  have hR2:rmF sh3 0 (entF (keyF ((l.take mf).getD kn 0)) (1+(kn:Int) / 8) (1+(kn:Int) % 8))=R:=hR
  obtain ⟨hrm,hfe,hrms⟩:=pc_rm hpc (by omega:kn < 90) hR
  have hedl:R.1.length≤100000:=by rw [← hR]; exact rm_len hok _ _
  have hcnt:=off_cnt hnd hrm hlf
  refine sqr (sqp [.m 114 6] ?_)
  refine sqv (.iface 43 (vp B34_6)) hst100 (by
    exact sv0 rfl rfl rfl rfl rfl (fun _ _ _ h=>h) fun ρ β W X cx=>by
     have fF114:ρ (.tmp 114)=vp B34_6:=(cx.ou 114)
     simp [go_sem,fF114]) fun W103 hst103=>?_
  refine sqp [.m 116 9, .m 117 19] ?_
  refine sql (.pointer (some ((ad A).add kn))) hst103 (fun cx=>run_indexSl (e:=3) (m:=kn) rfl (by kernel_rfl) (by kernel_rfl) (cx.ou 116) (cx.ou 117) (by omega) (by omega) (At.take_mapI (hA.ext cx.upd.to_ext) mf) (by rw [List.length_map]<;>omega)) ?_
  refine sql (vi (((l.take mf)).getD kn 0)) hst103 (fun cx=>run_load1 rfl (by kernel_rfl) (cx.ou 118) (At.cellAd (At.take_mapI (hA.ext cx.upd.to_ext) mf) (getD_int (by omega)))) ?_
  refine sqk (.string (keyF (((l.take mf)).getD kn 0))) hst103 (fun cx=>⟨_,rkey_any (((l.take mf)).getD kn 0) _,(map1 (cx.ou 119))⟩) fun W108 hst108=>?_
  refine sqp [.m 121 19] ?_
  refine sqk (.agg #[vi (1+(kn:Int) / 8),vi (1+(kn:Int) % 8)]) hst108 (fun cx=>⟨_,lref_any kn _ (by omega),(map1 (cx.ou 121))⟩) fun W110 hst110=>?_
  refine sqk2 (fun A123_111 c123_111=> .tuple #[.slice A123_111 R.1.length c123_111, .bool R.2]) (fun A123_111 c123_111=>eO 67 3 (.slice A123_111 R.1.length c123_111) R.1.length (R.1.flatMap edC)) hst110 (fun cx=>⟨_,(rm_toZ hR2 (kremove_any _ _ 0 (keyF (((l.take mf)).getD kn 0)) (1+(kn:Int) / 8) (1+(kn:Int) % 8) sh3 _ (sh_ok (eSh_at (CtxV.holdF cx (cx.init 0 _ rfl) rfl)) hnk) hok hoc (Nat.le_trans (keyF_size _) (by decide)))).mono (by rintro e W1 ⟨A4,c4,rfl,hs4⟩; exact ⟨_, _,rfl,hs4⟩),(map4 (cx.ou 115) (cx.co _) (cx.ou 120) (cx.ou 122))⟩) fun A123_111 c123_111 W111 hst111=>?_
  refine sqp [.m 113 123, .k 124 (.slice A123_111 R.1.length c123_111), .k 125 (.bool R.2), .m 20 124, .m 21 125] ?_
  refine then_normal ?_
  refine wp_cutT (fun t_ az W=>∃ lf2:Int,lf2=((offS S kn).length:Int)∧az=⟨(ovr (jv az) [(17,17,0,[vi lf2]),(108,126,3,[])] t_).toArray,[]⟩∧St w [] [eSh B34_6 sh3 fb3,eO 67 3 (.slice A123_111 R.1.length c123_111) R.1.length (R.1.flatMap edC)] W) ?_ ?_
  ·refine wp_seq (sqr (sqp [.m 126 21] ?_))
   refine then_normal (wbs (fun hs119=>?_) fun hs119=>?_)
   ·refine sqr (sqp [.m 127 17,sI 128 (lf - 1) (by omega), .m 17 128] ?_)
    refine then_normal ?_
    exact ⟨lf - 1,by rw [← hcnt,hs119]; rfl,(by kernel_rfl),hst111.pk [0,1]⟩
   refine wp_skip (then_normal ?_)
   exact ⟨lf,by rw [← hcnt,hs119]; rfl,(by kernel_rfl),hst111.pk [0,1]⟩
  rintro a117 W117 ⟨lf2,hlf2,hj_,hst117⟩
  refine ovz hj_ fun u117_=>?_
  refine wp_seq (sqr (sqp [.m 129 6, .m 130 20, .m 131 18,sI 132 (100+(j:Int)) (by omega)] ?_))
  refine sqc0s (fun X_=>X_.fp) (.bool true) (fun r2_127=>eSh B34_6 (doS sh3 R.1 (100+(j:Int))) r2_127) 0 hst117 (by
    refine svA fun ρ β W X cx=>?_
    refine DoesU.call (run_callF (args:=#[vp B34_6, .slice A123_111 R.1.length c123_111,vi (100+(j:Int))]) rfl cx.sees rfl (by kernel_rfl) (map3 (cx.ou 129) (cx.ou 130) (cx.ou 132))) ?_
    refine (shdo_any B34_6 sh3 _ 50 _ _ R.1 (100+(j:Int)) _ (CtxV.holdF cx (cx.init 0 _ rfl) rfl) (CtxV.ltF cx (cx.init 0 _ rfl) rfl) (CtxV.keepAt cx (cx.init 1 _ rfl) (cx.init 0 _ rfl) rfl rfl (by decide)) hedl hl50 (by decide) hfit hfe (by omega)).mono ?_
    rintro e W1 ⟨rfl,fp4,hs4⟩
    refine ⟨_,rfl,post_obj (E:=eSh B34_6 sh3 fb3) [eSh B34_6 (doS sh3 R.1 (100+(j:Int))) fp4] (cx.init 0 _ rfl) rfl rfl hs4 (fun σ β' X' hs hb hv hN=>?_)⟩
    have hv1:=(hv 133 rfl).1; have hv2:=(hv 133 rfl).2
    exact ⟨hv1.trans rfl,eSh_self ((List.cons.inj hN).1)⟩) fun r2_127 W127 hst127=>?_
  refine sqp [.k 22 (.bool true)] ?_
  refine then_normal (wp_seq ?_)
  have hpc2:=hrms (100+(j:Int)) (by omega)
  obtain ⟨sh4,hN_sh4⟩:∃ z,doS sh3 R.1 (100+(j:Int))=z:=⟨_,rfl⟩
  obtain ⟨ps4,hN_ps4⟩:∃ z,doB ps3 R.1=z:=⟨_,rfl⟩
  rw [hN_sh4,hN_ps4] at hpc2
  rw [hN_sh4] at hst127
  obtain ⟨hok,hoc,hl50,hfit, _, _, _, _⟩:=pc_facts hpc2
  have hnk:sh4.length≤1000:=by omega
  obtain ⟨U,hU⟩:∃ z,unlF sh4 0=z:=⟨_,rfl⟩
  obtain ⟨hfe,hunl⟩:=pc_unl hpc2 hU
  have hedl:U.1.length≤100000:=by rw [← hU]; exact Nat.le_trans unl_lenZ (by decide)
  refine sqr (sqp [.m 135 6] ?_)
  refine sqv (.iface 43 (vp B34_6)) hst127 (by
    exact sv0 rfl rfl rfl rfl rfl (fun _ _ _ h=>h) fun ρ β W X cx=>by
     have fF135:ρ (.tmp 135)=vp B34_6:=(cx.ou 135)
     simp [go_sem,fF135]) fun W130 hst130=>?_
  refine sqk2 (fun A137_131 c137_131=> .tuple #[.slice A137_131 U.1.length c137_131,vi U.2.1,vi U.2.2]) (fun A137_131 c137_131=>eO 67 3 (.slice A137_131 U.1.length c137_131) U.1.length (U.1.flatMap edC)) hst130 (fun cx=>⟨_,(un_toZ hU (kunlink_g _ _ 0 sh4 _ (sh_ok (eSh_at (CtxV.holdF cx (cx.init 0 _ rfl) rfl)) hnk) hok hoc)).mono (by rintro e W1 ⟨A4,c4,rfl,hs4⟩; exact ⟨_, _,rfl,hs4⟩),(map2 (cx.ou 136) (cx.co _))⟩) fun A137_131 c137_131 W131 hst131=>?_
  refine sqp [.m 134 137, .k 138 (.slice A137_131 U.1.length c137_131), .k 139 (vi U.2.1), .k 140 (vi U.2.2), .m 23 138, .m 24 139, .m 25 140] ?_
  refine then_normal (wp_seq (sqr (sqp [.m 141 6, .m 142 23, .m 143 18,sI 144 (100+(j:Int)) (by omega)] ?_)))
  refine sqc0s (fun X_=>X_.fp) (.bool true) (fun r3_143=>eSh B34_6 (doS sh4 U.1 (100+(j:Int))) r3_143) 0 hst131 (by
    refine svA fun ρ β W X cx=>?_
    refine DoesU.call (run_callF (args:=#[vp B34_6, .slice A137_131 U.1.length c137_131,vi (100+(j:Int))]) rfl cx.sees rfl (by kernel_rfl) (map3 (cx.ou 141) (cx.ou 142) (cx.ou 144))) ?_
    refine (shdo_any B34_6 sh4 _ 50 _ _ U.1 (100+(j:Int)) _ (CtxV.holdF cx (cx.init 0 _ rfl) rfl) (CtxV.ltF cx (cx.init 0 _ rfl) rfl) (CtxV.keepAt cx (cx.init 2 _ rfl) (cx.init 0 _ rfl) rfl rfl (by decide)) hedl hl50 (by decide) hfit hfe (by omega)).mono ?_
    rintro e W1 ⟨rfl,fp4,hs4⟩
    refine ⟨_,rfl,post_obj (E:=eSh B34_6 sh4 r2_127) [eSh B34_6 (doS sh4 U.1 (100+(j:Int))) fp4] (cx.init 0 _ rfl) rfl rfl hs4 (fun σ β' X' hs hb hv hN=>?_)⟩
    have hv1:=(hv 145 rfl).1; have hv2:=(hv 145 rfl).2
    exact ⟨hv1.trans rfl,eSh_self ((List.cons.inj hN).1)⟩) fun r3_143 W143 hst143=>?_
  refine sqp [.k 26 (.bool true)] ?_
  refine then_normal (wp_seq (sqr (sqp [.k 146 (.bool true), .k 147 (.bool false), .k 148 (.bool false)] ?_)))
  refine sqgy 148 [149,150] rfl rfl ?_
  refine sqp [.k 149 (.bool true), .k 150 (.bool false)] ?_
  refine sqp [.k 151 (.bool false)] ?_
  refine then_normal (wcf rfl (wp_skip (blk_normal (then_normal (sqr (sqp [.m 104 18,sI 105 ((j:Int)+1) (by omega), .m 18 105] ?_))))))
  refine then_normal ?_
  refine ⟨g0 - ((j+1)),by omega,?_⟩
  exact ⟨(j+1),lf2,(offS S kn),(doS sh4 U.1 (100+(j:Int))),(doB ps4 U.1),r3_143,by omega,hlf2,hunl _ (by omega),rfl,(by kernel_rfl),hst143.pk [0]⟩
 have hs93p:=hs93
 simp only [zB] at hs93p
 refine wp_exit (then_exit (then_exit (blk_eq (then_normal (wp_seq ?_)))))
 obtain ⟨E,hE⟩:∃ z,allF sh3 0=z:=⟨_,rfl⟩
 rw [hE] at hal
 refine wp_region_Y [0,1,3,7,15,15,31,127] [[],[],[0]] [[],[],[1,2]] [] [.k 153 (vp B34_6), .c 154 (.iface 43 (vp B34_6)), .a 155, .a 152, .a 156, .a 157, .a 27, .a 28] (fun ix σ β X=>match ix with | 0=>True | 1=>True | 2=>σ 155= .tuple #[.slice (sA (tg (β 155) 0)) E.length (sC (tg (β 155) 0)), .slice (sA (tg (β 155) 1)) E.length (sC (tg (β 155) 1))]∧X 1=eO 9 1 (.slice (sA (tg (β 155) 0)) E.length (sC (tg (β 155) 0))) E.length (E.map tqS)∧X 2=eO 33 2 (.slice (sA (tg (β 155) 1)) E.length (sC (tg (β 155) 1))) E.length (E.flatMap tqR) | 3=>σ 152= .tuple #[.slice (sA (tg (β 155) 0)) E.length (sC (tg (β 155) 0)), .slice (sA (tg (β 155) 1)) E.length (sC (tg (β 155) 1))] | 4=>σ 156= .slice (sA (tg (β 155) 0)) E.length (sC (tg (β 155) 0)) | 5=>σ 157= .slice (sA (tg (β 155) 1)) E.length (sC (tg (β 155) 1)) | 6=>σ 27= .slice (sA (tg (β 155) 0)) E.length (sC (tg (β 155) 0)) | 7=>σ 28= .slice (sA (tg (β 155) 1)) E.length (sC (tg (β 155) 1)) | _=>True) [0,1,2] [1,2,3,4,5,6,7] [(27,6,2,29),(123,3,1,124),(0,0,3,3),(0,4,2,2)] hst79 ?_ ?_ ?_
 ·exact fun ix _ _ _ _ _ _ hs hb hx h=>match ix,h with
  | 2,h=>by dsimp only; rw [← hs 155 rfl,← hb 155 rfl,← hx 1 rfl,← hx 2 rfl]; exact h
  | 3,h=>by dsimp only; rw [← hs 152 rfl,← hb 155 rfl]; exact h
  | 4,h=>by dsimp only; rw [← hs 156 rfl,← hb 155 rfl]; exact h
  | 5,h=>by dsimp only; rw [← hs 157 rfl,← hb 155 rfl]; exact h
  | 6,h=>by dsimp only; rw [← hs 27 rfl,← hb 155 rfl]; exact h
  | 7,h=>by dsimp only; rw [← hs 28 rfl,← hb 155 rfl]; exact h
  | 0, _ | 1, _ | _+8, _=>trivial
 ·refine ⟨?_,?_,?_,?_,?_,?_,?_,trivial⟩
  ·exact sv0 rfl rfl rfl rfl rfl (fun _ _ _ h=>h) fun ρ β W X cx=>by
    have fF153:ρ (.tmp 153)=vp B34_6:=(cx.an 0)
    simp [go_sem,fF153]
  ·refine svA fun ρ β W X cx=>?_
   refine DoesU.call (run_callF (args:=#[.iface 43 (vp B34_6),vi 0]) rfl cx.sees rfl (by kernel_rfl) (map2 (cx.an 1) (cx.co _))) ?_
   refine (al_toZ hE (kall_g _ _ 0 sh3 _ (sh_ok (eSh_at (CtxV.holdF cx (cx.init 0 _ rfl) rfl)) hnk) hok hoc)).mono ?_
   rintro e W1 ⟨KA4,kc4,RA4,rc4,rfl,hs4⟩
   refine ⟨_,rfl,post_st [eO 9 1 (.slice KA4 E.length kc4) E.length (E.map tqS),eO 33 2 (.slice RA4 E.length rc4) E.length (E.flatMap tqR)] rfl rfl hs4 (fun σ β' X' hs hb hv hN=>?_)⟩
   have hv1:=(hv 155 rfl).1; have hv2:=(hv 155 rfl).2
   exact ⟨hv1.trans (by rw [hv2]; rfl),(by rw [hv2]; exact (List.cons.inj hN).1),(by rw [hv2]; exact (List.cons.inj (List.cons.inj hN).2).1)⟩
  ·exact sv rfl rfl rfl rfl rfl _ (fun _ _ _ h=>h) (fun β β' h=>by rw [h 155 (by decide)]) fun ρ β W X cx=>run_move' rfl (dTn (cx.an 2)).1
  ·exact sv rfl rfl rfl rfl rfl _ (fun _ _ _ h=>h) (fun β β' h=>by rw [h 155 (by decide)]) fun ρ β W X cx=>run_extract' rfl (dTn (cx.an 3)) rfl
  ·exact sv rfl rfl rfl rfl rfl _ (fun _ _ _ h=>h) (fun β β' h=>by rw [h 155 (by decide)]) fun ρ β W X cx=>run_extract' rfl (dTn (cx.an 3)) rfl
  ·exact sv rfl rfl rfl rfl rfl _ (fun _ _ _ h=>h) (fun β β' h=>by rw [h 155 (by decide)]) fun ρ β W X cx=>run_assign' rfl (dTn (cx.an 4))
  ·exact sv rfl rfl rfl rfl rfl _ (fun _ _ _ h=>h) (fun β β' h=>by rw [h 155 (by decide)]) fun ρ β W X cx=>run_assign' rfl (dTn (cx.an 5))
 intro σ β X W154 hD hst154 fr hfr
 obtain ⟨KA155_154,hu_KA155_154⟩:∃ z,sA (tg (β 155) 0)=z:=⟨_,rfl⟩
 obtain ⟨cKA155_154,hu_cKA155_154⟩:∃ z,sC (tg (β 155) 0)=z:=⟨_,rfl⟩
 obtain ⟨RA155_154,hu_RA155_154⟩:∃ z,sA (tg (β 155) 1)=z:=⟨_,rfl⟩
 obtain ⟨cRA155_154,hu_cRA155_154⟩:∃ z,sC (tg (β 155) 1)=z:=⟨_,rfl⟩
 simp only [exq 1 ((dTn (hD 2 lq)).2.1),exq 2 ((dTn (hD 2 lq)).2.2),hu_KA155_154,hu_cKA155_154,hu_RA155_154,hu_cRA155_154] at hst154
 simp only [ed 155 ((dTn (hD 2 lq)).1),ed 152 ((dTn (hD 3 lq))),ed 156 ((dTn (hD 4 lq))),ed 157 ((dTn (hD 5 lq))),ed 27 ((dTn (hD 6 lq))),ed 28 ((dTn (hD 7 lq))),hu_KA155_154,hu_cKA155_154,hu_RA155_154,hu_cRA155_154] at hfr
 clear hD hu_KA155_154 hu_cKA155_154 hu_RA155_154 hu_cRA155_154; subst hfr; clear σ β X
 refine then_normal (wp_seq (wp_seq (sqr (sqp [.k 29 (vi 1)] ?_))))
 refine then_normal (wp_block ?_)
 refine wp_loopT (fun t_ mz az W=>∃ q:Nat,1≤q∧mz=E.length - q∧az=⟨(ovr (jv az) [(4,4,1,[]),(24,29,0,[vi ((q:Int))]),(0,30,1,[]),(127,158,29,[])] t_).toArray,[]⟩∧St w [] [eSh B34_6 sh3 fb3,eO 9 1 (.slice KA155_154 E.length cKA155_154) E.length (E.map tqS),eO 33 2 (.slice RA155_154 E.length cRA155_154) E.length (E.flatMap tqR)] W) (E.length - 1) ?_ ?_
 · -- the loop begins
   exact ⟨1,Nat.le_refl _,rfl,(by kernel_rfl),hst154.pk [0,1,2]⟩
 rintro n156 a156 W156 ⟨q,hq,rfl,hj_,hst156⟩
 refine ovz hj_ fun u156_=>?_
 refine wp_seq (wp_seq (sqr (sqp [.m 158 29, .m 159 27, .k 160 (vi ((E.length:Int))), .k 161 (.bool (decide ((q:Int) < (E.length:Int))))] ?_)))
 refine then_normal (wds (fun hs161 hs161p=>?_) fun hs161 hs161p=>?_)
 ·refine wp_skip (then_normal (wp_seq (wp_block (wp_seq ?_))))
  obtain ⟨hb1_,hb2_,hb3_,hb4_⟩:=pc_ent hpc (i:=q) (by rw [hE]; omega)
  obtain ⟨ha1_,ha2_,ha3_, _⟩:=pc_ent hpc (i:=((q:Int) - 1).toNat) (by rw [hE]; omega)
  have hls_:=hb4_ ((q:Int) - 1).toNat (by omega)
  rw [hE] at ha1_ ha2_ ha3_ hb1_ hb2_ hb3_ hls_
  have hd163:(lessF ((E.getD ((q:Int) - 1).toNat en0).1) ((E.getD q en0).1))=true:=hls_
  refine wp_region_Z [0,0,2,7,15,0,0,64,224,480,1023,0,0,6144,14336,0,0,98304,229376,524287,1048575,2097151] [[],[],[],[1],[1],[],[],[],[2],[2],[],[],[],[1],[1],[],[],[2],[2]] [.k 164 (.slice KA155_154 E.length cKA155_154), .k 165 (vi ((q:Int))),tI 166 ((q:Int) - 1) (by omega), .c 167 (.pointer (some ((ad KA155_154).add (((q:Int) - 1).toNat)))), .c 168 (.string (qkF (E.getD ((q:Int) - 1).toNat en0).1)), .k 169 (.slice RA155_154 E.length cRA155_154), .k 170 (vi ((q:Int))),tI 171 ((q:Int) - 1) (by omega), .c 172 (.pointer (some ((ad RA155_154).add ((((q:Int) - 1).toNat)*2)))), .c 173 (.agg #[vi (opF (E.getD (((q:Int) - 1).toNat) en0).1),vi (osF (E.getD (((q:Int) - 1).toNat) en0).1)]), .c 174 (.string ((E.getD ((q:Int) - 1).toNat en0).1)), .k 175 (.slice KA155_154 E.length cKA155_154), .k 176 (vi ((q:Int))), .c 177 (.pointer (some ((ad KA155_154).add q))), .c 178 (.string (qkF (E.getD q en0).1)), .k 179 (.slice RA155_154 E.length cRA155_154), .k 180 (vi ((q:Int))), .c 181 (.pointer (some ((ad RA155_154).add (q*2)))), .c 182 (.agg #[vi (opF (E.getD q en0).1),vi (osF (E.getD q en0).1)]), .c 183 (.string ((E.getD q en0).1)), .c 184 (.bool true), .k 30 (.bool true)] [0,1,2] [3,4,8,9,10,13,14,17,18,19,20] [(30,21,1,31),(133,0,21,154)] hst156 ?_ fun W162 hst162=>?_
  ·refine ⟨?_,?_,?_,?_,?_,?_,?_,?_,?_,?_,?_,trivial⟩
   ·exact xs4 rfl id fun cx=>run_indexSl (e:=9) (m:=((q:Int) - 1).toNat) rfl (by kernel_rfl) (by kernel_rfl) (cx.an 0) (cx.an 2) (by omega) (by omega) (At.of_own (cx.ri 1 rfl)) (by rw [List.length_map]<;>omega)
   ·exact xs4 rfl id fun cx=>run_load1 rfl (by kernel_rfl) (cx.an 3) (At.cellAd (At.of_own (cx.ri 1 rfl)) (tqS_getZ (by omega)))
   ·exact xs4 rfl id fun cx=>run_indexSlM (e:=33) (m:=((q:Int) - 1).toNat) (sz:=2) rfl (by kernel_rfl) (by kernel_rfl) (cx.an 5) (cx.an 7) (by omega) (by omega) (At.of_ownN (cx.ri 2 rfl)) (flatPos (sz:=2) tqR_len (by decide) (by omega))
   ·exact xs4 rfl id fun cx=>run_loadElt (f:=tqR) (m:=(((q:Int) - 1).toNat)) (sz:=2) (off:=0) (n:=2) rfl (by kernel_rfl) (by kernel_rfl) (cx.an 8) rfl tqR_len (At.of_ownN (cx.ri 2 rfl)) (en_get (by omega)) (fun k hk=>match k,hk with | 0, _=>rfl | 1, _=>rfl | k+2,hk=>absurd hk (by omega))
   ·exact xsc rfl id rfl rfl fun cx=>⟨_,kentry_z _ ha1_ ha2_,(map2 (cx.an 4) (cx.an 9))⟩
   ·exact xs4 rfl id fun cx=>run_indexSl (e:=9) (m:=q) rfl (by kernel_rfl) (by kernel_rfl) (cx.an 11) (cx.an 12) (by omega) (by omega) (At.of_own (cx.ri 1 rfl)) (by rw [List.length_map]<;>omega)
   ·exact xs4 rfl id fun cx=>run_load1 rfl (by kernel_rfl) (cx.an 13) (At.cellAd (At.of_own (cx.ri 1 rfl)) (tqS_getZ (by omega)))
   ·exact xs4 rfl id fun cx=>run_indexSlM (e:=33) (m:=q) (sz:=2) rfl (by kernel_rfl) (by kernel_rfl) (cx.an 15) (cx.an 16) (by omega) (by omega) (At.of_ownN (cx.ri 2 rfl)) (flatPos (sz:=2) tqR_len (by decide) (by omega))
   ·exact xs4 rfl id fun cx=>run_loadElt (f:=tqR) (m:=q) (sz:=2) (off:=0) (n:=2) rfl (by kernel_rfl) (by kernel_rfl) (cx.an 17) rfl tqR_len (At.of_ownN (cx.ri 2 rfl)) (en_get (by omega)) (fun k hk=>match k,hk with | 0, _=>rfl | 1, _=>rfl | k+2,hk=>absurd hk (by omega))
   ·exact xsc rfl id rfl rfl fun cx=>⟨_,kentry_z _ hb1_ hb2_,(map2 (cx.an 14) (cx.an 18))⟩
   ·exact sv_call rfl rfl rfl rfl rfl (fun _ _ _ h=>h.trans (congrArg Value.bool hd163)) fun ρ β W X cx=>⟨_, _,run_callF (args:=#[.string ((E.getD ((q:Int) - 1).toNat en0).1), .string ((E.getD q en0).1)]) rfl cx.sees rfl (by kernel_rfl) (map2 (cx.an 10) (cx.an 19)),kless_any ((E.getD ((q:Int) - 1).toNat en0).1) ((E.getD q en0).1) _ (by omega) (by omega)⟩
  refine then_normal (wp_seq (sqr (sqp [.k 185 (.bool true), .k 186 (.bool false)] ?_)))
  refine then_normal (wcf rfl (wp_skip (blk_normal (then_normal (sqr (sqp [.m 162 29,sI 163 ((q:Int)+1) (by omega), .m 29 163] ?_))))))
  refine then_normal ?_
  refine ⟨E.length - ((q+1)),by omega,?_⟩
  exact ⟨(q+1),by omega,rfl,(by kernel_rfl),hst162.pk [0,1,2]⟩
 refine wp_exit (then_exit (then_exit (blk_eq (then_normal (wp_seq (sqr (sqp [.k 187 (.bool true), .k 188 (.bool true)] ?_)))))))
 refine sqgy 188 [189] rfl rfl ?_
 refine sqp [.k 189 (.bool true)] ?_
 refine sqp [.k 190 (.bool true), .k 191 (.bool true)] ?_
 refine sqgy 191 [192,193,194,195] rfl rfl ?_
 have hd178:((E.length:Int)==lf)=true:=(beq_iff_eq.2 (by omega))
 refine sqp [.m 192 27, .k 193 (vi ((E.length:Int))), .m 194 17, .e 195 (.bool ((E.length:Int)==lf)) (.bool true) (congrArg Value.bool hd178)] ?_
 refine sqp [.k 196 (.bool true), .k 197 (.bool true)] ?_
 refine sqgy 197 [198,199,200,201] rfl rfl ?_
 refine sqp [.m 198 6] ?_
 refine sqv (.iface 43 (vp B34_6)) hst156 (by
   exact sv0 rfl rfl rfl rfl rfl (fun _ _ _ h=>h) fun ρ β W X cx=>by
    have fF198:ρ (.tmp 198)=vp B34_6:=(cx.ou 198)
    simp [go_sem,fF198]) fun W182 hst182=>?_
 refine sqk (vi ((checkF sh3 0))) hst182 (fun cx=>⟨_,kcheck_g _ _ 0 sh3 _ (sh_ok (eSh_at (CtxV.holdF cx (cx.init 0 _ rfl) rfl)) hnk) hok hoc,(map2 (cx.ou 199) (cx.co _))⟩) fun W183 hst183=>?_
 have hd185:((checkF sh3 0)==0)=true:=(by rw [hck]; rfl)
 refine sqp [.e 201 (.bool ((checkF sh3 0)==0)) (.bool true) (congrArg Value.bool hd185)] ?_
 refine sqp [.k 202 (.bool true), .k 4 (.bool true)] ?_
 refine then_normal (wp_ret ?_)
 refine bpr (.bool true) (results_1 Tryz.results4 rpt) ?_
 exact Ret.bool rfl hst183.ext
end
section
open Go.ChangeShapes Go.WideShapes Go.ChangeAt Go.RowKit Go.Deep Go.Joins
theorem ownKnob_none:ownKnob Tryz.prog.godebug=none:=by kernel_rfl
theorem laidOut:laidOutB Tryz.prog=true:=by kernel_rfl
section
variable {H:Type} {enc:TypeId×Value→H} {P:Program}
theorem trodAll_stays (hl:laidOutB P=true) {W W':World} {sp:Nat→Bool}:∀ {ts:List TypeId} {vs:List Value} {ds:List (DataW H)} {ps:List MemPlace},(∀ t∈ts,P.readableRec t=true∧t < P.types.size)→
  DataW.TrodAll enc P W 0 (fun _=>true) true ts vs ds ps→(∀ p∈ps,W.sameAt W' p)→(∀ p∈ps,sp p.block=true)→DataW.TrodAll enc P W' 0 sp true ts vs ds ps
 | [],[],[], _, _,h, _, _=>h
 | t:: _, _:: _, _:: _, _,hT,⟨p,q,h1,h2,e⟩,hsm,hs=>
   ⟨p,q,WideElems.Trod_stays hl (hT t (by simp)).1 (hT t (by simp)).2 h1 (fun x hx=>hsm x (by rw [e]; exact List.mem_append_left _ hx)) (fun x hx=>hs x (by rw [e]; exact List.mem_append_left _ hx)),
     trodAll_stays hl (fun t ht=>hT t (by simp [ht])) h2 (fun x hx=>hsm x (by rw [e]; exact List.mem_append_right _ hx)) (fun x hx=>hs x (by rw [e]; exact List.mem_append_right _ hx)),e⟩
/-- THE POST OF A LAW: true, and the input reads as it did, where the call wrote nothing that was there. -/
theorem law_post {f:Func} {s:ChangeSpec} {fresh handsOn again:Bool} {W W':World} {args:Array Value} {ds gs:List (DataW H)} {before:List MemPlace} {tb:TypeId}
  (hl:laidOutB P=true) (hT:∀ t∈f.params.toList,P.readableRec t=true∧t < P.types.size) (hr:f.resultTypes=#[tb]) (hb:P.underlying tb=some .bool)
  (hW:DataW.Whole enc P f.params.toList s.vars false W args.toList ds gs before) (hvs:s.vars=[])
  (hres:(s.fn H (ds++gs)).results=[.lit (.bool true)]) (hargs:(s.fn H (ds++gs)).args=ds) (hvars:(s.fn H (ds++gs)).vars=[]) (hx:Ext W W'):
  s.post enc P f false fresh handsOn again W args (.bool true) W':=by
 have hlt:∀ p∈before,p.block < W.heap.size:=fun p hp=>hW.lt p hp
 have hold:∀ p∈before,(fun b=>decide (b < W.heap.size)) p.block=true:=fun p hp=>by simpa using hlt p hp
 have hW0:=hW
 obtain ⟨p,q,hA,hV,rfl,hz,hn⟩:=hW
 rw [hvs] at hV
 obtain ⟨rfl,rfl⟩:=trodVars_none hV
 rw [List.append_nil] at hlt hold hz
 have HA:∀ sp:Nat→Bool,(∀ x∈p,sp x.block=true)→DataW.TrodAll enc P W' 0 sp true f.params.toList args.toList (s.fn H (ds++[])).args p:=fun sp hs=>by
  rw [hargs]
  exact trodAll_stays hl hT hA (fun x hx'=>hx.out.same (hlt x hx')) hs
 have HR:∀ (b:Nat) (sp:Nat→Bool) (hd:Bool),DataW.TrodAll enc P W' b sp hd f.resultTypes.toList ((Value.bool true).resultList f.resultTypes.size) (s.fn H (ds++[])).results []:=fun b sp hd=>by
  rw [hres,hr]
  exact trodAll_cons_mk (shut_bool hb _) trodAll_mk0
 have HV:∀ sp:Nat→Bool,DataW.TrodVars enc P W' sp s.vars (s.fn H (ds++[])).vars []:=fun sp=>by
  rw [hvs,hvars]
  rfl
 refine ⟨ds,[],p++[],[],p,[],hW0,HR _ _ _,HA _ hold,HV _,World.keptBut_mono (fun x hx'=>⟨hx',?_⟩) (hx.out.frame (·∈p++[])),fun _=>?_⟩
 ·rw [List.append_nil] at hx'
  exact Or.inr (Or.inl hx')
 ·refine ⟨?_, _, _,([]++p)++[],⟨[]++p,[],trodAll_append (HA _ (fun _ _=>rfl)) (HR _ _ _),HV _,rfl,?_,fun ha=>by cases ha⟩,?_⟩
  ·exact ok_one hr rfl (okWide_bool_mk hb _)
  ·intro b off hp
   have hin:MemPlace.cell b off∈p:=by simpa using hp
   rw [hx.out.frozen (hlt _ hin)]
   exact hz b off hin
  ·intro x hx' _
   simpa using hx'
end
end
section
open Go.ChangeShapes Go.WideShapes Go.ChangeAt Go.RowKit Go.Deep Go.Joins
/-- the shape of a type; 'sl e by': a slice, an element takes 'by' bytes; 'st': a struct or an array -/
inductive Sh where
 | int (k:IntKind)
 | bool
 | str
 | sl (e:Sh) (bs:Nat)
 | st (fs:List Sh)
mutual
def Sh.n:Sh→Nat
 | .st fs=>Sh.ns fs
 | .int _=>1
 | .bool=>1
 | .str=>1
 | .sl _ _=>1
def Sh.ns:List Sh→Nat
 | []=>0
 | f::fs=>f.n+Sh.ns fs
end
mutual
def Shows (w:World):Sh→List Value→Prop
 | .int k,cs=>∃ z,cs=[.int k z]∧(Lit.int k z).wf=true
 | .bool,cs=>∃ b,cs=[.bool b]
 | .str,cs=>∃ s:ByteArray,cs=[.string s]∧s.size≤140737488351232
 | .sl e bs,cs=>∃ (A:Option Addr) (n c:Nat) (xs:List Value),cs=[.slice A n c]∧At w A xs∧xs.length=n*e.n∧n≤c∧c*bs≤140737488351232∧∀ i,i < n→Shows w e ((xs.drop (i*e.n)).take e.n)
 | .st fs,cs=>ShowsL w fs cs
def ShowsL (w:World):List Sh→List Value→Prop
 | [],cs=>cs=[]
 | f::fs,cs=>∃ a b,cs=a++b∧Shows w f a∧ShowsL w fs b
end
mutual
def Sh.fits (P:Program):Sh→TypeId→Bool
 | .int k,t=>match P.underlying t with | some (.int k')=>decide (k'=k) | _=>false
 | .bool,t=>match P.underlying t with | some .bool=>true | _=>false
 | .str,t=>match P.underlying t with | some .string=>true | _=>false
 | .sl e bs,t=>match P.underlying t with | some (.slice u)=>e.fits P u&&decide (P.cellsOf u=e.n)&&decide (P.bytesOf u=bs)&&decide (0 < e.n) | _=>false
 | .st fs,t=>match P.underlying t with
   | some (.struct gs)=>decide (P.cellsOf t=Sh.ns fs)&&Sh.fitsF P fs gs.toList 0
   | some (.array n u)=>decide (P.cellsOf t=Sh.ns fs)&&decide (fs.length=n)&&Sh.fitsA P fs u
   | _=>false
def Sh.fitsF (P:Program):List Sh→List Field→Nat→Bool
 | [],[], _=>true
 | f::fs,g::gs,off=>decide (g.offset=off)&&decide (P.cellsOf g.type=f.n)&&f.fits P g.type&&Sh.fitsF P fs gs (off+f.n)
 | _, _, _=>false
def Sh.fitsA (P:Program):List Sh→TypeId→Bool
 | [], _=>true
 | f::fs,u=>decide (P.cellsOf u=f.n)&&f.fits P u&&Sh.fitsA P fs u
end
theorem mapM_at {α β:Type} {f:α→Option β}:∀ {l:List α} {ys:List β},l.mapM f=some ys→ys.length=l.length∧∀ (i:Nat) (a:α),l[i]? =some a→f a=ys[i]?
 | [],ys,h=>by simp at h; subst h; simp
 | a::l,ys,h=>by
   simp only [List.mapM_cons,Option.bind_eq_bind,Option.pure_def,Option.bind_eq_some_iff] at h
   obtain ⟨b,hb,bs,hbs,he⟩:=h
   obtain rfl:b::bs=ys:=by simpa using he
   obtain ⟨h1,h2⟩:=mapM_at hbs
   refine ⟨by simp [h1],fun i x hx=>?_⟩
   cases i with
   | zero=>simp at hx; subst hx; simpa using hb
   | succ i=>simpa using h2 i x (by simpa using hx)
section
variable {H:Type} {enc:TypeId×Value→H} {P:Program}
theorem weightsAll_at {e:TypeId}:∀ {ds:List (DataW H)} (i:Nat) (d:DataW H),ds[i]? =some d→∀ x∈d.weights P e,x∈DataW.weightsAll P e ds
 | [],i,d,h,x,hx=>by simp at h
 | d0::ds,0,d,h,x,hx=>by
   simp at h; subst h
   simp only [DataW.weightsAll,List.mem_append]; exact .inl hx
 | d0::ds,i+1,d,h,x,hx=>by
   simp only [DataW.weightsAll,List.mem_append]
   exact .inr (weightsAll_at i d (by simpa using h) x hx)
/-- the cells of a slice's elements -/
theorem cells_row {w:World} {a:Addr} {m len:Nat} (hm:0 < m) (h:∀ i,i < len→∃ csi,w.cells? 0 (a.add (i*m)) m=some csi):
  ∃ xs:List Value,xs.length=len*m∧At w (some a) xs∧∀ i,i < len→∀ csi,w.cells? 0 (a.add (i*m)) m=some csi→(xs.drop (i*m)).take m=csi:=by
 have key:∀ i,i < len→∀ csi,w.cells? 0 (a.add (i*m)) m=some csi→csi.length=m∧∀ r,r < m→w.cell? (a.add (i*m+r))=csi[r]? :=by
  intro i hi csi hc
  unfold World.cells? at hc
  rw [if_pos (Nat.zero_le _)] at hc
  obtain ⟨h1,h2⟩:=mapM_at hc
  refine ⟨by simpa using h1,fun r hr=>?_⟩
  have:=h2 r r (by simp [hr])
  rw [add_add'] at this
  exact this
 have each:∀ j,j < len*m→∃ u,w.cell? (a.add j)=some u:=by
  intro j hj
  have hi:j / m < len:=by rw [Nat.div_lt_iff_lt_mul hm]; exact hj
  obtain ⟨csi,hc⟩:=h _ hi
  obtain ⟨h1,h2⟩:=key _ hi _ hc
  have hr:=Nat.mod_lt j hm
  have:=h2 _ hr
  rw [show j / m*m+j % m=j by rw [Nat.mul_comm]; exact Nat.div_add_mod j m] at this
  rw [List.getElem?_eq_getElem (by omega)] at this
  exact ⟨_,this⟩
 refine ⟨(List.range (len*m)).map fun j=>(w.cell? (a.add j)).getD undef,by simp,fun j u hu=>?_,fun i hi csi hc=>?_⟩
 ·rw [List.getElem?_map] at hu
  rcases Nat.lt_or_ge j (len*m) with hj | hj
  ·obtain ⟨v,hv⟩:=each j hj
   rw [List.getElem?_range hj] at hu
   simp only [Option.map_some,hv,Option.getD_some,Option.some.injEq] at hu
   subst hu
   have:=World.block_lt_of_cell? _ _ hv
   rw [add_block] at this
   exact ⟨a,rfl,this,hv⟩
  ·rw [List.getElem?_eq_none (by simpa using hj)] at hu; cases hu
 ·obtain ⟨h1,h2⟩:=key i hi csi hc
  have hb:i*m+m≤len*m:=by
   have:(i+1)*m≤len*m:=Nat.mul_le_mul_right m hi
   rw [Nat.add_mul,Nat.one_mul] at this
   exact this
  apply List.ext_getElem?
  intro r
  rw [List.getElem?_take]
  by_cases hr:r < m
  ·rw [if_pos hr,List.getElem?_drop,List.getElem?_map,List.getElem?_range (by omega),Option.map_some,h2 r hr,List.getElem?_eq_getElem (by omega)]
   rfl
  ·rw [if_neg hr,List.getElem?_eq_none (by omega)]
mutual
theorem sees_of {w:World}:∀ (s:Sh) (t:TypeId) (fuel:Nat) (cs:List Value) (x:DataW H×List MemPlace),s.fits P t=true→DataW.trod enc P w 0 (fun _=>true) true fuel t cs=some x→
  (∀ n∈x.1.weights P t,n≤reachBytes)→Shows w s cs
 | .int k,t,fuel,cs,x,hf,h,hw=>by
   simp only [Sh.fits] at hf
   split at hf
   ·rename_i k' hu
    obtain rfl:=of_decide_eq_true hf
    obtain ⟨z,hc, _,hz⟩:=DataW.trod_int hu h
    exact ⟨z,hc,hz⟩
   ·cases hf
 | .bool,t,fuel,cs,x,hf,h,hw=>by
   simp only [Sh.fits] at hf
   split at hf
   ·rename_i hu
    obtain ⟨b,hc, _⟩:=DataW.trod_bool hu h
    exact ⟨b,hc⟩
   ·cases hf
 | .str,t,fuel,cs,x,hf,h,hw=>by
   simp only [Sh.fits] at hf
   split at hf
   ·rename_i hu
    obtain ⟨s,hc,rfl, _⟩:=DataW.trod_string hu h
    refine ⟨s,hc,?_⟩
    have:=hw s.data.toList.length (by simp [DataW.weights])
    exact this
   ·cases hf
 | .sl e bs,t,fuel,cs,x,hf,h,hw=>by
   simp only [Sh.fits] at hf
   split at hf
   ·rename_i u hu
    simp only [Bool.and_eq_true,decide_eq_true_eq] at hf
    obtain ⟨⟨⟨he,hm⟩,hb⟩,hp⟩:=hf
    rcases DataW.trod_slice hu h with ⟨rfl,rfl⟩ | ⟨a,len,cap,elems,rest,n, _,rfl,rfl, _,hl, _,hlen,hel,hsp, _⟩
    ·exact ⟨none,0,0,[],rfl,At.nil _ _,by simp,by simp,by simp,fun i hi=>by omega⟩
    ·obtain ⟨hrl, _⟩:=hsp rfl
     rw [hm] at hel
     have hsz:=hw ((elems.length+rest.length)*P.bytesOf u) (by simp [DataW.weights,hu])
     rw [hlen,hrl,hb] at hsz
     have hR:reachBytes=140737488351232:=rfl
     rw [hR] at hsz
     have hex:∀ i,i < len→∃ csi y,w.cells? 0 (a.add (i*e.n)) e.n=some csi∧elems[i]? =some y∧DataW.trod enc P w 0 (fun _=>true) true n u csi=some y:=by
      intro i hi
      have h1:=hel i hi
      rw [List.getElem?_eq_getElem (by omega),Option.bind_eq_some_iff] at h1
      obtain ⟨csi,hc,hy⟩:=h1
      exact ⟨csi, _,hc,List.getElem?_eq_getElem (by omega),hy⟩
     obtain ⟨xs,hxl,hxa,hxe⟩:=cells_row (w:=w) (a:=a) (len:=len) hp (fun i hi=>let ⟨csi, _,hc, _⟩:=hex i hi; ⟨csi,hc⟩)
     refine ⟨some a,len,cap,xs,rfl,hxa,hxl,hl,?_,fun i hi=>?_⟩
     ·rw [show len+(cap - len)=cap by omega] at hsz
      exact hsz
     ·obtain ⟨csi,y,hc,hy,ht⟩:=hex i hi
      rw [hxe i hi csi hc]
      refine sees_of e u n csi y he ht fun z hz=>hw z ?_
      simp only [DataW.weights,hu,List.mem_cons,List.mem_append]
      refine .inr (.inl ?_)
      exact weightsAll_at i y.1 (by rw [List.getElem?_map,hy]; rfl) z hz
   ·cases hf
 | .st fs,t,fuel,cs,x,hf,h,hw=>by
   simp only [Sh.fits] at hf
   split at hf
   ·rename_i gs hu
    simp only [Bool.and_eq_true,decide_eq_true_eq] at hf
    obtain ⟨hc,hF⟩:=hf
    obtain ⟨xs,n, _,rfl,hcl,hxl,hat⟩:=DataW.trod_struct hu h
    have:=seesF_of fs gs.toList 0 cs xs n hF (fun i g hg=>hat i g (by rw [← hg]; exact (Array.getElem?_toList ..).symm)) (by simpa using hxl) (by omega) (fun z hz=>hw z (by simp only [DataW.weights,hu]; exact hz))
    rw [List.drop_zero,List.take_of_length_le (by omega)] at this
    exact this
   ·rename_i n u hu
    simp only [Bool.and_eq_true,decide_eq_true_eq] at hf
    obtain ⟨⟨hc,hn⟩,hF⟩:=hf
    obtain ⟨xs,m, _,rfl,hcl,hxl,hat⟩:=DataW.trod_array hu h
    have:=seesA_of fs u 0 cs xs m hF (fun i hi=>by rw [Nat.zero_add]; exact hat i (by omega)) (by omega) (by rw [Nat.zero_mul,Nat.zero_add]; omega) (fun z hz=>hw z (by simp only [DataW.weights,hu]; exact hz))
    rw [Nat.zero_mul,List.drop_zero,List.take_of_length_le (by omega)] at this
    exact this
   ·cases hf
theorem seesF_of {w:World}:∀ (fs:List Sh) (gs:List Field) (off:Nat) (cs:List Value) (xs:List (DataW H×List MemPlace)) (m:Nat),Sh.fitsF P fs gs off=true→
  (∀ (i:Nat) (g:Field),gs[i]? =some g→DataW.trod enc P w 0 (fun _=>true) true m g.type ((cs.drop g.offset).take (P.cellsOf g.type))=xs[i]?)→xs.length=gs.length→off+Sh.ns fs≤cs.length→
  (∀ n∈DataW.weightsEach P (gs.map (·.type)) (xs.map (·.1)),n≤reachBytes)→ShowsL w fs ((cs.drop off).take (Sh.ns fs))
 | [],[],off,cs,xs,m,hf,h,hx,hl,hw=>by simp [ShowsL,Sh.ns]
 | f::fs,g::gs,off,cs,xs,m,hf,h,hx,hl,hw=>by
   simp only [Sh.fitsF,Bool.and_eq_true,decide_eq_true_eq] at hf
   obtain ⟨⟨⟨ho,hc⟩,hff⟩,hF⟩:=hf
   simp only [Sh.ns] at hl
   match xs,hx with
   | y::ys,hx=>
     have h0:=h 0 g rfl
     simp only [List.getElem?_cons_zero] at h0
     rw [ho,hc] at h0
     refine ⟨(cs.drop off).take f.n,(cs.drop (off+f.n)).take (Sh.ns fs),?_,sees_of f g.type m _ y hff h0 (fun z hz=>hw z ?_),seesF_of fs gs (off+f.n) cs ys m hF (fun i g' hg=>?_) (by simpa using hx) (by omega) (fun z hz=>hw z ?_)⟩
     ·rw [Sh.ns,← List.drop_drop,List.take_add]
     ·simp only [List.map_cons,DataW.weightsEach,List.mem_append]; exact .inl hz
     ·simpa using h (i+1) g' (by simpa using hg)
     ·simp only [List.map_cons,DataW.weightsEach,List.mem_append]; exact .inr hz
 | [], _:: _,off,cs,xs,m,hf,h,hx,hl,hw=>by simp [Sh.fitsF] at hf
 | _:: _,[],off,cs,xs,m,hf,h,hx,hl,hw=>by simp [Sh.fitsF] at hf
theorem seesA_of {w:World}:∀ (fs:List Sh) (u:TypeId) (k:Nat) (cs:List Value) (xs:List (DataW H×List MemPlace)) (m:Nat),Sh.fitsA P fs u=true→
  (∀ i,i < fs.length→DataW.trod enc P w 0 (fun _=>true) true m u ((cs.drop ((k+i)*P.cellsOf u)).take (P.cellsOf u))=xs[i]?)→xs.length=fs.length→k*P.cellsOf u+Sh.ns fs≤cs.length→
  (∀ n∈DataW.weightsAll P u (xs.map (·.1)),n≤reachBytes)→ShowsL w fs ((cs.drop (k*P.cellsOf u)).take (Sh.ns fs))
 | [],u,k,cs,xs,m,hf,h,hx,hl,hw=>by simp [ShowsL,Sh.ns]
 | f::fs,u,k,cs,xs,m,hf,h,hx,hl,hw=>by
   simp only [Sh.fitsA,Bool.and_eq_true,decide_eq_true_eq] at hf
   obtain ⟨⟨hc,hff⟩,hF⟩:=hf
   simp only [Sh.ns] at hl
   match xs,hx with
   | y::ys,hx=>
     have h0:=h 0 (by simp)
     simp only [List.getElem?_cons_zero,Nat.add_zero] at h0
     have hk:(k+1)*P.cellsOf u=k*P.cellsOf u+f.n:=by rw [Nat.add_mul,Nat.one_mul,hc]
     refine ⟨(cs.drop (k*P.cellsOf u)).take f.n,(cs.drop ((k+1)*P.cellsOf u)).take (Sh.ns fs),?_,sees_of f u m _ y hff (by rw [← hc]; exact h0) (fun z hz=>hw z ?_),seesA_of fs u (k+1) cs ys m hF (fun i hi=>?_) (by simpa using hx) (by rw [hk]; omega) (fun z hz=>hw z ?_)⟩
     ·rw [Sh.ns,hk,← List.drop_drop,List.take_add]
     ·simp only [List.map_cons,DataW.weightsAll,List.mem_append]; exact .inl hz
     ·rw [show k+1+i=k+(i+1) by omega]
      simpa using h (i+1) (by simp; omega)
     ·simp only [List.map_cons,DataW.weightsAll,List.mem_append]; exact .inr hz
end
end
/-- an argument opened -/
theorem sees_arg {H:Type} {enc:TypeId×Value→H} {P:Program} {w:World} {ts:List TypeId} {ds:List (DataW H)} (hsz:(DataW.weightsEach P ts ds).all (·≤reachBytes)=true) (j:Nat) {t:TypeId} {v:Value} {d:DataW H} {p:List MemPlace} (s:Sh)
  (hf:s.fits P t=true) (ht:ts[j]? =some t) (hd:ds[j]? =some d) (h:DataW.Trod enc P w 0 (fun _=>true) true t v d p):Shows w s v.cells.toList:=by
 obtain ⟨fuel,h⟩:=h
 exact sees_of s t fuel _ (d,p) hf h fun n hn=>of_decide_eq_true (List.all_eq_true.1 hsz n (DataW.weights_mem_each ht hd n hn))
/-- the elements of a slice as a list -/
theorem chunks {T:Type} (f:T→List Value) (p:T→Prop) (m:Nat):∀ (n:Nat) (xs:List Value),xs.length=n*m→(∀ i,i < n→∃ t,(xs.drop (i*m)).take m=f t∧p t)→
  ∃ ts:List T,ts.length=n∧xs=ts.flatMap f∧∀ t∈ts,p t
 | 0,xs,hl,h=>⟨[],rfl,by simpa using hl,by simp⟩
 | n+1,xs,hl,h=>by
   obtain ⟨t,ht,hp⟩:=h 0 (by omega)
   rw [Nat.zero_mul,List.drop_zero] at ht
   have hle:(n+1)*m=m+n*m:=by rw [Nat.add_mul,Nat.one_mul,Nat.add_comm]
   obtain ⟨ts,h1,h2,h3⟩:=chunks f p m n (xs.drop m) (by rw [List.length_drop]; omega) (fun i hi=>by
    obtain ⟨t',ht',hp'⟩:=h (i+1) (by omega)
    refine ⟨t',?_,hp'⟩
    rw [List.drop_drop,show m+i*m=(i+1)*m by rw [Nat.add_mul,Nat.one_mul,Nat.add_comm]]
    exact ht')
   refine ⟨t::ts,by simp [h1],?_,by simpa using ⟨hp,h3⟩⟩
   rw [List.flatMap_cons,← h2,← ht,List.take_append_drop]
theorem flatMap_one {T:Type} (f:T→Value):∀ ts:List T,(ts.flatMap fun t=>[f t])=ts.map f
 | []=>rfl
 | t::ts=>by simp [flatMap_one f ts]
/-- a slice of ints -/
theorem sees_ints {w:World} {k:IntKind} {bs:Nat} {cs:List Value} (h:Shows w (.sl (.int k) bs) cs):
  ∃ (A:Option Addr) (c:Nat) (zs:List Int),cs=[.slice A zs.length c]∧At w A (zs.map (Value.int k))∧zs.length≤c∧c*bs≤140737488351232∧∀ z∈zs,(Lit.int k z).wf=true:=by
 simp only [Shows,Sh.n,Nat.mul_one] at h
 obtain ⟨A,n,c,xs,rfl,hA,hl,hc,hb,he⟩:=h
 obtain ⟨zs,h1,h2,h3⟩:=chunks (fun z=>[Value.int k z]) (fun z=>(Lit.int k z).wf=true) 1 n xs (by omega) (fun i hi=>by rw [Nat.mul_one]; exact he i hi)
 rw [flatMap_one] at h2
 subst h1 h2
 exact ⟨A,c,zs,rfl,hA,hc,hb,h3⟩
/-- what an argument is -/
def ShowsV (w:World) (s:Sh) (v:Value):Prop:=match s with
 | .st fs=>∃ cs:List Value,v= .agg ⟨cs⟩∧ShowsL w fs cs
 | s=>Shows w s [v]
theorem sees_val {P:Program} {W w:World} {r:Reach} {b0:Nat} {t:TypeId} {v:Value} (s:Sh) (hf:s.fits P t=true) (hv:Value.okWide P W r b0 t v) (h:Shows w s v.cells.toList):ShowsV w s v:=by
 cases s with
 | int k=>
   simp only [Sh.fits] at hf
   split at hf
   ·rename_i k' hu
    obtain ⟨n,rfl⟩:=okWide_int hu hv
    exact h
   ·cases hf
 | bool=>
   simp only [Sh.fits] at hf
   split at hf
   ·rename_i hu
    obtain ⟨n,rfl⟩:=okWide_bool hu hv
    exact h
   ·cases hf
 | str=>
   simp only [Sh.fits] at hf
   split at hf
   ·rename_i hu
    obtain ⟨n,rfl⟩:=okWide_string hu hv
    exact h
   ·cases hf
 | sl e bs=>
   simp only [Sh.fits] at hf
   split at hf
   ·rename_i u hu
    obtain ⟨a,l,c,rfl⟩:=okWide_slice hu hv
    exact h
   ·cases hf
 | st fs=>
   simp only [Sh.fits] at hf
   split at hf
   ·rename_i gs hu
    obtain ⟨cs,rfl, _⟩:=okWide_struct hu hv
    exact ⟨cs.toList,rfl,h⟩
   ·rename_i n u hu
    simp only [Value.okWide,hu] at hv
    obtain ⟨cs,rfl, _⟩:=hv
    exact ⟨cs.toList,rfl,h⟩
   ·cases hf
end
end Go.Proofs.YtjlcoglmjldjbaaGreat
namespace Go.Proofs.YtjlcoglmjldjbaaGreat.treePages
section
open Go.ChangeShapes Go.WideShapes Go.ChangeAt Go.RowKit Go.Deep Go.Joins
theorem lifted (os:Os) (started:os.Started) (H:Type) (enc:TypeId×Value→H):
  ReturnsInHanded {} Tryz.checked os 4 .any (Rows.treePagesSpec.pre6 enc Tryz.prog Tryz.f4 Rows.treePagesRow.domain false) (Rows.treePagesSpec.post enc Tryz.prog Tryz.f4 false true false false):=by
 refine returnsInHanded_of_change_sized (C:=Tryz.checked) ownKnob_none started (by kernel_rfl) Tryz.func4
  (ChangeSpec.witness6 (enc:=enc) (C:=Tryz.checked) false ⟨#[],#[.slice none 0 0, .slice none 0 0],[]⟩ 8 (by kernel_rfl) (by kernel_rfl) (by kernel_rfl) (by kernel_rfl)) ?_
 intro W base args ds gs before hval0 hW hcnd hsz0 _
 have hval:∀ (j:Nat) t v,Tryz.f4.params[j]? =some t→args[j]? =some v→Value.okWide Tryz.prog W .any base t v:=hval0
 have hsz:(DataW.weightsEach Tryz.prog (Tryz.f4.params.toList++Rows.treePagesSpec.plain.varTypes Tryz.prog) (ds++gs)).all (·≤reachBytes)=true:=hsz0
 clear hsz0 hval0
 have hW':=hW
 obtain ⟨p,q,hA0,hV,rfl,hfz,hnd⟩:=hW
 have hA:DataW.TrodAll enc Tryz.prog W 0 (fun _=>true) true Tryz.f4.params.toList args.toList ds p:=hA0
 clear hA0
 rw [Tryz.params4] at hA hval hsz
 obtain ⟨v0,vs0,d0,ds0,p0,q0,hargs,rfl,rfl,h0,r0⟩:=trodAll_cons hA
 obtain ⟨v1,vs1,d1,ds1,p1,q1,rfl,rfl,rfl,h1,r1⟩:=trodAll_cons r0
 obtain ⟨rfl,rfl,rfl⟩:=trodAll_nil r1
 obtain rfl:args=#[v0,v1]:=by cases args; simp_all
 obtain ⟨rfl,rfl⟩:=trodVars_none hV
 have s0:=sees_val (.sl (.int .i64) 8) (by kernel_rfl) (hval 0 _ _ rfl rfl) (sees_arg hsz 0 (.sl (.int .i64) 8) (by kernel_rfl) rfl rfl h0)
 have s1:=sees_val (.sl (.int .i64) 8) (by kernel_rfl) (hval 1 _ _ rfl rfl) (sees_arg hsz 1 (.sl (.int .i64) 8) (by kernel_rfl) rfl rfl h1)
 clear hsz
 obtain ⟨A,c,l,hE,atA,lA,bA,wA⟩:=sees_ints s0
 cases hE
 obtain ⟨G,gc,gone,hE,atG,lG,bG,wG⟩:=sees_ints s1
 cases hE
 refine (treepages_any A G _ c _ gc l gone W atA rfl (by omega) atG rfl).mono fun e W' ⟨he,hx⟩=>?_
 subst he
 exact ⟨_,rfl,law_post laidOut (by rw [Tryz.params4]; exact (by decide+kernel)) rfl Tryz.underlying4 hW' rfl rfl rfl rfl hx⟩
theorem over:Rows.treePagesRow.holds Tryz.pinned (OpenSpec.ofChange Rows.treePagesSpec):=
 OpenClaim.holds_of_wide 4 Tryz.f4 rfl rfl rfl rfl rfl rfl rfl ⟨rfl,rfl,rfl,rfl,rfl⟩ rfl rfl rfl rfl rfl (by kernel_rfl) Tryz.func4 (by kernel_rfl)
  (of_decide_eq_true (by kernel_rfl)) (by unfold Func.isWrapper; first | (rw [if_pos (by decide+kernel)]; kernel_rfl) | (rw [if_neg (by decide+kernel)]; exact ⟨rfl,rfl⟩))
  (fun os started H enc _=>lifted os started H enc)
theorem proved:Rows.TreePagesSaid:=
 over
end
end Go.Proofs.YtjlcoglmjldjbaaGreat.treePages

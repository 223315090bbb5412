import Derived.Test.YtjlcoglmjldjbaaZ2
set_option linter.unusedVariables false
set_option linter.unusedSimpArgs false
set_option maxRecDepth 100000
set_option maxHeartbeats 16000000
namespace Go.Proofs.Ytjlcoglmjldjbaa
section
open Go.RowKit
def nL(its:List ByteArray)(i:Nat):List (Nat×ByteArray):=bp i (its.drop i)
theorem Az{its:List ByteArray}{i:Nat}(h:i<its.length):nL its i=if (its.getD i ByteArray.empty).size=0 then nL its (i+1) else (i,its.getD i ByteArray.empty)::nL its (i+1):=by
 rw[nL,List.drop_eq_getElem_cons h,bp,List.getD_eq_getElem?_getD,List.getElem?_eq_getElem h];rfl
theorem Aj{its:List ByteArray}{i d:Nat}(h:i<its.length):cm i (its.drop i) d=if (its.getD i ByteArray.empty).size=0 then i else cm (i+1) (its.drop (i+1)) d:=by
 rw[List.drop_eq_getElem_cons h,cm,List.getD_eq_getElem?_getD,List.getElem?_eq_getElem h];rfl
def ve(lv:Int)(l:List (Nat×ByteArray)):List EnD:=(l.map (cc lv)).reverse
theorem z5(lv:Int)(p:Nat×ByteArray)(l:List (Nat×ByteArray)):ve lv (p::l)=ve lv l++[cc lv p]:=by simp[ve]
theorem yh{k:Int}{x:ByteArray}{l:List ByteArray}{i:Nat}(hi1:1<=i)(hi:i<(x::l).length)(hz:((x::l).getD i ByteArray.empty).size≠0)(hb:cv (aI x 0 1) (i,(x::l).getD i ByteArray.empty)=true):cf k (x::l)=none:=sX rfl hi1 hi hz hb
def knV(pg:Int)(n:NoD)(EA:Option Addr)(ec:Nat):Value:= .agg #[.int .i64 pg,.int .i64 n.lv,.int .i64 n.right,.string n.high,.bool n.dead,.slice EA n.es.length ec,.int .i64 (n.free:Int)]
def kn0(pg:Int):Value:= .agg #[.int .i64 pg,.int .i64 0,.int .i64 0,.string ⟨#[]⟩,.bool false,.slice none 0 0,.int .i64 0]
def iC(pg:Int)(o:Option NoD)(w:World)(e:Ending)(w':World):Prop:=match o with
 |none=>∃p,e= .returned (.tuple #[kn0 p,.bool false])/\Ext w w'
 |some n=>∃EA ec,e= .returned (.tuple #[knV pg n EA ec,.bool true])/\St w [] [eO 104 3 (.slice EA n.es.length ec) n.es.length (n.es.flatMap enC)] w'
theorem iZ{pg p:Int}{o:Option NoD}{w w':World}(h:o=none)(hx:Ext w w'):iC pg o w (.returned (.tuple #[kn0 p,.bool false])) w':=by subst h;exact⟨p,rfl,hx⟩
theorem Dx(A:Option Addr)(n c:Nat)(L:List EnD)(w:World)(hO:w.ownsRow 0 104 3 (.slice A n c) n (L.flatMap enC))(hn:L.length=n)(hnb:n<=100000)(hr0:n=0->Calls Try.prog 95 #[.slice A n c] w (gX A n c L.reverse w)):Calls Try.prog 95 #[.slice A n c] w (gX A n c L.reverse w):=by
 rcases Nat.eq_zero_or_pos n with h|h
 exact hr0 h
 exact Dv A n c L w hO hn hnb h
theorem Try.infoEnt:(Try.prog.info? 104).map (fun i=>(i.zero,i.size,i.bytes))=some (some (.agg #[.string ByteArray.empty,.int .i64 0,.int .i64 0]),3,32):=by kernel_rfl
theorem Fe(T:List EnD)(x:EnD):T.flatMap enC++enC x=(T++[x]).flatMap enC:=by simp
theorem Gx{A:Option Addr}{n c:Nat}{L M:List EnD}{w:World}(h:L.reverse=M)(hc:Calls Try.prog 95 #[.slice A n c] w (gX A n c L.reverse w)):Calls Try.prog 95 #[.slice A n c] w (gX A n c M w):=h ▸ hc
theorem IG(a:Nat):((a:Int)==1)=(a==1):=by rw[Bool.eq_iff_iff,beq_iff_eq,beq_iff_eq];omega
theorem He(A:Option Addr)(c:Nat)(w:World)(hO:w.ownsRow 0 104 3 (.slice A 0 c) 0 []):
  Calls Try.prog 95 #[.slice A 0 c] w (gX A 0 c [] w):=by
 have st0:=St.lentRw hO
 go_enter Try.func95,Try.ntmps95
 have aq:=st0
 refine wp_seq (sqr (sqp [.m 4 0,.k 5 (vi 0),.k 6 (vi (-1)),.k 2 (vi 0),.m 3 6] ?_))
 refine aa (wp_block ?_)
 refine aX (fun t_ mz az W=>True/\mz=0/\az=⟨(ovr (jv az) [(7,7,21,[])] t_).toArray,[]⟩/\St w (Value.ownBlock (.slice A 0 c)).toList [eO 104 3 (.slice A 0 c) 0 ([])] W) (0) ?_ ?_
 exact⟨trivial,rfl,(by kernel_rfl),aq.pk [0]⟩
 rintro n6 a6 W6 ⟨-,rfl,hj_,ci⟩
 refine ovz hj_ fun IJ=>?_
 refine wp_seq (wp_seq (sqr (sqp [.m 7 2,.m 8 3,.k 9 (.bool false)] ?_)))
 refine aa (wcf rfl (wp_exit (am (am (bj ?_)))))
 refine bpe (.tuple #[]) (by simp[results,Try.results95,go_sem]) ?_
 exact⟨rfl,ci⟩
theorem CR(A:Option Addr)(n c:Nat)(L:List EnD)(w:World)(hO:w.ownsRow 0 104 3 (.slice A n c) n (L.flatMap enC))(hn:L.length=n)(hnb:n<=100000):Calls Try.prog 95 #[.slice A n c] w (gX A n c L.reverse w):=by
 refine Dx A n c L w hO hn hnb fun h=>?_
 subst h
 obtain rfl:=List.eq_nil_of_length_eq_zero hn
 exact He A c w hO
theorem Gm(k lsn:Int)(A:Option Addr)(c n:Nat)(h:ByteArray)(l:List ByteArray)(w:World)(hA:At w A ((h::l).map Value.string))(hn:(h::l).length=n)(hl:n<=100000)(hsz:∀s∈h::l,s.size<=1000000)(hl19:(bp 1 l).length<=19):
  Calls Try.prog 69 #[.agg #[.int .i64 k,.int .i64 lsn,.slice A n c]] w (iC 0 (cf k (h::l)) w):=by
 have hn0:0<n:=by rw[<-hn];simp
 have hhz:=hsz h (by simp)
 go_enter Try.func69,Try.ntmps69
 have aq:=St.start w
 refine wp_seq (sqr ?_)
 refine bX #[vi k,vi lsn,.slice A n c] aq fun bB W1 aC=>?_
 refine bW #[vi 0,vi 0,vi 0,.string ByteArray.empty,.bool false,.slice none 0 0,vi 0] aC fun ox W2 aV=>?_
 refine sqp [.k 3 (.bool false)] ?_
 refine aa (wp_seq (wp_seq (sqr (sqp [.k 11 (vp bB)] ?_))))
 refine al 0 aV ?_
 refine sqp [.k 13 (.bool (k != 2)),.m 14 13] ?_
 refine fo 14 [15,16,17,18] ?_ rfl (fun hq=>?_) ?_
 rotate_left
 refine sqp [.k 15 (.pointer (some ⟨bB,2,none⟩))] ?_
 refine al 0 aV ?_
 refine sqp [.k 17 (vi ((n:Int))),.k 18 (.bool ((n:Int)==0))] ?_
 exact sqe
 refine dn ?_
 refine sqp [sPo 19 (k != 2) ((n:Int)==0)] ?_
 refine aa (wbs (fun dl=>?_) fun dl=>?_)
 have fH:=dl
 simp only[zB] at fH
 refine wp_seq (sqr (sqp [.k 20 (.agg #[vi 0,vi 0,vi 0,.string ByteArray.empty,.bool false,.slice none 0 0,vi 0])] ?_))
 refine aF (n:=7) 1 #[vi 0,vi 0,vi 0,.string ByteArray.empty,.bool false,.slice none 0 0,vi 0] aV fun ow cj=>?_
 refine sqp [.k 3 (.bool false)] ?_
 refine aa (wp_ret (ai ?_))
 refine bpr (.tuple #[.agg #[vi 0,vi 0,vi 0,.string ByteArray.empty,.bool false,.slice none 0 0,vi 0],.bool false]) (cq Try.results69 (rpa (cj.blk 1 rfl) 0 7) rpt) ?_
 exact iZ (im (.inl (u4 (by assumption) hn0))) cj.ext
 have fH:=dl
 simp only[zB] at fH
 obtain⟨IW,IX⟩:=fH
 refine wp_skip (aa (wp_seq (sqr (sqp [.k 21 (.pointer (some ⟨bB,2,none⟩))] ?_))))
 refine al 0 aV ?_
 refine sql (.pointer (some ((ad A).add 0))) aV (fun cx=>bo (e:=9) (m:=0) rfl (by kernel_rfl) (by kernel_rfl) (cx.ou 22) (cx.co _) (by omega) (by omega) (hA.ext cx.upd.to_ext) (by rw[List.length_map];exact hn)) ?_
 refine sql (.string h) aV (fun cx=>ae rfl (by kernel_rfl) (cx.ou 23) (At.cellAd (hA.ext cx.upd.to_ext) rfl)) ?_
 refine sqp [.m 4 24] ?_
 refine aa (wp_seq (wp_seq (sqr (sqp [.m 25 4,.k 26 (vi ((h.size:Int))),.k 27 (.bool (decide ((h.size:Int)<4))),.m 28 27] ?_))))
 refine fo 28 [29,30,31] ?_ rfl (fun hq=>?_) ?_
 rotate_left
 have hq_:=of_decide_eq_false hq
 refine sqp [.m 29 4] ?_
 refine sql (.int .u8 (au (bl h) 1)) aV (fun cx=>cJ (m:=1) rfl (by kernel_rfl) (cx.ou 29) (cx.co _) (by omega) (by omega)) ?_
 refine sqp [.k 31 (.bool (decide (1<au (bl h) 1)))] ?_
 exact sqe
 refine dn ?_
 refine sqp [sPo 32 (decide ((h.size:Int)<4)) (decide (1<au (bl h) 1)),.m 33 32] ?_
 refine fo 33 [34,35,36,37,38,39,40,41] ?_ rfl (fun hq=>?_) ?_
 rotate_left
 refine sqp [.m 34 4,.k 35 (vi ((h.size:Int))),.k 36 (.bool (decide (4<(h.size:Int)))),.m 37 36] ?_
 refine sqw 37 [38,39,40] rfl (fun _=>sqp [.m 38 4,.k 39 (vi ((h.size:Int))),.k 40 (.bool (decide ((h.size:Int)<8)))] sqe) ?_
 refine sqp [sPa 41 (decide (4<(h.size:Int))) (decide ((h.size:Int)<8))] ?_
 exact sqe
 refine dn ?_
 refine sqp [sPo 42 ((decide ((h.size:Int)<4))||(decide (1<au (bl h) 1))) ((decide (4<(h.size:Int)))&&(decide ((h.size:Int)<8)))] ?_
 refine aa (wbs (fun iq=>?_) fun iq=>?_)
 have uD:=iq
 simp only[zB] at uD
 refine wp_seq (sqr (sqp [.k 43 (.agg #[vi 0,vi 0,vi 0,.string ByteArray.empty,.bool false,.slice none 0 0,vi 0])] ?_))
 refine aF (n:=7) 1 #[vi 0,vi 0,vi 0,.string ByteArray.empty,.bool false,.slice none 0 0,vi 0] aV fun IY jA=>?_
 refine sqp [.k 3 (.bool false)] ?_
 refine aa (wp_ret (ai ?_))
 refine bpr (.tuple #[.agg #[vi 0,vi 0,vi 0,.string ByteArray.empty,.bool false,.slice none 0 0,vi 0],.bool false]) (cq Try.results69 (rpa (jA.blk 1 rfl) 0 7) rpt) ?_
 exact iZ (im (.inr (.inr (.inl ⟨h,l,rfl,by have h_:=mC (h:=h);rw[iq] at h_;simpa using h_.symm⟩)))) jA.ext
 have uD:=iq
 simp only[zB] at uD
 obtain⟨⟨N8,N9⟩,Oa⟩:=uD
 refine wp_skip (aa (wp_seq (sqr (sqp [.m 44 4] ?_))))
 refine Dc (fun fv=>vp fv) (fun fv=>eB fv 164 #[.string h,vi 0,.bool false]) aV (fun cx=>⟨_,(sE h _).mono (by rintro e W1 ⟨B4,rfl,⟨hb4,hw4⟩,hx⟩;exact⟨_,rfl,St.one hx ⟨hb4,dH _ _ _,fun k hk=>by simp[eB] at hk;subst hk;exact⟨hw4,hb4.lt⟩⟩⟩),(br (cx.ou 44))⟩) fun fv Me lB=>?_
 refine sqp [.m 5 45] ?_
 refine aa (wp_seq ?_)
 have hok:iF h=true:=by have h_:=mC (h:=h);rw[iq] at h_;simpa using h_.symm
 have h4:4<=h.size:=by unfold iF at hok;simp only[Bool.and_eq_true,decide_eq_true_eq] at hok;exact hok.1.1
 have h2_:(aI h 2 2:Int)=au (bl h) 2*256+au (bl h) 3:=jm h 2 (by omega)
 have IM:=cM (bl h) 2
 have IN:=cM (bl h) 3
 refine aj [0,1,0,7,15,0,47,111,0,256,0,1024,3072,7168,16383,0,65535] [[],[2],[],[3],[],[],[4],[],[],[],[],[0],[],[],[],[],[6]] [[],[3],[],[4],[],[],[5],[],[],[],[],[],[],[],[],[6],[7]] [[],[2],[],[3],[],[],[4],[],[],[],[],[],[],[],[],[],[6]] [.k 46 (vp fv),.a 47,.k 48 (vp fv),.a 49,.c 50 (.bool ((aI h 1 1:Int)==1)),.k 51 (vp fv),.a 52,.c 53 (vi ((aI h 2 2:Int)-1)),.k 54 (.string h),.c 55 (.string (h.extract 4 h.size)),.k 56 (.pointer (some ⟨bB,2,none⟩)),.c 57 (.slice A n c),.k 58 (vi ((n:Int))),.c 59 (vi (max 1 (n:Int))),.c 60 (.agg #[vi 0,vi ((aI h 0 1:Int)),vi ((aI h 2 2:Int)-1),.string (h.extract 4 h.size),.bool ((aI h 1 1:Int)==1),.slice none 0 0,vi (max 1 (n:Int))]),.a 6,.n] (fun ix f b X=>match ix with|0=>True|1=>f 47=vi ((aI h 0 1:Int))/\X 3=eB fv 164 #[.string h,vi 1,.bool false]|2=>True|3=>f 49=vi ((aI h 1 1:Int))/\X 4=eB fv 164 #[.string h,vi 2,.bool false]|4|5=>True|6=>f 52=vi ((aI h 2 2:Int))/\X 5=eB fv 164 #[.string h,vi 4,.bool false]|7|8|9|10|11|12|13|14=>True|15=>f 6=vp (pb (b 6))/\X 6=eB (pb (b 6)) 116 #[vi 0,vi 0,vi 0,.string ByteArray.empty,.bool false,.slice none 0 0,vi 0]|16=>X 7=eB (pb (b 6)) 116 #[vi 0,vi ((aI h 0 1:Int)),vi ((aI h 2 2:Int)-1),.string (h.extract 4 h.size),.bool ((aI h 1 1:Int)==1),.slice none 0 0,vi (max 1 (n:Int))]|_=>True) [0,1,5,7] [1,3,4,6,7,9,11,13,14,15,16] [(6,15,1,7),(39,0,15,54)] lB ?_ ?_ ?_
 exact fun ix _ _ _ _ _ _ hs hb hx h=>match ix,h with
 |1,h=>by dsimp only;rw[<-hs 47 rfl,<-hx 3 rfl];exact h
 |3,h=>by dsimp only;rw[<-hs 49 rfl,<-hx 4 rfl];exact h
 |6,h=>by dsimp only;rw[<-hs 52 rfl,<-hx 5 rfl];exact h
 |15,h=>by dsimp only;rw[<-hs 6 rfl,<-hb 6 rfl,<-hx 6 rfl];exact h
 |16,h=>by dsimp only;rw[<-hb 6 rfl,<-hx 7 rfl];exact h
 |0,_|2,_|4,_|5,_|7,_|8,_|9,_|10,_|11,_|12,_|13,_|14,_|_+17,_=>trivial
 refine⟨?_,?_,?_,?_,?_,?_,?_,?_,?_,?_,?_,trivial⟩
 refine svA fun g b W X cx=>?_
 refine ax.call (av (args:=#[vp fv,vi 1]) rfl cx.sees rfl (by kernel_rfl) (aK (cx.an 0) (cx.co _))) ?_
 refine(mt _ h 0 1 _ ⟨(cx.bi 2 rfl),by first|omega|(rw[ByteArray.size_extract];omega),by first|omega|(rw[ByteArray.size_extract];omega)⟩ (by omega) (by first|omega|(rw[ByteArray.size_extract];omega))).mono ?_
 rintro e W1 ⟨rfl,ot,hu⟩
 refine⟨_,rfl,i4 (cx.init 2 _ rfl) rfl rfl hu ot.1 (fun f o X' hs hb hv hx=>?_)⟩
 exact⟨(hv 47 rfl).1.trans rfl,hx⟩
 refine svA fun g b W X cx=>?_
 refine ax.call (av (args:=#[vp fv,vi 1]) rfl cx.sees rfl (by kernel_rfl) (aK (cx.an 2) (cx.co _))) ?_
 refine(mt _ h 1 1 _ ⟨(cx.blk (dTn (cx.an 1)).2 rfl),by first|omega|(rw[ByteArray.size_extract];omega),by first|omega|(rw[ByteArray.size_extract];omega)⟩ (by omega) (by first|omega|(rw[ByteArray.size_extract];omega))).mono ?_
 rintro e W1 ⟨rfl,ot,hu⟩
 refine⟨_,rfl,i4 (dTn (cx.an 1)).2 rfl rfl hu ot.1 (fun f o X' hs hb hv hx=>?_)⟩
 exact⟨(hv 49 rfl).1.trans rfl,hx⟩
 exact xs4 rfl id fun cx=>km rfl (dTn (cx.an 3)).1 (cx.co _) rfl
 refine svA fun g b W X cx=>?_
 refine ax.call (av (args:=#[vp fv,vi 2]) rfl cx.sees rfl (by kernel_rfl) (aK (cx.an 5) (cx.co _))) ?_
 refine(mt _ h 2 2 _ ⟨(cx.blk (dTn (cx.an 3)).2 rfl),by first|omega|(rw[ByteArray.size_extract];omega),by first|omega|(rw[ByteArray.size_extract];omega)⟩ (by omega) (by first|omega|(rw[ByteArray.size_extract];omega))).mono ?_
 rintro e W1 ⟨rfl,ot,hu⟩
 refine⟨_,rfl,i4 (dTn (cx.an 3)).2 rfl rfl hu ot.1 (fun f o X' hs hb hv hx=>?_)⟩
 exact⟨(hv 52 rfl).1.trans rfl,hx⟩
 exact xs4 rfl id fun cx=>km rfl (dTn (cx.an 6)).1 (cx.co _) (congrArg (fun z=>some (Value.int .i64 z)) ((IntWalk.i64_in _ (by omega)).trans (by omega)))
 exact xs4 rfl id fun cx=>iN (l:=4) rfl (by kernel_rfl) (cx.an 8) (cx.co _) (by omega) (by omega)
 exact xs4 rfl id fun cx=>ae rfl (by kernel_rfl) (cx.an 10) ((cx.bi 0 rfl).cell 2)
 exact xs4 rfl id fun cx=>vu rfl (cx.co _) (cx.an 12) rfl
 exact xs4 rfl id fun cx=>ry rfl (pmc (dTn (cx.an 1)).1 (pmc (cx.an 4) (pmc (cx.an 7) (pmc (cx.an 9) (pmc (cx.an 13) pmn))))) (by kernel_rfl)
 refine svA fun g b W X cx=>?_
 exact bx (cs:=#[vi 0,vi 0,vi 0,.string ByteArray.empty,.bool false,.slice none 0 0,vi 0]) rfl (by kernel_rfl) rfl rfl (fun _ _ _ _ _=> .intro)
 refine svA fun g b W X cx=>?_
 exact ar (n:=7) rfl (dTn (cx.an 15)).1 (cx.an 14) (by kernel_rfl) (by kernel_rfl) (by kernel_rfl) cx (dTn (cx.an 15)).2 rfl (nle rfl) (by kernel_rfl) rfl rfl rfl (fun f o X' hs hb hx=>by rw[hb 6];exact hx)
 intro f b X Ob hD lC fr af
 simp only[exq 5 ((dTn (hD 6 lq)).2),exq 7 ((dTn (hD 16 lq)))] at lC
 simp only[ed 47 ((dTn (hD 1 lq)).1),ed 49 ((dTn (hD 3 lq)).1),ed 52 ((dTn (hD 6 lq)).1),ed 6 ((dTn (hD 15 lq)).1)] at af
 generalize pb (b 6)=lD at lC af
 clear hD;subst af;clear f b X
 refine aa (wp_seq (wp_seq ?_))
 obtain⟨z48_,G1⟩:∃z,max 1 (n:Int)=z:=⟨_,rfl⟩
 rw[G1] at lC |-
 obtain rfl:z48_=(n:Int):=by omega
 refine sqr (sqp [.k 61 (.pointer (some ⟨bB,2,none⟩))] ?_)
 refine al 0 lC ?_
 refine sqp [.k 63 (vi ((n:Int))),sI 64 ((n:Int)-1) (by omega),.m 7 64] ?_
 refine aa (wp_block ?_)
 obtain⟨z54_,G2⟩:∃z,(n:Int)-1=z:=⟨_,rfl⟩
 rw[G2]
 obtain rfl:z54_=((n-1:Nat):Int):=by omega
 obtain⟨lv,lx⟩:∃z,(aI h 0 1:Int)=z:=⟨_,rfl⟩
 rw[lx] at lC |-
 have hn55:=bM lC 104 3
 simp only[List.cons_append,List.nil_append] at hn55
 refine aX (fun t_ mz az W=>∃j:Nat,∃nn:Nat,∃T:List EnD,∃EA:Option Addr,∃ec:Nat,∃fr:Nat,j+1<=n/\T=ve lv (nL (h::l) (j+1))/\(nL (h::l) (j+1)).any (cv lv)=false/\T.length=nn/\nn+j+1<=n/\fr=cm (j+1) ((h::l).drop (j+1)) n/\(∀e∈T,e.1.size<=1000000)/\mz=j+1/\az=⟨(ovr (jv az) [(3,3,1,[]),(3,7,0,[vi ((j:Int))]),(0,8,3,[]),(54,65,47,[])] t_).toArray,[]⟩/\St w [] [eB bB 51 #[vi k,vi lsn,.slice A n c],eB ox 116 #[vi 0,vi 0,vi 0,.string ByteArray.empty,.bool false,.slice none 0 0,vi 0],eB lD 116 #[vi 0,vi (lv),vi ((aI h 2 2:Int)-1),.string (h.extract 4 h.size),.bool ((aI h 1 1:Int)==1),.slice EA nn ec,vi ((fr:Int))],eO 104 3 (.slice EA nn ec) nn (T.flatMap enC)] W) (((n-1))+1) ?_ ?_
 exact⟨(n-1),0,[],none,0,n,by omega,by rw[Nat.sub_add_cancel (by omega),nL,List.drop_of_length_le (by omega)];rfl,by rw[Nat.sub_add_cancel (by omega),nL,List.drop_of_length_le (by omega)];rfl,rfl,by omega,by rw[Nat.sub_add_cancel (by omega),List.drop_of_length_le (by omega)];rfl,(fun e he=>nomatch he),rfl,(by kernel_rfl),hn55.pk [0,1,3,4]⟩
 rintro Rs a56 NZ ⟨j,nn,T,EA,ec,fr,hj,hT,hbad,hnn,hnj,af,hTz,rfl,hj_,dq⟩
 refine ovz hj_ fun P6=>?_
 refine wp_seq (wp_seq (sqr (sqp [.m 65 7,.k 66 (.bool (decide (0<(j:Int))))] ?_)))
 refine aa (wds (fun MQ Li=>?_) fun MQ Li=>?_)
 refine wp_skip (aa (wp_seq (wp_block (wp_seq (sqr (sqp [.k 69 (.pointer (some ⟨bB,2,none⟩))] ?_))))))
 refine al 0 dq ?_
 refine sqp [.m 71 7] ?_
 refine sql (.pointer (some ((ad A).add j))) dq (fun cx=>bo (e:=9) (m:=j) rfl (by kernel_rfl) (by kernel_rfl) (cx.ou 70) (cx.ou 71) (by omega) (by omega) (hA.ext cx.upd.to_ext) (by rw[List.length_map];exact hn)) ?_
 refine sql (.string ((h::l).getD j ByteArray.empty)) dq (fun cx=>ae rfl (by kernel_rfl) (cx.ou 72) (At.cellAd (hA.ext cx.upd.to_ext) (p8 (by omega)))) ?_
 refine sqp [.m 8 73] ?_
 refine aa (wp_seq (wp_seq ?_))
 have hyz:((h::l).getD j ByteArray.empty).size<=1000000:=hsz _ (by rw[List.getD_eq_getElem?_getD,List.getElem?_eq_getElem (show j<(h::l).length by rw[hn];exact(by omega))];exact List.getElem_mem _)
 have hps:=Az (its:=h::l) (i:=j) (by rw[hn];omega)
 have hpf:=Aj (its:=h::l) (i:=j) (d:=n) (by rw[hn];omega)
 obtain⟨y,jn⟩:∃z,(h::l).getD j ByteArray.empty=z:=⟨_,rfl⟩
 rw[jn]
 rw[jn] at hyz hps hpf
 refine sqr (sqp [.m 74 8,.k 75 (.bool (y.toList==((⟨#[]⟩:ByteArray)).toList))] ?_)
 refine aa (wbs (fun DZ=>?_) fun DZ=>?_)
 refine wp_seq (sqr (sqp [.m 76 7,.k 77 (.pointer (some ⟨lD,6,none⟩))] ?_))
 refine aF (n:=1) 2 #[vi 0,vi (lv),vi ((aI h 2 2:Int)-1),.string (h.extract 4 h.size),.bool ((aI h 1 1:Int)==1),.slice EA nn ec,vi ((j:Int))] dq fun Oc uE=>?_
 refine aa (wp_exit (am (bj (aa (sqr (sqp [.m 67 7,sI 68 ((j:Int)-1) (by omega),.m 7 68] ?_))))))
 refine aa ?_
 have hyz_:y.size=0:=by have h_:=DZ;rw[go] at h_;exact of_decide_eq_true h_
 rw[if_pos hyz_] at hps hpf
 rw[show ((j:Int)-1)=((j-1:Nat):Int) by omega]
 refine⟨((j-1))+1,by omega,?_⟩
 exact⟨(j-1),nn,T,EA,ec,j,by omega,by rw[Nat.sub_add_cancel (by omega),hps];exact hT,by rw[Nat.sub_add_cancel (by omega),hps];exact hbad,hnn,by omega,by rw[Nat.sub_add_cancel (by omega),hpf],hTz,rfl,(by kernel_rfl),uE.pk [0,1,2,3]⟩
 refine wp_skip (aa (wp_seq ?_))
 have hy0:¬y.size=0:=by have h_:=DZ;rw[go] at h_;exact of_decide_eq_false h_
 rw[if_neg hy0] at hps hpf
 refine sqr (sqp [.m 78 8,.m 79 7,.k 80 (.agg #[.string (y),vi ((j:Int)),vi (-1)])] ?_)
 refine bW #[.string ByteArray.empty,vi 0,vi 0] dq fun po Od uF=>?_
 refine aF (n:=3) 4 #[.string (y),vi ((j:Int)),vi (-1)] uF fun Rt uG=>?_
 refine aa ?_
 refine ji (fun t_ az W=>∃x:ByteArray,∃kd:Int,cc lv (j,y)=(x,j,kd)/\cv lv (j,y)=decide (x.size<4)/\x.size<=1000000/\az=⟨(ovr (jv az) [(3,3,1,[]),(6,10,1,[]),(70,81,20,[])] t_).toArray,[]⟩/\St w [] [eB bB 51 #[vi k,vi lsn,.slice A n c],eB ox 116 #[vi 0,vi 0,vi 0,.string ByteArray.empty,.bool false,.slice none 0 0,vi 0],eB lD 116 #[vi 0,vi (lv),vi ((aI h 2 2:Int)-1),.string (h.extract 4 h.size),.bool ((aI h 1 1:Int)==1),.slice EA nn ec,vi ((fr:Int))],eO 104 3 (.slice EA nn ec) nn (T.flatMap enC),eB po 104 #[.string x,vi ((j:Int)),vi kd]] W) ?_ ?_
 refine wp_seq (sqr (sqp [.k 81 (.pointer (some ⟨lD,1,none⟩))] ?_))
 refine al 2 uG ?_
 refine sqp [.k 83 (.bool (decide (0<lv)))] ?_
 refine aa (wds (fun D0 zx=>?_) fun D0 zx=>?_)
 refine wp_seq (wp_seq (sqr (sqp [.m 84 8,.k 85 (vi ((y.size:Int))),.k 86 (.bool (decide ((y.size:Int)<6)))] ?_)))
 refine aa (wds (fun MR Lj=>?_) fun MR Lj=>?_)
 refine wp_seq (sqr (sqp [.k 87 (.agg #[vi 0,vi 0,vi 0,.string ByteArray.empty,.bool false,.slice none 0 0,vi 0])] ?_))
 refine aF (n:=7) 1 #[vi 0,vi 0,vi 0,.string ByteArray.empty,.bool false,.slice none 0 0,vi 0] uG fun Ru EM=>?_
 refine sqp [.k 3 (.bool false)] ?_
 refine aa (wp_ret (ai (ai (aB (ai (ai (aB (ai ?_))))))))
 refine bpr (.tuple #[.agg #[vi 0,vi 0,vi 0,.string ByteArray.empty,.bool false,.slice none 0 0,vi 0],.bool false]) (cq Try.results69 (rpa (EM.blk 1 rfl) 0 7) rpt) ?_
 exact iZ (yh (i:=j) (by omega) (by rw[hn];omega) (by rw[jn];exact hy0) (by rw[lx,jn];rw[cv,if_pos (by omega)];exact decide_eq_true (show y.size<6 by omega))) EM.ext
 refine wp_skip (aa (wp_seq (sqr (sqp [.m 88 8,.k 89 (vi ((y.size:Int))),sI 90 ((y.size:Int)-2) (by omega),.m 10 90] ?_))))
 refine aa (aj [0,0,3,0,0,24,56,120,7,511,1023,2047] [[],[],[],[],[],[],[],[5],[],[4],[],[7]] [[],[],[],[],[],[],[5],[6],[],[7],[],[8]] [[],[],[],[],[],[],[],[5],[],[4],[],[7]] [.k 91 (.string (y)),.k 92 (vi ((y.size:Int)-2)),.c 93 (.string (y.extract 0 (((y.size:Int)-2).toNat))),.k 94 (.string (y)),.k 95 (vi ((y.size:Int)-2)),.c 96 (.string (y.extract (((y.size:Int)-2).toNat) y.size)),.a 97,.a 98,.k 99 (vp po),.n,.k 100 (.pointer (some ⟨po,2,none⟩)),.n] (fun ix f b X=>match ix with|0|1|2|3|4|5=>True|6=>f 97=vp (pb (b 97))/\X 5=eB (pb (b 97)) 164 #[.string (y.extract (((y.size:Int)-2).toNat) y.size),vi 0,.bool false]|7=>f 98=vi ((aI (y.extract (((y.size:Int)-2).toNat) y.size) 0 2:Int))/\X 6=eB (pb (b 97)) 164 #[.string (y.extract (((y.size:Int)-2).toNat) y.size),vi 2,.bool false]|8=>True|9=>X 7=eB po 104 #[.string (y.extract 0 (((y.size:Int)-2).toNat)),vi ((j:Int)),vi (-1)]|10=>True|11=>X 8=eB po 104 #[.string (y.extract 0 (((y.size:Int)-2).toNat)),vi ((j:Int)),vi ((aI (y.extract (((y.size:Int)-2).toNat) y.size) 0 2:Int))]|_=>True) [0,1,2,3,6,8] [2,5,6,7,9,11] [(91,0,11,101)] uG ?_ ?_ ?_)
 exact fun ix _ _ _ _ _ _ hs hb hx h=>match ix,h with
 |6,h=>by dsimp only;rw[<-hs 97 rfl,<-hb 97 rfl,<-hx 5 rfl];exact h
 |7,h=>by dsimp only;rw[<-hs 98 rfl,<-hb 97 rfl,<-hx 6 rfl];exact h
 |9,h=>by dsimp only;rw[<-hx 7 rfl];exact h
 |11,h=>by dsimp only;rw[<-hx 8 rfl];exact h
 |0,_|1,_|2,_|3,_|4,_|5,_|8,_|10,_|_+12,_=>trivial
 refine⟨?_,?_,?_,?_,?_,?_,trivial⟩
 exact xs4 rfl id fun cx=>iH (l:=((y.size:Int)-2).toNat) rfl (by kernel_rfl) (cx.an 0) (cx.an 1) (by omega) (by omega)
 exact xs4 rfl id fun cx=>iN (l:=((y.size:Int)-2).toNat) rfl (by kernel_rfl) (cx.an 3) (cx.an 4) (by omega) (by omega)
 refine svA fun g b W X cx=>?_
 refine ax.call (av (args:=#[.string (y.extract (((y.size:Int)-2).toNat) y.size)]) rfl cx.sees rfl (by kernel_rfl) (br (cx.an 5))) ?_
 refine(sE (y.extract (((y.size:Int)-2).toNat) y.size) _).mono ?_
 rintro e W1 ⟨B4,rfl,⟨hb4,hw4⟩,hx⟩
 refine⟨_,rfl,cR [eB B4 164 #[.string (y.extract (((y.size:Int)-2).toNat) y.size),vi 0,.bool false]] rfl rfl hx (mn ⟨hb4,dH _ _ _,fun k hk=>by simp[eB] at hk;subst hk;exact⟨hw4,hb4.lt⟩⟩) (List.pairwise_singleton _ _) (fun f o X' hs hb hv hN=>?_)⟩
 have aZ:=(hv 97 rfl).1;have aJ:=(hv 97 rfl).2
 exact⟨aZ.trans (by rw[aJ];rfl),(by rw[aJ];exact(List.cons.inj hN).1)⟩
 refine svA fun g b W X cx=>?_
 refine ax.call (av (args:=#[vp (pb (b 97)),vi 2]) rfl cx.sees rfl (by kernel_rfl) (aK (dTn (cx.an 6)).1 (cx.co _))) ?_
 refine(mt _ (y.extract (((y.size:Int)-2).toNat) y.size) 0 2 _ ⟨(cx.blk (dTn (cx.an 6)).2 rfl),by first|omega|(rw[ByteArray.size_extract];omega),by first|omega|(rw[ByteArray.size_extract];omega)⟩ (by omega) (by first|omega|(rw[ByteArray.size_extract];omega))).mono ?_
 rintro e W1 ⟨rfl,ot,hu⟩
 refine⟨_,rfl,i4 (dTn (cx.an 6)).2 rfl rfl hu ot.1 (fun f o X' hs hb hv hx=>?_)⟩
 rw[hb 97 (by decide)]
 exact⟨(hv 98 rfl).1.trans rfl,hx⟩
 refine svA fun g b W X cx=>?_
 exact ar (n:=1) rfl (cx.an 8) (cx.an 2) (by kernel_rfl) (by kernel_rfl) (by kernel_rfl) cx (cx.init 4 _ rfl) rfl (nle rfl) (by kernel_rfl) rfl rfl rfl (fun _ _ _ _ _=>id)
 refine svA fun g b W X cx=>?_
 exact ar (n:=1) rfl (cx.an 10) (dTn (cx.an 7)).1 (by kernel_rfl) (by kernel_rfl) (by kernel_rfl) cx (dTn (cx.an 9)) rfl (nle rfl) (by kernel_rfl) rfl rfl rfl (fun _ _ _ _ _=>id)
 intro f b X Rv hD zy fr af
 simp only[exq 6 ((dTn (hD 7 lq)).2),exq 8 ((dTn (hD 11 lq)))] at zy
 simp only[ed 97 ((dTn (hD 6 lq)).1),ed 98 ((dTn (hD 7 lq)).1)] at af
 generalize pb (b 97)=Oe at zy af
 clear hD;subst af;clear f b X
 refine aa ?_
 exact⟨(y.extract 0 (((y.size:Int)-2).toNat)),(aI (y.extract (((y.size:Int)-2).toNat) y.size) 0 2:Int),by rw[cc,if_pos (by omega)];dsimp only;rw[show ((y.size:Int)-2).toNat=y.size-2 by omega,qk _ _ _ _ (by omega)];rfl,by rw[cv,if_pos (by omega),ByteArray.size_extract];show decide (y.size<6)= _;rw[decide_eq_false (by omega),decide_eq_false (by omega)],by rw[ByteArray.size_extract];omega,(by kernel_rfl),zy.pk [0,1,2,3,5]⟩
 refine wp_skip (aa ?_)
 exact⟨y,(-1),by rw[cc,if_neg (by omega)],by rw[cv,if_neg (by omega)],hyz,(by kernel_rfl),uG.pk [0,1,2,3,4]⟩
 rintro a80 BP ⟨x,kd,hpx,hbx,hxz,hj_,dY⟩
 refine ovz hj_ fun P7=>?_
 refine wp_seq (wp_seq (sqr (sqp [.k 101 (vp po)] ?_)))
 refine al 4 dY ?_
 refine sqp [.k 103 (vi ((x.size:Int))),.k 104 (.bool (decide ((x.size:Int)<4)))] ?_
 refine aa (wds (fun Lk IZ=>?_) fun Lk IZ=>?_)
 refine wp_seq (sqr (sqp [.k 105 (.agg #[vi 0,vi 0,vi 0,.string ByteArray.empty,.bool false,.slice none 0 0,vi 0])] ?_))
 refine aF (n:=7) 1 #[vi 0,vi 0,vi 0,.string ByteArray.empty,.bool false,.slice none 0 0,vi 0] dY fun P8 BQ=>?_
 refine sqp [.k 3 (.bool false)] ?_
 refine aa (wp_ret (ai (aB (ai (ai (aB (ai ?_)))))))
 refine bpr (.tuple #[.agg #[vi 0,vi 0,vi 0,.string ByteArray.empty,.bool false,.slice none 0 0,vi 0],.bool false]) (cq Try.results69 (rpa (BQ.blk 1 rfl) 0 7) rpt) ?_
 exact iZ (yh (i:=j) (by omega) (by rw[hn];omega) (by rw[jn];exact hy0) (by rw[lx,jn];rw[hbx];exact decide_eq_true (by omega))) BQ.ext
 refine wp_skip (aa ?_)
 have hx4:cv lv (j,y)=false:=by rw[hbx];exact decide_eq_false (by omega)
 have hTl_:(T.flatMap enC).length=nn*3:=by rw[eH aH,hnn]
 refine sqr (sqp [.k 106 (.pointer (some ⟨lD,5,none⟩))] ?_)
 refine al 2 dY ?_
 refine d9 4 3 dY ?_
 refine pT 104 3 1 (enC (x,j,kd)) dY (@fun g b W X cx=>by have Ll:g (.tmp 108)= .agg #[.string x,vi ((j:Int)),vi kd]:=(cx.ou 108);simp[go_sem,Ll,enC]) fun MS P9 I0=>?_
 refine sN (nn+1) ((T++[(x,j,kd)]).flatMap enC) 3 I0 Try.infoEnt (fun cx=>(At.of_ownN (cx.ri 5 rfl))) (h1:=by simp[enC,Value.oneCell']) (hC:=Fe _ _) fun wO wP Qa I1=>?_
 refine sqp [.k 111 (.pointer (some ⟨lD,5,none⟩))] ?_
 refine aF (n:=1) 2 #[vi 0,vi (lv),vi ((aI h 2 2:Int)-1),.string (h.extract 4 h.size),.bool ((aI h 1 1:Int)==1),.slice wO (nn+1) wP,vi ((fr:Int))] I1 fun MT wQ=>?_
 refine aw (aa (sqr (sqp [.m 67 7,sI 68 ((j:Int)-1) (by omega),.m 7 68] ?_)))
 refine aa ?_
 rw[show ((j:Int)-1)=((j-1:Nat):Int) by omega]
 refine⟨((j-1))+1,by omega,?_⟩
 exact⟨(j-1),(nn+1),(T++[(x,j,kd)]),wO,wP,fr,by omega,by rw[Nat.sub_add_cancel (by omega),hps,z5,hpx,<-hT],by rw[Nat.sub_add_cancel (by omega),hps,List.any_cons,hx4,hbad];rfl,by rw[List.length_append,hnn];rfl,by omega,by rw[Nat.sub_add_cancel (by omega),hpf];exact af,(fun e he=>by rcases List.mem_append.1 he with h_|h_;exact hTz e h_;rw[List.mem_singleton] at h_;subst h_;exact hxz),rfl,(by kernel_rfl),wQ.pk [0,1,2,3]⟩
 refine wp_exit (am (am (bj (aa (wp_seq ?_)))))
 have hj0:j=0:=by omega
 rw[hj0] at hT hbad af
 obtain⟨M,hM⟩:∃M,(bp 1 l).map (cc lv)=M:=⟨_,rfl⟩
 have hTM:T.reverse=M:=by rw[hT,<-hM,ve,List.reverse_reverse];rfl
 have hMl:M.length=nn:=by rw[<-hTM,List.length_reverse,hnn]
 have hMz:∀e∈M,e.1.size<=1000000:=by rw[<-hTM];exact fun e he=>hTz e (List.mem_reverse.1 he)
 have hr19:nn<=19:=by rw[<-hMl,<-hM,List.length_map];exact hl19
 refine sqr (sqp [.k 112 (.pointer (some ⟨lD,5,none⟩))] ?_)
 refine al 2 dq ?_
 refine lU (.tuple #[]) (eO 104 3 (.slice EA nn ec) nn (M.flatMap enC)) 3 dq (by
   refine svA fun g b W X cx=>?_
   refine ax.call (av (args:=#[.slice EA nn ec]) rfl cx.sees rfl (by kernel_rfl) (br (cx.ou 113))) ?_
   refine(Gx hTM (CR _ nn _ T _ (cx.ri 3 rfl) hnn (by omega))).mono ?_
   rintro e W1 ⟨rfl,aR⟩
   refine⟨_,rfl,bw (E:=eO 104 3 (.slice EA nn ec) nn (T.flatMap enC)) [eO 104 3 (.slice EA nn ec) nn (M.flatMap enC)] (cx.init 3 _ rfl) rfl rfl aR (fun f o X' hs hb hv hN=>?_)⟩
   have aZ:=(hv 114 rfl).1;have aJ:=(hv 114 rfl).2
   exact⟨aZ.trans rfl,(List.cons.inj hN).1⟩) fun Qb BR=>?_
 refine aa (wp_seq (sqr (sqp [.k 115 (.pointer (some ⟨lD,5,none⟩))] ?_)))
 refine al 2 BR ?_
 refine lU (.tuple #[]) (eO 104 3 (.slice EA nn ec) nn (((cW M.reverse).reverse).flatMap enC)) 3 BR (by
   refine svA fun g b W X cx=>?_
   refine ax.call (av (args:=#[.slice EA nn ec,.func (.func 97) #[] #[]]) rfl cx.sees rfl (by kernel_rfl) (aK (cx.ou 116) (cx.sees.func _))) ?_
   refine(Av _ nn _ M _ (cx.ri 3 rfl) hMl (by omega) hMz (by omega)).mono ?_
   rintro e W1 ⟨rfl,aR⟩
   refine⟨_,rfl,bw (E:=eO 104 3 (.slice EA nn ec) nn (M.flatMap enC)) [eO 104 3 (.slice EA nn ec) nn (((cW M.reverse).reverse).flatMap enC)] (cx.init 3 _ rfl) rfl rfl aR (fun f o X' hs hb hv hN=>?_)⟩
   have aZ:=(hv 117 rfl).1;have aJ:=(hv 117 rfl).2
   exact⟨aZ.trans rfl,(List.cons.inj hN).1⟩) fun Qc BS=>?_
 refine aa (wp_seq (sqr ?_))
 refine d9 2 7 BS ?_
 refine aF (n:=7) 1 #[vi 0,vi (lv),vi ((aI h 2 2:Int)-1),.string (h.extract 4 h.size),.bool ((aI h 1 1:Int)==1),.slice EA nn ec,vi ((fr:Int))] BS fun MU rL=>?_
 refine sqp [.k 3 (.bool true)] ?_
 refine aa (wp_ret ?_)
 refine bpr (.tuple #[.agg #[vi 0,vi (lv),vi ((aI h 2 2:Int)-1),.string (h.extract 4 h.size),.bool ((aI h 1 1:Int)==1),.slice EA nn ec,vi ((fr:Int))],.bool true]) (cq Try.results69 (rpa (rL.blk 1 rfl) 0 7) rpt) ?_
 have hpk_:=rL.pick [3] (by decide) rfl
 have hEl:((cW M.reverse).reverse).length=nn:=by rw[List.length_reverse,lp,List.length_reverse,hMl]
 rw[t9 dl,gn hok (by rw[lx];exact hbad),lx,show srt lv (bp 1 l)=(cW M.reverse).reverse by rw[srt,hM]]
 exact⟨EA,ec,by rw[knV];dsimp only;rw[hEl,af,<-hn,IG];rfl,by dsimp only;rw[hEl];exact hpk_⟩
theorem FS(k lsn:Int)(A:Option Addr)(c:Nat)(w:World):
  Calls Try.prog 69 #[.agg #[.int .i64 k,.int .i64 lsn,.slice A 0 c]] w (iC 0 (cf k []) w):=by
 go_enter Try.func69,Try.ntmps69
 have aq:=St.start w
 refine wp_seq (sqr ?_)
 refine bX #[vi k,vi lsn,.slice A 0 c] aq fun bB W1 aC=>?_
 refine bW #[vi 0,vi 0,vi 0,.string ByteArray.empty,.bool false,.slice none 0 0,vi 0] aC fun ox W2 aV=>?_
 refine sqp [.k 3 (.bool false)] ?_
 refine aa (wp_seq (wp_seq (sqr (sqp [.k 11 (vp bB)] ?_))))
 refine al 0 aV ?_
 refine sqp [.k 13 (.bool (k != 2)),.m 14 13] ?_
 refine fo 14 [15,16,17,18] ?_ rfl (fun hq=>?_) ?_
 rotate_left
 refine sqp [.k 15 (.pointer (some ⟨bB,2,none⟩))] ?_
 refine al 0 aV ?_
 refine sqp [.k 17 (vi 0),.k 18 (.bool true)] ?_
 exact sqe
 refine dn ?_
 have hd13:((k != 2)||true)=true:=Bool.or_true _
 refine sqp [Dg 19 (k != 2) true true hd13] ?_
 refine aa (wct rfl (wp_seq (sqr (sqp [.k 20 (.agg #[vi 0,vi 0,vi 0,.string ByteArray.empty,.bool false,.slice none 0 0,vi 0])] ?_))))
 refine aF (n:=7) 1 #[vi 0,vi 0,vi 0,.string ByteArray.empty,.bool false,.slice none 0 0,vi 0] aV fun ow cj=>?_
 refine sqp [.k 3 (.bool false)] ?_
 refine aa (wp_ret (ai ?_))
 refine bpr (.tuple #[.agg #[vi 0,vi 0,vi 0,.string ByteArray.empty,.bool false,.slice none 0 0,vi 0],.bool false]) (cq Try.results69 (rpa (cj.blk 1 rfl) 0 7) rpt) ?_
 exact iZ (im (.inr (.inl rfl))) cj.ext
theorem tE(k lsn:Int)(A:Option Addr)(c:Nat)(its:List ByteArray)(w:World)(hA:At w A (its.map Value.string))(hl:its.length<=100000)(hsz:∀s∈its,s.size<=1000000)(hl19:(bp 1 its.tail).length<=19):
  Calls Try.prog 69 #[.agg #[.int .i64 k,.int .i64 lsn,.slice A its.length c]] w (iC 0 (cf k its) w):=by
 cases its with
 |nil=>exact FS k lsn A c w
 |cons h l=>exact Gm k lsn A c _ h l w hA rfl hl hsz hl19
end
section
open Go.RowKit
def iv:Value->Int
 | .int _ n=>n
 |_=>0
structure PgT where
 k:Int
 l:Int
 A:Option Addr
 c:Nat
 its:List ByteArray
def pt0:PgT:=⟨0,0,none,0,[]⟩
def ptC(p:PgT):List Value:=[.int .i64 p.k,.int .i64 p.l,.slice p.A p.its.length p.c]
theorem kk(p:PgT):(ptC p).length=3:=rfl
def abT(p:PgT):PgS:=(p.k,p.l,p.its)
structure BkO (W:World) (b:Nat) (LA:Option Addr) (lc n:Nat) (Ps:List PgT):Prop where
 blk:Blk W b 64 #[.slice LA n lc]
 at_:At W LA (Ps.flatMap ptC)
 len:Ps.length=n
 its:∀p∈Ps,At W p.A (p.its.map Value.string)
def vP(W:World)(b:Nat)(ps:List PgS):Prop:=∃LA lc Ps,Ps.map abT=ps/\BkO W b LA lc ps.length Ps
theorem BkO.ext{W W':World}{b lc n:Nat}{LA:Option Addr}{Ps:List PgT}(h:BkO W b LA lc n Ps)(hx:Ext W W'):BkO W' b LA lc n Ps:=⟨h.blk.ext hx,h.at_.ext hx,h.len,fun p hp=>(h.its p hp).ext hx⟩
structure OkS (ps:List PgS):Prop where
 len:ps.length<=1000
 its:∀p∈ps,p.2.2.length<=101
 sz:∀p∈ps,∀s∈p.2.2,s.size<=900000
def OkC(ps:List PgS):Prop:=∀p∈ps,(bp 1 p.2.2.tail).length<=19
def pgV(ps:List PgS)(n:Int):PgS:=if 0<=n/\n<ps.length then ps.getD n.toNat aP else aP
def pgB(ps:List PgS)(n:Int):Bool:=decide (0<=n/\n<ps.length)
def pgT(ps:List PgS)(n:Int)(A:Option Addr)(c:Nat):Value:= .tuple #[.agg #[.int .i64 (pgV ps n).1,.int .i64 (pgV ps n).2.1,.slice A (pgV ps n).2.2.length c],.bool (pgB ps n)]
def pgR(Ps:List PgT)(n:Int):PgT:=if 0<=n/\n<Ps.length then Ps.getD n.toNat pt0 else pt0
theorem ct{α:Type}{l:List α}{n:Nat}{d:α}(h:n<l.length):l[n]? =some (l.getD n d)/\l.getD n d∈l:=by
 rw[List.getD_eq_getElem?_getD,List.getElem?_eq_getElem h]
 exact⟨rfl,List.getElem_mem _⟩
theorem vc(Ps:List PgT)(n:Nat):(Ps.map abT).getD n aP=abT (Ps.getD n pt0):=by
 rw[List.getD_eq_getElem?_getD,List.getD_eq_getElem?_getD,List.getElem?_map]
 cases Ps[n]? <;>rfl
theorem qO{ps:List PgS}(h:OkS ps)(n:Int):(pgV ps n).2.2.length<=101/\∀s∈(pgV ps n).2.2,s.size<=900000:=by
 unfold pgV
 split
 rename_i hn
 have h1:=(ct (l:=ps) (n:=n.toNat) (d:=aP) (by omega)).2
 exact⟨h.its _ h1,h.sz _ h1⟩
 exact⟨by decide,fun s hs=>nomatch hs⟩
theorem KX{ps:List PgS}(h:OkC ps)(n:Int):(bp 1 (pgV ps n).2.2.tail).length<=19:=by
 unfold pgV
 split
 rename_i hn
 exact h _ (ct (l:=ps) (n:=n.toNat) (d:=aP) (by omega)).2
 exact Nat.zero_le _
theorem gH(ps:List PgS)(n:Int):ao ps n=if pgB ps n then cf (pgV ps n).1 (pgV ps n).2.2 else none:=by
 unfold ao pgB pgV
 by_cases h:0<=n/\n<ps.length
 rw[if_pos h,if_pos h,if_pos (decide_eq_true h)]
 rw[if_neg h,if_neg (by simpa using h)]
structure PgsOk (w:World) (tt:TypeId) (tv:Value) (ps:List PgS):Prop where
 ex:∃f rv,In Try.prog tt tv "Page" f rv/\dV Try.prog f=true/\∀n,∃A c,At w A ((pgV ps n).2.2.map Value.string)/\∀W,Ext w W->Calls Try.prog f #[rv,.int .i64 n] W (Ret (pgT ps n A c) W)
theorem PgsOk.ext{w W:World}{tt:TypeId}{tv:Value}{ps:List PgS}(h:PgsOk w tt tv ps)(hx:Ext w W):PgsOk W tt tv ps:=by
 obtain⟨f,rv,h1,h2,h3⟩:=h.ex
 exact⟨⟨f,rv,h1,h2,fun n=>let ⟨A,c,h4,h5⟩:=h3 n;⟨A,c,h4.ext hx,fun W' hx'=>h5 W' (hx.trans hx')⟩⟩⟩
theorem EE{f:FuncId}{args:Array Value}{w:World}{o:Option NoD}(h:o=none)(hc:Calls Try.prog f args w (jP o w)):Calls Try.prog f args w (Ret nd0 w):=by subst h;exact hc
theorem Ak{f:FuncId}{args:Array Value}{w:World}{o:Option NoD}{n:NoD}(h:o=some n)(hc:Calls Try.prog f args w (jP o w)):Calls Try.prog f args w (jP (some n) w):=h ▸ hc
theorem rh{f:FuncId}{args:Array Value}{w:World}{pg:Int}{o:Option NoD}(h:o=none)(hc:Calls Try.prog f args w (iC pg o w)):Calls Try.prog f args w (iC pg none w):=h ▸ hc
theorem nF{f:FuncId}{args:Array Value}{w:World}{pg:Int}{o:Option NoD}{n:NoD}(h:o=some n)(hc:Calls Try.prog f args w (iC pg o w)):Calls Try.prog f args w (iC pg (some n) w):=h ▸ hc
theorem F4{Ps:List PgT}{x:Int}(h:x<0\/Ps.length<=x):pgT (Ps.map abT) x (pgR Ps x).A (pgR Ps x).c= .tuple #[.agg #[.int .i64 0,.int .i64 0,.slice none 0 0],.bool false]:=by
 have e1:pgV (Ps.map abT) x=aP:=by rw[pgV,if_neg (by rw[List.length_map];omega)]
 have e2:pgB (Ps.map abT) x=false:=decide_eq_false (by rw[List.length_map];omega)
 have e3:pgR Ps x=pt0:=by rw[pgR,if_neg (by omega)]
 rw[pgT,e1,e2,e3];rfl
theorem y2{Ps:List PgT}{N:Nat}{p:PgT}(h:N<Ps.length)(hp:Ps.getD N pt0=p):pgV (Ps.map abT) (N:Int)=abT p/\pgR Ps (N:Int)=p:=by
 refine⟨?_,by rw[pgR,if_pos (by omega)];exact hp⟩
 rw[pgV,if_pos (by rw[List.length_map];omega)]
 show (Ps.map abT).getD N aP= _
 rw[vc,hp]
theorem Gq{Ps:List PgT}{N:Nat}{p:PgT}(h:N<Ps.length)(hp:Ps.getD N pt0=p):pgT (Ps.map abT) (N:Int) (pgR Ps (N:Int)).A (pgR Ps (N:Int)).c= .tuple #[.agg #[.int .i64 p.k,.int .i64 p.l,.slice p.A p.its.length p.c],.bool true]:=by
 have e2:pgB (Ps.map abT) (N:Int)=true:=decide_eq_true (by rw[List.length_map];omega)
 obtain⟨e1,e3⟩:=y2 h hp
 rw[pgT,e1,e2,e3];rfl
theorem xZ(b:Nat)(LA:Option Addr)(lc n:Nat)(Ps:List PgT)(ps:List PgS)(x:Int)(w:World)(hB:BkO w b LA lc n Ps)(hps:Ps.map abT=ps)(hl:n<=1000):
  Calls Try.prog 58 #[.pointer (some ⟨b,0,none⟩),.int .i64 x] w (Ret (pgT ps x (pgR Ps x).A (pgR Ps x).c) w):=by
 have hPl:=hB.len
 go_enter Try.func58,Try.ntmps58
 have aq:=St.start w
 refine wp_seq (sqr (bW #[vi 0,vi 0,.slice none 0 0] aq fun aW W1 aC=>?_))
 refine sqp [.k 5 (.bool false)] ?_
 refine aa (wp_seq (wp_seq (sqr (sqp [.m 6 1,.k 7 (.bool (decide (x<0))),.m 8 7] ?_))))
 refine fo 8 [9,10,11,12,13,14,15] ?_ rfl (fun hq=>?_) ?_
 rotate_left
 refine sqp [.m 9 1,.m 10 0,.k 11 (vp b),.k 12 (vp b)] ?_
 refine sql (.slice LA n lc) aC (fun cx=>ae rfl (by kernel_rfl) (cx.ou 12) ((Blk.ext hB.blk cx.upd.to_ext).cell 0)) ?_
 refine sqp [.k 14 (vi ((n:Int))),.k 15 (.bool (decide ((n:Int)<=x)))] ?_
 exact sqe
 refine dn ?_
 refine sqp [sPo 16 (decide (x<0)) (decide ((n:Int)<=x))] ?_
 refine aa (wbs (fun gU=>?_) fun gU=>?_)
 have pq:=gU
 simp only[zB] at pq
 refine wp_seq (sqr (sqp [.k 17 (.agg #[vi 0,vi 0,.slice none 0 0])] ?_))
 refine aF (n:=3) 0 #[vi 0,vi 0,.slice none 0 0] aC fun ov bP=>?_
 refine sqp [.k 5 (.bool false)] ?_
 refine aa (wp_ret (ai ?_))
 refine bpr (.tuple #[.agg #[vi 0,vi 0,.slice none 0 0],.bool false]) (cq Try.results58 (rpa (bP.blk 0 rfl) 0 3) rpt) ?_
 exact Ret.of (by rw[<-hps,F4 (Ps:=Ps) (x:=x) (by omega)]) bP.ext
 have pq:=gU
 simp only[zB] at pq
 obtain⟨Of,Og⟩:=pq
 refine wp_skip (aa (wp_seq ?_))
 obtain⟨N,rfl⟩:∃N:Nat,x=(N:Int):=⟨x.toNat,by omega⟩
 obtain⟨p,I2⟩:∃z,Ps.getD N pt0=z:=⟨_,rfl⟩
 have hp:=ct (l:=Ps) (n:=N) (d:=pt0) (by omega)
 rw[I2] at hp
 refine sqr (sqp [.m 18 0,.k 19 (vp b),.k 20 (vp b)] ?_)
 refine sql (.slice LA n lc) aC (fun cx=>ae rfl (by kernel_rfl) (cx.ou 20) ((Blk.ext hB.blk cx.upd.to_ext).cell 0)) ?_
 refine sqp [.m 22 1] ?_
 refine sql (.pointer (some ((ad LA).add (N*3)))) aC (fun cx=>aD (e:=51) (m:=N) (sz:=3) rfl (by kernel_rfl) (by kernel_rfl) (cx.ou 21) (cx.ou 22) (by omega) (by omega) (hB.at_.ext cx.upd.to_ext) (be (sz:=3) kk (by decide) (by omega))) ?_
 refine sql (.agg #[vi p.k,vi p.l,.slice p.A p.its.length p.c]) aC (fun cx=>aY (f:=ptC) (m:=N) (sz:=3) (off:=0) (n:=3) rfl (by kernel_rfl) (by kernel_rfl) (cx.ou 23) rfl kk (hB.at_.ext cx.upd.to_ext) hp.1 (fun k hk=>match k,hk with|0,_=>rfl|1,_=>rfl|2,_=>rfl|k+3,hk=>absurd hk (by omega))) ?_
 refine aF (n:=3) 0 #[vi p.k,vi p.l,.slice p.A p.its.length p.c] aC fun BT ev=>?_
 refine sqp [.k 5 (.bool true)] ?_
 refine aa (wp_ret ?_)
 refine bpr (.tuple #[.agg #[vi p.k,vi p.l,.slice p.A p.its.length p.c],.bool true]) (cq Try.results58 (rpa (ev.blk 0 rfl) 0 3) rpt) ?_
 exact Ret.of (by rw[<-hps,Gq (by omega) I2]) ev.ext
theorem tG(b:Nat)(ps:List PgS)(x:Int)(w:World)(hB:vP w b ps)(hl:ps.length<=1000):∃A c,At w A ((pgV ps x).2.2.map Value.string)/\∀W,Ext w W->Calls Try.prog 58 #[.pointer (some ⟨b,0,none⟩),.int .i64 x] W (Ret (pgT ps x A c) W):=by
 obtain⟨LA,lc,Ps,h1,h2⟩:=hB
 refine⟨(pgR Ps x).A,(pgR Ps x).c,?_,fun W hW=>xZ b LA lc _ Ps ps x W (h2.ext hW) h1 hl⟩
 by_cases h:0<=x/\x<Ps.length
 obtain⟨N,rfl⟩:∃N:Nat,x=(N:Int):=⟨x.toNat,by omega⟩
 obtain⟨e1,e3⟩:=y2 (Ps:=Ps) (N:=N) (by omega) rfl
 rw[<-h1,e1,e3]
 exact h2.its _ (ct (by omega)).2
 have e1:pgV ps x=aP:=by rw[<-h1,pgV,if_neg (by rw[List.length_map];exact h)]
 rw[e1];exact At.nil _ _
theorem yo(b:Nat)(ps:List PgS)(x:Int)(w:World)(hB:vP w b ps)(hok:OkS ps):
  Calls Try.prog 55 #[.pointer (some ⟨b,0,none⟩),.int .i64 x] w (jP (ao ps x) w):=by
 have hvk:=qO hok x
 obtain⟨A,c,hA,hc0⟩:=tG b ps x w hB hok.len
 go_enter Try.func55,Try.ntmps55
 have aq:=St.start w
 refine wp_seq (sqr (bW #[.bool false,.bool false,vi 0,vi 0,.string ByteArray.empty,.slice none 0 0,.slice none 0 0,.slice none 0 0] aq fun aW W1 aC=>?_))
 refine aa (wp_seq (sqr (sqp [.m 8 0,.m 9 1] ?_)))
 refine sqk (.tuple #[.agg #[vi ((pgV ps x).1),vi ((pgV ps x).2.1),.slice A ((pgV ps x).2.2.length) c],.bool (pgB ps x)]) aC (fun cx=>⟨_,hc0 _ cx.upd.to_ext,(aK (cx.ou 8) (cx.ou 9))⟩) fun W4 bQ=>?_
 refine sqp [.m 7 10,.k 11 (.agg #[vi ((pgV ps x).1),vi ((pgV ps x).2.1),.slice A ((pgV ps x).2.2.length) c]),.k 12 (.bool (pgB ps x))] ?_
 refine bW #[vi 0,vi 0,.slice none 0 0] bQ fun Qd W8 bt=>?_
 refine aF (n:=3) 1 #[vi ((pgV ps x).1),vi ((pgV ps x).2.1),.slice A ((pgV ps x).2.2.length) c] bt fun W9 bh=>?_
 refine sqp [.m 6 12] ?_
 refine aa (wp_seq (wp_seq (sqr (sqp [.m 13 6,.k 14 (.bool (!(pgB ps x)))] ?_))))
 refine aa ?_
 rcases Bool.eq_false_or_eq_true (pgB ps x) with dl|dl
 refine wp_cond_false (show Act.eval _ _= .bool false from(congrArg Value.bool (by rw[dl];rfl))) (wp_skip (aa (wp_seq ?_)))
 rcases hnd:cf (pgV ps x).1 (pgV ps x).2.2 with _|nd
 refine sqr ?_
 refine d9 1 3 bh ?_
 refine sqk (.agg #[.bool false,.bool false,vi 0,vi 0,.string ((⟨#[]⟩:ByteArray)),.slice none 0 0,.slice none 0 0,.slice none 0 0]) bh (fun cx=>⟨_,EE hnd (tQ _ _ _ _ _ _ (hA.ext cx.upd.to_ext) (Nat.le_trans hvk.1 (by decide)) (fun s hs=>Nat.le_trans (hvk.2 s hs) (by decide))),(br (cx.ou 16))⟩) fun ow cj=>?_
 refine aF (n:=8) 0 #[.bool false,.bool false,vi 0,vi 0,.string ((⟨#[]⟩:ByteArray)),.slice none 0 0,.slice none 0 0,.slice none 0 0] cj fun ov bP=>?_
 refine aa (wp_ret ?_)
 refine bpr (.agg #[.bool false,.bool false,vi 0,vi 0,.string ((⟨#[]⟩:ByteArray)),.slice none 0 0,.slice none 0 0,.slice none 0 0]) (ba (n:=8) Try.results55 rfl (by kernel_rfl) (by kernel_rfl) (bP.blk 0 rfl) rfl) ?_
 exact je (by rw[gH,dl];exact hnd) bP.ext
 refine aj [0,1,3] [[1],[],[0]] [[],[2,3,4],[5]] [[],[],[0]] [.c 16 (.agg #[vi ((pgV ps x).1),vi ((pgV ps x).2.1),.slice A ((pgV ps x).2.2.length) c]),.a 17,.n] (fun ix f d X=>match ix with|0=>True|1=>f 17= .agg #[.bool true,.bool nd.dead,vi nd.lv,vi nd.right,.string nd.high,.slice (sA (tg (d 17) 5)) nd.es.length (sC (tg (d 17) 5)),.slice (sA (tg (d 17) 6)) nd.es.length (sC (tg (d 17) 6)),.slice (sA (tg (d 17) 7)) nd.es.length (sC (tg (d 17) 7))]/\X 2=eO 9 1 (.slice (sA (tg (d 17) 5)) nd.es.length (sC (tg (d 17) 5))) nd.es.length (nd.es.map stv)/\X 3=eO 3 1 (.slice (sA (tg (d 17) 6)) nd.es.length (sC (tg (d 17) 6))) nd.es.length (nd.es.map slv)/\X 4=eO 3 1 (.slice (sA (tg (d 17) 7)) nd.es.length (sC (tg (d 17) 7))) nd.es.length (nd.es.map kdv)|2=>X 5=eB aW 66 #[.bool true,.bool nd.dead,vi nd.lv,vi nd.right,.string nd.high,.slice (sA (tg (d 17) 5)) nd.es.length (sC (tg (d 17) 5)),.slice (sA (tg (d 17) 6)) nd.es.length (sC (tg (d 17) 6)),.slice (sA (tg (d 17) 7)) nd.es.length (sC (tg (d 17) 7))]|_=>True) [1,2,3,4,5] [0,1,2] [(16,0,2,18)] bh ?_ ?_ ?_
 exact fun ix _ _ _ _ _ _ hs hb hx h=>match ix,h with
 |1,h=>by dsimp only;rw[<-hs 17 rfl,<-hb 17 rfl,<-hx 2 rfl,<-hx 3 rfl,<-hx 4 rfl];exact h
 |2,h=>by dsimp only;rw[<-hb 17 rfl,<-hx 5 rfl];exact h
 |0,_|_+3,_=>trivial
 refine⟨?_,?_,?_,trivial⟩
 exact xs4 rfl id fun cx=>aO (n:=3) rfl (by kernel_rfl) (by kernel_rfl) (cx.ou 5) (cx.bi 1 rfl) (nle rfl) rfl
 refine svA fun i d W X cx=>?_
 refine ax.call (av (args:=#[.agg #[vi ((pgV ps x).1),vi ((pgV ps x).2.1),.slice A ((pgV ps x).2.2.length) c]]) rfl cx.sees rfl (by kernel_rfl) (br (cx.an 0))) ?_
 refine(Ak hnd (tQ _ _ _ _ _ _ (hA.ext cx.upd.to_ext) (Nat.le_trans hvk.1 (by decide)) (fun s hs=>Nat.le_trans (hvk.2 s hs) (by decide)))).mono ?_
 rintro e W1 ⟨EA4,ec4,SA4,sc4,KA4,kc4,rfl,aR⟩
 refine⟨_,rfl,dy [eO 9 1 (.slice EA4 nd.es.length ec4) nd.es.length (nd.es.map stv),eO 3 1 (.slice SA4 nd.es.length sc4) nd.es.length (nd.es.map slv),eO 3 1 (.slice KA4 nd.es.length kc4) nd.es.length (nd.es.map kdv)] rfl rfl aR (fun f g X' hs hb hv hN=>?_)⟩
 have aZ:=(hv 17 rfl).1;have aJ:=(hv 17 rfl).2
 exact⟨aZ.trans (by rw[aJ];rfl),(by rw[aJ];exact(List.cons.inj hN).1),(by rw[aJ];exact(List.cons.inj (List.cons.inj hN).2).1),(by rw[aJ];exact(List.cons.inj (List.cons.inj (List.cons.inj hN).2).2).1)⟩
 refine svA fun i d W X cx=>?_
 exact ar (n:=8) rfl (cx.ou 4) (dTn (cx.an 1)).1 (by kernel_rfl) (by kernel_rfl) (by kernel_rfl) cx (cx.init 0 _ rfl) rfl (nle rfl) (by kernel_rfl) rfl rfl rfl (fun f g X' hs hb hx=>by rw[hb 17];exact hx)
 intro f d X um hD ca fr af
 simp only[exq 2 ((dTn (hD 1 lq)).2.1),exq 3 ((dTn (hD 1 lq)).2.2.1),exq 4 ((dTn (hD 1 lq)).2.2.2),exq 5 ((dTn (hD 2 lq)))] at ca
 simp only[ed 17 ((dTn (hD 1 lq)).1)] at af
 generalize sA (tg (d 17) 5)=EA17_17,sC (tg (d 17) 5)=cEA17_17,sA (tg (d 17) 6)=SA17_17,sC (tg (d 17) 6)=cSA17_17,sA (tg (d 17) 7)=KA17_17,sC (tg (d 17) 7)=cKA17_17 at ca af
 clear hD;subst af;clear f d X
 refine aa (wp_ret ?_)
 refine bpr (.agg #[.bool true,.bool nd.dead,vi nd.lv,vi nd.right,.string nd.high,.slice EA17_17 nd.es.length cEA17_17,.slice SA17_17 nd.es.length cSA17_17,.slice KA17_17 nd.es.length cKA17_17]) (ba (n:=8) Try.results55 rfl (by kernel_rfl) (by kernel_rfl) (ca.blk 4 rfl) rfl) ?_
 rw[gH,dl,if_pos rfl,hnd]
 exact⟨_,_,_,_,_,_,rfl,ca.pick [1,2,3] (by decide) rfl⟩
 refine wp_cond_true (show Act.eval _ _= .bool true from(congrArg Value.bool (by rw[dl];rfl))) (wp_seq (sqr (sqp [.k 15 (.agg #[.bool false,.bool false,vi 0,vi 0,.string ByteArray.empty,.slice none 0 0,.slice none 0 0,.slice none 0 0])] ?_)))
 refine aF (n:=8) 0 #[.bool false,.bool false,vi 0,vi 0,.string ByteArray.empty,.slice none 0 0,.slice none 0 0,.slice none 0 0] bh fun EG et=>?_
 refine aa (wp_ret (ai ?_))
 refine bpr (.agg #[.bool false,.bool false,vi 0,vi 0,.string ByteArray.empty,.slice none 0 0,.slice none 0 0,.slice none 0 0]) (ba (n:=8) Try.results55 rfl (by kernel_rfl) (by kernel_rfl) (et.blk 0 rfl) rfl) ?_
 exact je (by rw[gH,dl];rfl) et.ext
theorem gF(tt:TypeId)(tv:Value)(ps:List PgS)(x:Int)(w:World)(hS:PgsOk w tt tv ps)(hok:OkS ps)(hoc:OkC ps):
  Calls Try.prog 47 #[.iface tt (tv),.int .i64 x] w (iC x (ao ps x) w):=by
 have hvk:=qO hok x
 have hvc:=KX hoc x
 obtain⟨f0,rv,hm0,hf0,hc1⟩:=hS.ex
 obtain⟨A,c,hA,hc0⟩:=hc1 x
 go_enter Try.func47,Try.ntmps47
 have aq:=St.start w
 refine wp_seq (sqr (bW #[vi 0,vi 0,vi 0,.string ByteArray.empty,.bool false,.slice none 0 0,vi 0] aq fun aW W1 aC=>?_))
 refine sqp [.k 5 (.bool false)] ?_
 refine aa (wp_seq (sqr (sqp [.m 10 0,.m 11 1] ?_)))
 refine sqv (.tuple #[.agg #[vi ((pgV ps x).1),vi ((pgV ps x).2.1),.slice A ((pgV ps x).2.2.length) c],.bool (pgB ps x)]) aC (eI rfl rfl rfl rfl rfl (fun _ _ _ h=>h) fun f b W X cx=>⟨_,_,yP (args:=#[vi x]) (args':=#[rv,vi x]) rfl rfl (cx.ou 10) hm0 hf0 (br (cx.ou 11)) rfl,hc0 _ cx.upd.to_ext⟩) fun W5 bO=>?_
 refine sqp [.m 9 12,.k 13 (.agg #[vi ((pgV ps x).1),vi ((pgV ps x).2.1),.slice A ((pgV ps x).2.2.length) c]),.k 14 (.bool (pgB ps x))] ?_
 refine bW #[vi 0,vi 0,.slice none 0 0] bO fun Qe W9 bh=>?_
 refine aF (n:=3) 1 #[vi ((pgV ps x).1),vi ((pgV ps x).2.1),.slice A ((pgV ps x).2.2.length) c] bh fun ul cX=>?_
 refine sqp [.m 7 14] ?_
 refine aa (wp_seq (wp_seq (sqr (sqp [.m 15 7,.k 16 (.bool (!(pgB ps x)))] ?_))))
 refine aa ?_
 rcases Bool.eq_false_or_eq_true (pgB ps x) with gU|gU
 refine wp_cond_false (show Act.eval _ _= .bool false from(congrArg Value.bool (by rw[gU];rfl))) (wp_skip (aa (wp_seq ?_)))
 rcases hnd:cf (pgV ps x).1 (pgV ps x).2.2 with _|nd
 refine aj [0,1,3,7,7,0,47,127] [[1],[],[],[],[],[],[2]] [[],[],[],[],[],[2],[3]] [[],[],[],[],[],[],[2]] [.c 19 (.agg #[vi ((pgV ps x).1),vi ((pgV ps x).2.1),.slice A ((pgV ps x).2.2.length) c]),.a 20,.a 18,.a 21,.c 22 (.bool false),.a 8,.n,.k 7 (.bool false)] (fun ix d b X=>match ix with|0=>True|1=>d 20= .tuple #[.agg #[vi (iv (tg (tg (b 20) 0) 0)),vi 0,vi 0,.string ((⟨#[]⟩:ByteArray)),.bool false,.slice none 0 0,vi 0],.bool false]|2=>d 18= .tuple #[.agg #[vi (iv (tg (tg (b 20) 0) 0)),vi 0,vi 0,.string ((⟨#[]⟩:ByteArray)),.bool false,.slice none 0 0,vi 0],.bool false]|3=>d 21= .agg #[vi (iv (tg (tg (b 20) 0) 0)),vi 0,vi 0,.string ((⟨#[]⟩:ByteArray)),.bool false,.slice none 0 0,vi 0]|4=>True|5=>d 8=vp (pb (b 8))/\X 2=eB (pb (b 8)) 116 #[vi 0,vi 0,vi 0,.string ByteArray.empty,.bool false,.slice none 0 0,vi 0]|6=>X 3=eB (pb (b 8)) 116 #[vi (iv (tg (tg (b 20) 0) 0)),vi 0,vi 0,.string ((⟨#[]⟩:ByteArray)),.bool false,.slice none 0 0,vi 0]|_=>True) [0,1,3] [0,1,2,3,4,5,6] [(7,7,1,8),(0,5,1,1),(9,2,1,10),(0,0,2,2),(0,3,2,2)] cX ?_ ?_ ?_
 exact fun ix _ _ _ _ _ _ hs hb hx h=>match ix,h with
 |1,h=>by dsimp only;rw[<-hs 20 rfl,<-hb 20 rfl];exact h
 |2,h=>by dsimp only;rw[<-hs 18 rfl,<-hb 20 rfl];exact h
 |3,h=>by dsimp only;rw[<-hs 21 rfl,<-hb 20 rfl];exact h
 |5,h=>by dsimp only;rw[<-hs 8 rfl,<-hb 8 rfl,<-hx 2 rfl];exact h
 |6,h=>by dsimp only;rw[<-hb 8 rfl,<-hb 20 rfl,<-hx 3 rfl];exact h
 |0,_|4,_|_+7,_=>trivial
 refine⟨?_,?_,?_,?_,?_,?_,?_,trivial⟩
 exact xs4 rfl id fun cx=>aO (n:=3) rfl (by kernel_rfl) (by kernel_rfl) (cx.ou 6) (cx.bi 1 rfl) (nle rfl) rfl
 refine svA fun f b W X cx=>?_
 refine ax.call (av (args:=#[.agg #[vi ((pgV ps x).1),vi ((pgV ps x).2.1),.slice A ((pgV ps x).2.2.length) c]]) rfl cx.sees rfl (by kernel_rfl) (br (cx.an 0))) ?_
 refine(rh hnd (tE _ _ _ _ _ _ (hA.ext cx.upd.to_ext) (Nat.le_trans hvk.1 (by decide)) (fun s hs=>Nat.le_trans (hvk.2 s hs) (by decide)) hvc)).mono ?_
 rintro e W1 ⟨p4,rfl,hx⟩
 refine⟨_,rfl,cR [] rfl rfl hx (by simp) List.Pairwise.nil (fun d g X' hs hb hv hN=>?_)⟩
 have aZ:=(hv 20 rfl).1;have aJ:=(hv 20 rfl).2
 exact aZ.trans (by rw[aJ];rfl)
 exact sv rfl rfl rfl rfl rfl _ (fun _ _ _ h=>h) (fun b g h=>by rw[h 20 (by decide)]) fun f b W X cx=>b7 rfl (dTn (cx.an 1))
 exact sv rfl rfl rfl rfl rfl _ (fun _ _ _ h=>h) (fun b g h=>by rw[h 20 (by decide)]) fun f b W X cx=>aG rfl (dTn (cx.an 2)) rfl
 exact xs4 rfl id fun cx=>aG rfl (dTn (cx.an 2)) rfl
 refine svA fun f b W X cx=>?_
 exact bx (cs:=#[vi 0,vi 0,vi 0,.string ByteArray.empty,.bool false,.slice none 0 0,vi 0]) rfl (by kernel_rfl) rfl rfl (fun _ _ _ _ _=> .intro)
 refine svA fun f b W X cx=>?_
 exact ar (n:=7) rfl (dTn (cx.an 5)).1 (dTn (cx.an 3)) (by kernel_rfl) (by kernel_rfl) (by kernel_rfl) cx (dTn (cx.an 5)).2 rfl (nle rfl) (by kernel_rfl) rfl rfl rfl (fun d g X' hs hb hx=>by rw[hb 8,hb 20];exact hx)
 intro d b X ow hD cj fr af
 simp only[exq 3 ((dTn (hD 6 lq)))] at cj
 simp only[ed 20 ((dTn (hD 1 lq))),ed 18 ((dTn (hD 2 lq))),ed 21 ((dTn (hD 3 lq))),ed 8 ((dTn (hD 5 lq)).1)] at af
 generalize iv (tg (tg (b 20) 0) 0)=pg20_15,pb (b 8)=EN at cj af
 clear hD;subst af;clear d b X
 refine aa (wp_seq (sqr (sqp [.m 23 1,.k 24 (vp EN)] ?_)))
 refine aF (n:=1) 2 #[vi x,vi 0,vi 0,.string ((⟨#[]⟩:ByteArray)),.bool false,.slice none 0 0,vi 0] cj fun wB cB=>?_
 refine aa (wp_seq (sqr ?_))
 refine d9 2 7 cB ?_
 refine sqp [.k 26 (.bool false)] ?_
 refine aF (n:=7) 0 #[vi x,vi 0,vi 0,.string ((⟨#[]⟩:ByteArray)),.bool false,.slice none 0 0,vi 0] cB fun BN fI=>?_
 refine sqp [.k 5 (.bool false)] ?_
 refine aa (wp_ret ?_)
 refine bpr (.tuple #[.agg #[vi x,vi 0,vi 0,.string ((⟨#[]⟩:ByteArray)),.bool false,.slice none 0 0,vi 0],.bool false]) (cq Try.results47 (rpa (fI.blk 0 rfl) 0 7) rpt) ?_
 exact iZ (by rw[gH,gU];exact hnd) fI.ext
 refine sqr ?_
 refine d9 1 3 cX ?_
 refine gQ (fun EA20_24 ec20_24=> .tuple #[.agg #[vi 0,vi nd.lv,vi nd.right,.string nd.high,.bool nd.dead,.slice EA20_24 nd.es.length ec20_24,vi ((nd.free:Int))],.bool true]) (fun EA20_24 ec20_24=>eO 104 3 (.slice EA20_24 nd.es.length ec20_24) nd.es.length (nd.es.flatMap enC)) cX (fun cx=>⟨_,(nF hnd (tE _ _ _ _ _ _ (hA.ext cx.upd.to_ext) (Nat.le_trans hvk.1 (by decide)) (fun s hs=>Nat.le_trans (hvk.2 s hs) (by decide)) hvc)).mono (by rintro e W1 ⟨EA4,ec4,rfl,aR⟩;exact⟨_,_,rfl,aR⟩),(br (cx.ou 19))⟩) fun EA20_24 ec20_24 I3 hZ=>?_
 refine sqp [.m 18 20,.k 21 (.agg #[vi 0,vi nd.lv,vi nd.right,.string nd.high,.bool nd.dead,.slice EA20_24 nd.es.length ec20_24,vi ((nd.free:Int))]),.k 22 (.bool true)] ?_
 refine bW #[vi 0,vi 0,vi 0,.string ByteArray.empty,.bool false,.slice none 0 0,vi 0] hZ fun Lm I4 iR=>?_
 refine aF (n:=7) 3 #[vi 0,vi nd.lv,vi nd.right,.string nd.high,.bool nd.dead,.slice EA20_24 nd.es.length ec20_24,vi ((nd.free:Int))] iR fun EO ew=>?_
 refine sqp [.k 7 (.bool true)] ?_
 refine aa (wp_seq (sqr (sqp [.m 23 1,.k 24 (vp Lm)] ?_)))
 refine aF (n:=1) 3 #[vi x,vi nd.lv,vi nd.right,.string nd.high,.bool nd.dead,.slice EA20_24 nd.es.length ec20_24,vi ((nd.free:Int))] ew fun EP fJ=>?_
 refine aa (wp_seq (sqr ?_))
 refine d9 3 7 fJ ?_
 refine sqp [.k 26 (.bool true)] ?_
 refine aF (n:=7) 0 #[vi x,vi nd.lv,vi nd.right,.string nd.high,.bool nd.dead,.slice EA20_24 nd.es.length ec20_24,vi ((nd.free:Int))] fJ fun I5 fg=>?_
 refine sqp [.k 5 (.bool true)] ?_
 refine aa (wp_ret ?_)
 refine bpr (.tuple #[.agg #[vi x,vi nd.lv,vi nd.right,.string nd.high,.bool nd.dead,.slice EA20_24 nd.es.length ec20_24,vi ((nd.free:Int))],.bool true]) (cq Try.results47 (rpa (fg.blk 0 rfl) 0 7) rpt) ?_
 rw[gH,gU,if_pos rfl,hnd]
 exact⟨_,_,rfl,fg.pick [2] (by decide) rfl⟩
 refine wp_cond_true (show Act.eval _ _= .bool true from(congrArg Value.bool (by rw[gU];rfl))) (wp_seq (sqr (sqp [.k 17 (.agg #[vi 0,vi 0,vi 0,.string ByteArray.empty,.bool false,.slice none 0 0,vi 0])] ?_)))
 refine aF (n:=7) 0 #[vi 0,vi 0,vi 0,.string ByteArray.empty,.bool false,.slice none 0 0,vi 0] cX fun wR ey=>?_
 refine sqp [.k 5 (.bool false)] ?_
 refine aa (wp_ret (ai ?_))
 refine bpr (.tuple #[.agg #[vi 0,vi 0,vi 0,.string ByteArray.empty,.bool false,.slice none 0 0,vi 0],.bool false]) (cq Try.results47 (rpa (ey.blk 0 rfl) 0 7) rpt) ?_
 exact iZ (by rw[gH,gU];rfl) ey.ext
end
section
open Go.RowKit
theorem sZ(z:Array Value)(hz:0<z.size)(n:Nat):(madeCells z ((n+1)*z.size)).toList=z.toList++(madeCells z (n*z.size)).toList:=by
 apply List.ext_getElem?
 intro j
 have e:∀m j,(madeCells z m).toList[j]? =if j<m then some (z[j % z.size]!) else none:=fun m j=>by
  by_cases h:j<m
  rw[if_pos h];simp[madeCells,h]
  rw[if_neg h];simp[madeCells,h]
 have hm:(n+1)*z.size=z.size+n*z.size:=by rw[Nat.add_mul];omega
 rw[e,hm]
 by_cases h:j<z.size
 rw[if_pos (by omega),List.getElem?_append_left (by simpa using h),Nat.mod_eq_of_lt h]
 simp[h]
 rw[List.getElem?_append_right (by simpa using h),Array.length_toList,e]
 by_cases h2:j<z.size+n*z.size
 rw[if_pos h2,if_pos (by omega),Nat.mod_eq_sub_mod (by omega)]
 rw[if_neg h2,if_neg (by omega)]
theorem s8{T:Type}(f:T->List Value)(t:T)(z:Array Value)(hz:z.toList=f t)(h0:0<z.size)(n:Nat):(madeCells z (n*z.size)).toList=(List.replicate n t).flatMap f:=by
 induction n with
 |zero=>
  rw[Nat.zero_mul]
  have:(madeCells z 0).toList.length=0:=by rw[Array.length_toList,size_madeCells]
  rw[List.eq_nil_of_length_eq_zero this];rfl
 |succ n ih=>rw[sZ z h0,ih,List.replicate_succ,List.flatMap_cons,hz]
section
variable{P:Program}{ops:Array Oper}{L:List Nat}{a0:Act}{w0:World}{bor:List Nat}{X0:List Ent}{us cr kl:List (List Nat)}
 {D:Nat->(Tmp->Value)->(Tmp->Value)->(Nat->Ent)->Prop}{i:Nat}{o:Oper}{ρ:Operand->Value}{β:Tmp->Value}{W:World}{X:Nat->Ent}
theorem DR{t e:TypeId}{x y:Operand}{k k':IntKind}{n sz:Nat}{j j':Int}{d:Tmp}{q:Nat}{inf:TypeInfo}{z:Value}{bytes:Nat}{xs:List Value}(h:o.op= .makeSlice t x y)(ht:P.underlying t=some (.slice e))(hi:P.info? e=some inf)(hz:inf.zero=some z)(hsize:inf.size=sz)(hby:inf.bytes=bytes)
  (hx:ρ x= .int k j) (hy:ρ y= .int k' j') (hj:j=(n:Int)) (hj':j'=(n:Int)) (hn:n*sz<=16777216) (hb:bytes*n<=281474976710656) (hml:n<=maxLen) (hC:(madeCells z.cells (n*sz)).toList=xs) (hd:o.dst=some d) (hc:atV cr i=[q])
  (hD:∀(b a:Tmp->Value) (X':Nat->Ent),(∀t,t≠d->b t=ρ (.tmp t))->(∀t,t≠d->a t=β t)->b d= .slice (sA (a d)) n n->X' q=eO e sz (.slice (sA (a d)) n n) n xs->D i b a X'):
  ax P o ρ W (cy cr kl D i o.dst ρ β W X):=by
 subst hj;subst hj';subst hby;subst hsize;subst hC
 obtain⟨W',hrun,ho,hg⟩:=run_makeSlice_full (P:=P) W W.heap.size t e inf z inf.size ht hi hz rfl k k' n hn hb hml (Nat.le_refl _)
 have hr:(execOp ρ o).run P W= .ok (.value (.slice (some ⟨W.heap.size,0,none⟩) n n)) W':=by
  unfold execOp;rw[h]
  simp only[hx,hy,Sem.run_bind,hrun,Result.andThen_ok,Sem.run_pure]
 refine ax.value hr ⟨[eO e inf.size (.slice (some ⟨W.heap.size,0,none⟩) n n) n (madeCells z.cells (n*inf.size)).toList],by rw[hc];rfl,⟨(Upd.refl _ W).grown hg (fun k hk=>by cases hk),fun e' he=>?_,List.pairwise_singleton _ _⟩,fun b a X' hs' hv hb hbv hx' hN=>hD b a X' (fun t ht=>hs' t (by rw[hd];simpa using ht.symm)) (fun t ht=>hb t (by rw[hd];simpa using ht.symm)) ?_ ?_⟩
 rw[List.mem_singleton] at he
 subst he
 obtain⟨h1,h2,h3⟩:=eS ho
 exact⟨h1,h2,fun k hk=>⟨.inr (h3 k hk).1,(h3 k hk).2⟩⟩
 rw[hv d hd,hbv d hd];rfl
 rw[hbv d hd]
 rw[hc] at hN
 exact(List.cons.inj hN).1
end
theorem CtxV.holdF{ops:Array Oper}{L:List Nat}{a0:Act}{w0:World}{bor:List Nat}{X0:List Ent}{us:List (List Nat)}{D:Nat->(Tmp->Value)->(Tmp->Value)->(Nat->Ent)->Prop}{i:Nat}{b:Operand->Value}{a:Tmp->Value}{W:World}{X:Nat->Ent}{q:Nat}{E:Ent}(cx:CtxV ops L a0 w0 bor X0 us D i b a W X)(hX:X q=E)(hu:(atV us i).contains q=true):E.holds W:=by
 have h:=(cx.ok q hu).holds
 rw[hX] at h;exact h
theorem CtxV.ltF{ops:Array Oper}{L:List Nat}{a0:Act}{w0:World}{bor:List Nat}{X0:List Ent}{us:List (List Nat)}{D:Nat->(Tmp->Value)->(Tmp->Value)->(Nat->Ent)->Prop}{i:Nat}{b:Operand->Value}{a:Tmp->Value}{W:World}{X:Nat->Ent}{q:Nat}{E:Ent}(cx:CtxV ops L a0 w0 bor X0 us D i b a W X)(hX:X q=E)(hu:(atV us i).contains q=true):∀k∈E.fp,k<W.heap.size:=fun k hk=>by
 subst hX;exact((cx.ok q hu).own k hk).2
theorem CtxV.keepF{ops:Array Oper}{L:List Nat}{a0:Act}{w0:World}{bor:List Nat}{X0:List Ent}{us:List (List Nat)}{D:Nat->(Tmp->Value)->(Tmp->Value)->(Nat->Ent)->Prop}{i:Nat}{b:Operand->Value}{a:Tmp->Value}{W:World}{X:Nat->Ent}{q q':Nat}{E F:Ent}(cx:CtxV ops L a0 w0 bor X0 us D i b a W X)(hX:X q=E)(hX':X q'=F)(hu:(atV us i).contains q=true)(hu':(atV us i).contains q'=true)(hne:q≠q'):∀W',Upd F.fp W W'->E.holds W':=fun W' hU=>by
 subst hX hX'
 have h1:=cx.ok q hu
 exact h1.loc W W' (fun k hk=>hU.block k (h1.own k hk).2 (cx.ap q q' hu hu' hne k hk)) h1.holds
theorem CtxV.keepAt{ops:Array Oper}{L:List Nat}{a0:Act}{w0:World}{bor:List Nat}{X0:List Ent}{us:List (List Nat)}{D:Nat->(Tmp->Value)->(Tmp->Value)->(Nat->Ent)->Prop}{i:Nat}{b:Operand->Value}{a:Tmp->Value}{W:World}{X:Nat->Ent}{q q' e sz n m c:Nat}{A:Option Addr}{xs:List Value}{F:Ent}(cx:CtxV ops L a0 w0 bor X0 us D i b a W X)(hX:X q=eO e sz (.slice A n c) m xs)(hX':X q'=F)(hu:(atV us i).contains q=true)(hu':(atV us i).contains q'=true)(hne:q≠q'):∀W',Upd F.fp W W'->At W' A xs:=fun W' hU=>
 At.of_ownN (cx.keepF hX hX' hu hu' hne W' hU)
theorem Cr(L:List ByteArray)(r:Nat):(L++List.replicate r ByteArray.empty).map Value.string++[.string ⟨#[]⟩]=(L++List.replicate (r+1) ByteArray.empty).map Value.string:=by
 rw[List.replicate_succ',<-List.append_assoc,List.map_append (l₂:=[ByteArray.empty])];rfl
theorem St.pack{w0 W:World}{bor:List Nat}{L S:List Ent}{E:Ent}(h:St w0 bor (L++S) W)(hfp:E.fp=S.flatMap (·.fp))(hh:E.holds W)(hl:E.loc):St w0 bor (L++[E]) W:=by
 have hin:∀k,k∈E.fp->∃e∈S,k∈e.fp:=fun k hk=>by rw[hfp] at hk;exact List.mem_flatMap.1 hk
 refine⟨h.upd,fun x hx=>?_,?_⟩
 rcases List.mem_append.1 hx with hx|hx
 exact h.ok x (List.mem_append_left _ hx)
 rw[List.mem_singleton] at hx
 subst hx
 exact⟨hh,hl,fun k hk=>let ⟨e,he,hke⟩:=hin k hk;(h.ok e (List.mem_append_right _ he)).own k hke⟩
 have ha:=h.apart
 rw[List.pairwise_append] at ha |-
 refine⟨ha.1,List.pairwise_singleton _ _,fun a ha' b hb k hk hkb=>?_⟩
 rw[List.mem_singleton] at hb
 subst hb
 obtain⟨e,he,hke⟩:=hin k hkb
 exact ha.2.2 a ha' e he k hk hke
theorem St.unpack{w0 W:World}{bor:List Nat}{S:List Ent}{E:Ent}(h:St w0 bor [E] W)(hfp:E.fp=S.flatMap (·.fp))(hS:∀e∈S,e.holds W/\e.loc)(ha:S.Pairwise Ent.apart):St w0 bor S W:=
 ⟨h.upd,fun x hx=>⟨(hS x hx).1,(hS x hx).2,fun k hk=>(h.ok E (List.mem_singleton.2 rfl)).own k (by rw[hfp];exact List.mem_flatMap.2 ⟨x,hx,hk⟩)⟩,ha⟩
def y5(p:PgT):Ent:=eO 9 1 (.slice p.A p.its.length p.c) p.its.length (p.its.map Value.string)
def ePt(Qs:List PgT):Ent:=eM (Qs.map y5)
theorem vk{Qs:List PgT}{W:World}(h:(ePt Qs).holds W){p:PgT}(hp:p∈Qs):At W p.A (p.its.map Value.string):=At.of_own (h (y5 p) (List.mem_map.2 ⟨_,hp,rfl⟩)).1
theorem St.mergeT{w0 W:World}{bor:List Nat}{L:List Ent}{Qs:List PgT}{p:PgT}(h:St w0 bor (L++[ePt Qs,y5 p]) W):St w0 bor (L++[ePt (Qs++[p])]) W:=by
 have h1:=St.merge h
 rw[ePt,List.map_append]
 exact h1
def bkL(b:Nat)(LA:Option Addr)(lc n:Nat)(Ps Qs:List PgT):List Ent:=[eB b 64 #[.slice LA n lc],eO 51 3 (.slice LA n lc) n (Ps.flatMap ptC),ePt Qs]
def eBk(b:Nat)(ps:List PgS)(fp:List Nat):Ent:=⟨fp,fun W=>∃LA lc Ps Qs,Ps.map abT=ps/\(∀p∈Ps,p∈Qs)/\fp=(bkL b LA lc ps.length Ps Qs).flatMap (·.fp)/\(bkL b LA lc ps.length Ps Qs).Pairwise Ent.apart/\∀e∈bkL b LA lc ps.length Ps Qs,e.holds W/\e.loc⟩
theorem yb(b:Nat)(ps:List PgS)(fp:List Nat):(eBk b ps fp).loc:=fun W W' hk h=>by
 obtain⟨LA,lc,Ps,Qs,h1,h2,h3,h4,h5⟩:=h
 exact⟨LA,lc,Ps,Qs,h1,h2,h3,h4,fun e he=>⟨(h5 e he).2 W W' (fun k hk'=>hk k (by rw[eBk,h3];exact List.mem_flatMap.2 ⟨e,he,hk'⟩)) (h5 e he).1,(h5 e he).2⟩⟩
theorem ij{e:Ent}{b:Nat}{ps:List PgS}{fp:List Nat}(h:e=eBk b ps fp):e=eBk b ps e.fp:=by subst h;rfl
theorem iJ{b:Nat}{ps:List PgS}{fp:List Nat}{W:World}(h:(eBk b ps fp).holds W):vP W b ps:=by
 obtain⟨LA,lc,Ps,Qs,h1,h2,h3,h4,h5⟩:=h
 have hl:Ps.length=ps.length:=by rw[<-h1,List.length_map]
 refine⟨LA,lc,Ps,h1,(h5 (eB b 64 #[.slice LA ps.length lc]) (List.mem_cons_self ..)).1,?_,hl,fun p hp=>vk (h5 (ePt Qs) (by simp[bkL])).1 (h2 p hp)⟩
 exact At.of_ownN (h5 (eO 51 3 (.slice LA ps.length lc) ps.length (Ps.flatMap ptC)) (by simp[bkL])).1
theorem St.bk{w0 W:World}{bor:List Nat}{L:List Ent}{b lc n:Nat}{LA:Option Addr}{Ps Qs:List PgT}{ps:List PgS}(h:St w0 bor (L++bkL b LA lc n Ps Qs) W)(h1:Ps.map abT=ps)(hn:ps.length=n)(h2:∀p∈Ps,p∈Qs):∃fp,St w0 bor (L++[eBk b ps fp]) W:=by
 subst hn
 refine⟨_,St.pack (E:=eBk b ps ((bkL b LA lc ps.length Ps Qs).flatMap (·.fp))) h rfl ⟨LA,lc,Ps,Qs,h1,h2,rfl,(List.pairwise_append.1 h.apart).2.1,fun e he=>?_⟩ (yb _ _ _)⟩
 have h3:=h.ok e (List.mem_append_right _ he)
 exact⟨h3.holds,h3.loc⟩
def Hy(b:Nat)(ps:List PgS)(fp:List Nat)(w:World)(e:Ending)(w':World):Prop:=e= .returned (.tuple #[])/\∃fp',St w fp [eBk b ps fp'] w'
theorem Dd(Ps:List PgT)(n:Nat)(q:PgT):(Ps.set n q).map abT=(Ps.map abT).set n (abT q):=List.map_set
theorem CX{n:Nat}{e:EdT}(h:0<=e.1/\e.1<n/\  -1<=e.2.1/\e.2.1<=100):oq n e=true:=decide_eq_true h
theorem FC{n:Nat}{e:EdT}(h:¬(0<=e.1/\e.1<n/\  -1<=e.2.1/\e.2.1<=100)):oq n e=false:=decide_eq_false h
theorem FF{ps:List PgS}{l:List EdT}{k:Nat}{e:EdT}(he:l[k]? =some e)(h:oq ps.length e=false):doB ps (l.take (k+1))=doB ps (l.take k):=by
 obtain⟨hk,rfl⟩:=List.getElem?_eq_some_iff.1 he
 rw[vl hk,bK,b5,h];rfl
theorem Hq{ps:List PgS}{l:List EdT}{k:Nat}{e:EdT}(he:l[k]? =some e)(h:oq ps.length e=true):doB ps (l.take (k+1))=(doB ps (l.take k)).set e.1.toNat (edP ((doB ps (l.take k)).getD e.1.toNat aP) e):=by
 obtain⟨hk,rfl⟩:=List.getElem?_eq_some_iff.1 he
 rw[vl hk,bK,b5,h];rfl
theorem yk{p:PgS}{pg s:Int}{x:ByteArray}(h:s<0):edP p (pg,s,x)=(ux x,0,[]):=if_pos h
theorem FL{p:PgS}{pg s:Int}{x:ByteArray}(h:¬s<0):edP p (pg,s,x)=(p.1,p.2.1,bz p.2.2 s.toNat x):=if_neg h
theorem Mp{Ps Qs:List PgT}(h:∀p∈Ps,p∈Qs)(n:Nat)(q:PgT):∀p∈Ps.set n q,p∈Qs++[q]:=fun p hp=>by
 rcases List.mem_or_eq_of_mem_set hp with h1|rfl
 exact List.mem_append_left _ (h p h1)
 simp
theorem CA{Ps:List PgT}(h:∀p∈Ps,p.its.length<=101)(n:Nat){q:PgT}(hq:q.its.length<=101):∀p∈Ps.set n q,p.its.length<=101:=fun p hp=>by
 rcases List.mem_or_eq_of_mem_set hp with h1|rfl
 exact h p h1
 exact hq
theorem i8(b:Nat)(ps:List PgS)(fp:List Nat)(n:Nat)(A:Option Addr)(c:Nat)(l:List EdT)(w:World)(hB:(eBk b ps fp).holds w)(hlt:∀k∈fp,k<w.heap.size)(hL:∀W,Upd fp w W->At W A (l.flatMap edC))(hl:l.length<=100000)(hn:ps.length=n)(hnb:n<=1000)(hits0:∀p∈ps,p.2.2.length<=101):
  Calls Try.prog 25 #[.pointer (some ⟨b,0,none⟩),.slice A l.length c] w (Hy b (doB ps l) fp w):=by
 have st1:=St.lend hB (yb _ _ _) hlt
 obtain⟨LA,lc,Ps,Qs,hps,hsub,hfp,hap,hall⟩:=hB
 have st0:=St.unpack st1 hfp hall hap
 rw[hn] at st0
 have hPl:Ps.length=n:=by rw[<-hn,<-hps,List.length_map]
 have hits:∀p∈Ps,p.its.length<=101:=fun p hp=>hits0 (abT p) (by rw[<-hps];exact List.mem_map.2 ⟨p,hp,rfl⟩)
 go_enter Try.func25,Try.ntmps25
 have aq:=st0
 refine wp_seq (sqr (sqp [.k 4 (vi 0)] ?_))
 refine aa (wp_block ?_)
 refine aX (fun t_ mz az W=>∃k:Nat,∃Ps:List PgT,∃Qs:List PgT,k<=l.length/\Ps.map abT=doB ps (l.take k)/\(∀p∈Ps,p∈Qs)/\Ps.length=n/\(∀p∈Ps,p.its.length<=101)/\mz=l.length-k/\az=⟨(ovr (jv az) [(4,4,0,[vi ((k:Int))]),(0,5,84,[])] t_).toArray,[]⟩/\St w fp [eB b 64 #[.slice LA n lc],eO 51 3 (.slice LA n lc) n (Ps.flatMap ptC),ePt Qs] W) (l.length-0) ?_ ?_
 exact⟨0,Ps,Qs,Nat.zero_le _,hps,hsub,hPl,hits,rfl,(by kernel_rfl),aq.pk [0,1,2]⟩
 rintro n2 a2 W2 ⟨k,Ps,Qs,hk,hPs,hsub,hPl,hits,rfl,hj_,aV⟩
 refine ovz hj_ fun Rw=>?_
 refine wp_seq (wp_seq (sqr (sqp [.m 8 4,.m 9 1,.k 10 (vi ((l.length:Int))),.k 11 (.bool (decide ((k:Int)<(l.length:Int))))] ?_)))
 refine aa (wds (fun wG qn=>?_) fun wG qn=>?_)
 refine wp_skip (aa (wp_seq (wp_block (wp_seq ?_))))
 obtain⟨ep,es,eb,hek⟩:=BG (l:=l) (k:=k) (by omega)
 refine sqr (sqp [.m 14 1,.m 15 4] ?_)
 refine sql (.pointer (some ((ad A).add (k*3)))) aV (fun cx=>aD (e:=99) (m:=k) (sz:=3) rfl (by kernel_rfl) (by kernel_rfl) (cx.ou 14) (cx.ou 15) (by omega) (by omega) (hL _ cx.upd) (be (sz:=3) gK (by decide) (by omega))) ?_
 refine sql (.agg #[vi ep,vi es,.string eb]) aV (fun cx=>aY (f:=edC) (m:=k) (sz:=3) (off:=0) (n:=3) rfl (by kernel_rfl) (by kernel_rfl) (cx.ou 16) rfl gK (hL _ cx.upd) hek (fun k hk=>match k,hk with|0,_=>rfl|1,_=>rfl|2,_=>rfl|k+3,hk=>absurd hk (by omega))) ?_
 refine bW #[vi 0,vi 0,.string ByteArray.empty] aV fun ez nD cb=>?_
 refine aF (n:=3) 3 #[vi ep,vi es,.string eb] cb fun kO bE=>?_
 refine aa (wp_seq (wp_seq (bC [0,1,3,7,15,31,15,79,207,463,975,2047,4095,8191,16383,32767,65535,131071,262143,524287,1048575,2097151,4194303] [[],[3],[],[],[],[3],[],[],[],[0],[],[],[],[],[],[3],[],[],[],[],[3]] [.k 18 (vp ez),.c 19 (vi ep),.k 20 (.bool (decide (ep<0))),.k 21 (.bool (decide (ep<0))),.z 22 (!(decide (ep<0))) (vp ez),.y 23 (!(decide (ep<0))) (vi ep),.z 24 (!(decide (ep<0))) (vp b),.z 25 (!(decide (ep<0))) (vp b),.z 26 (!(decide (ep<0))) (vp b),.y 27 (!(decide (ep<0))) (.slice LA n lc),.z 28 (!(decide (ep<0))) (vi ((n:Int))),.z 29 (!(decide (ep<0))) (.bool (decide ((n:Int)<=ep))),tO 30 (decide (ep<0)) (decide ((n:Int)<=ep)),.k 31 (.bool ((decide (ep<0))||(decide ((n:Int)<=ep)))),.z 32 (!((decide (ep<0))||(decide ((n:Int)<=ep)))) (.pointer (some ⟨ez,1,none⟩)),.y 33 (!((decide (ep<0))||(decide ((n:Int)<=ep)))) (vi es),.z 34 (!((decide (ep<0))||(decide ((n:Int)<=ep)))) (.bool (decide (es< -1))),tO 35 ((decide (ep<0))||(decide ((n:Int)<=ep))) (decide (es< -1)),.k 36 (.bool (((decide (ep<0))||(decide ((n:Int)<=ep)))||(decide (es< -1)))),.z 37 (!(((decide (ep<0))||(decide ((n:Int)<=ep)))||(decide (es< -1)))) (.pointer (some ⟨ez,1,none⟩)),.y 38 (!(((decide (ep<0))||(decide ((n:Int)<=ep)))||(decide (es< -1)))) (vi es),.z 39 (!(((decide (ep<0))||(decide ((n:Int)<=ep)))||(decide (es< -1)))) (.bool (decide (100<es))),tO 40 (((decide (ep<0))||(decide ((n:Int)<=ep)))||(decide (es< -1))) (decide (100<es))] [0,1,2,3] [1,5,9,15,20] [(18,0,23,41)] bE ?_ fun iY bn=>?_)))
 refine⟨?_,?_,?_,?_,?_,trivial⟩
 exact xs4 rfl id fun cx=>ae rfl (by kernel_rfl) (cx.an 0) ((cx.bi 3 rfl).cell 0)
 exact m2 rfl (fun _ _ _ h=>h) (fun cx=>(cx.an 3)) fun cx hq=>ae rfl (by kernel_rfl) (mbv (cx.an 4) hq) ((cx.bi 3 rfl).cell 0)
 exact m2 rfl (fun _ _ _ h=>h) (fun cx=>(cx.an 3)) fun cx hq=>ae rfl (by kernel_rfl) (mbv (cx.an 8) hq) ((cx.bi 0 rfl).cell 0)
 exact m2 rfl (fun _ _ _ h=>h) (fun cx=>(cx.an 13)) fun cx hq=>ae rfl (by kernel_rfl) (mbv (cx.an 14) hq) ((cx.bi 3 rfl).cell 1)
 exact m2 rfl (fun _ _ _ h=>h) (fun cx=>(cx.an 18)) fun cx hq=>ae rfl (by kernel_rfl) (mbv (cx.an 19) hq) ((cx.bi 3 rfl).cell 1)
 refine aa (wbs (fun dp=>?_) fun dp=>?_)
 have eo:=dp
 simp only[zB] at eo
 refine wp_exit (am (bj (aa (sqr (sqp [.m 12 4,sI 13 ((k:Int)+1) (by omega),.m 4 13] ?_)))))
 refine aa ?_
 have hno:=FC (n:=n) (e:=(ep,es,eb)) (by dsimp only;have h_:=dp;simp only[Bool.or_eq_true,decide_eq_true_eq] at h_;omega)
 refine⟨l.length-((k+1)),by omega,?_⟩
 exact⟨(k+1),Ps,Qs,by omega,by rw[FF hek (by rw[hn];exact hno)];exact hPs,hsub,hPl,hits,rfl,(by kernel_rfl),bn.pk [0,1,2]⟩
 have eo:=dp
 simp only[zB] at eo
 obtain⟨⟨⟨BU,BW⟩,I6⟩,I7⟩:=eo
 refine wp_skip (aa (wp_seq ?_))
 have hbd:=dp
 simp only[Bool.or_eq_false_iff,decide_eq_false_iff_not] at hbd
 have hed:=CX (n:=n) (e:=(ep,es,eb)) (by dsimp only;omega)
 obtain⟨pg,ES⟩:∃z,Ps.getD (ep).toNat pt0=z:=⟨_,rfl⟩
 have hpg:=ct (l:=Ps) (n:=(ep).toNat) (d:=pt0) (by omega)
 rw[ES] at hpg
 have hpl:=hits _ hpg.2
 have hgD:(doB ps (l.take k)).getD (ep).toNat aP=abT pg:=by rw[<-hPs,vc,ES]
 refine aj [0,1,3,7,0,16,63,127,0,511] [[],[],[],[0],[],[3],[1],[1],[],[4]] [[],[],[],[],[],[],[],[],[4],[5]] [[],[],[],[],[],[],[],[],[],[4]] [.k 41 (vp b),.k 42 (vp b),.k 43 (vp b),.c 44 (.slice LA n lc),.k 45 (vp ez),.c 46 (vi ep),.c 47 (.pointer (some ((ad LA).add (((ep).toNat)*3)))),.c 48 (.agg #[vi pg.k,vi pg.l,.slice pg.A pg.its.length pg.c]),.a 6,.n] (fun ix i g X=>match ix with|0|1|2|3|4|5|6|7=>True|8=>i 6=vp (pb (g 6))/\X 4=eB (pb (g 6)) 51 #[vi 0,vi 0,.slice none 0 0]|9=>X 5=eB (pb (g 6)) 51 #[vi pg.k,vi pg.l,.slice pg.A pg.its.length pg.c]|_=>True) [0,1,2,3,5] [3,5,6,7,8,9] [(6,8,1,7),(34,0,8,42)] bn ?_ ?_ ?_
 exact fun ix _ _ _ _ _ _ hs hb hx h=>match ix,h with
 |8,h=>by dsimp only;rw[<-hs 6 rfl,<-hb 6 rfl,<-hx 4 rfl];exact h
 |9,h=>by dsimp only;rw[<-hb 6 rfl,<-hx 5 rfl];exact h
 |0,_|1,_|2,_|3,_|4,_|5,_|6,_|7,_|_+10,_=>trivial
 refine⟨?_,?_,?_,?_,?_,?_,trivial⟩
 exact xs4 rfl id fun cx=>ae rfl (by kernel_rfl) (cx.an 2) ((cx.bi 0 rfl).cell 0)
 exact xs4 rfl id fun cx=>ae rfl (by kernel_rfl) (cx.an 4) ((cx.bi 3 rfl).cell 0)
 exact xs4 rfl id fun cx=>aD (e:=51) (m:=(ep).toNat) (sz:=3) rfl (by kernel_rfl) (by kernel_rfl) (cx.an 3) (cx.an 5) (by omega) (by omega) (At.of_ownN (cx.ri 1 rfl)) (be (sz:=3) kk (by decide) (by omega))
 exact xs4 rfl id fun cx=>aY (f:=ptC) (m:=((ep).toNat)) (sz:=3) (off:=0) (n:=3) rfl (by kernel_rfl) (by kernel_rfl) (cx.an 6) rfl kk (At.of_ownN (cx.ri 1 rfl)) hpg.1 (fun k hk=>match k,hk with|0,_=>rfl|1,_=>rfl|2,_=>rfl|k+3,hk=>absurd hk (by omega))
 refine svA fun j g W X cx=>?_
 exact bx (cs:=#[vi 0,vi 0,.slice none 0 0]) rfl (by kernel_rfl) rfl rfl (fun _ _ _ _ _=> .intro)
 refine svA fun j g W X cx=>?_
 exact ar (n:=3) rfl (dTn (cx.an 8)).1 (cx.an 7) (by kernel_rfl) (by kernel_rfl) (by kernel_rfl) cx (dTn (cx.an 8)).2 rfl (nle rfl) (by kernel_rfl) rfl rfl rfl (fun i o X' hs hb hx=>by rw[hb 6];exact hx)
 intro i g X EG hD et fr af
 simp only[exq 5 ((dTn (hD 9 lq)))] at et
 simp only[ed 6 ((dTn (hD 8 lq)).1)] at af
 generalize pb (g 6)=rM at et af
 clear hD;subst af;clear i g X
 refine aa ?_
 refine ji (fun t_ az W=>∃pk:Int,∃pl:Int,∃pA:Option Addr,∃pc:Nat,∃pits:List ByteArray,edP (abT pg) (ep,es,eb)=(pk,pl,pits)/\pits.length<=101/\az=⟨(ovr (jv az) [(7,7,1,[]),(41,49,32,[])] t_).toArray,[]⟩/\St w fp [eB b 64 #[.slice LA n lc],eO 51 3 (.slice LA n lc) n (Ps.flatMap ptC),ePt Qs,eB ez 99 #[vi ep,vi es,.string eb],eB rM 51 #[vi pk,vi pl,.slice pA pits.length pc],eO 9 1 (.slice pA pits.length pc) pits.length (pits.map Value.string)] W) ?_ ?_
 refine wp_seq (sqr (sqp [.k 49 (.pointer (some ⟨ez,1,none⟩))] ?_))
 refine al 3 et ?_
 refine sqp [.k 51 (.bool (decide (es<0)))] ?_
 refine aa (wds (fun fK rN=>?_) fun fK rN=>?_)
 refine wp_seq (sqr (sqp [.k 52 (.agg #[vi 0,vi 0,.slice none 0 0])] ?_))
 refine aF (n:=3) 4 #[vi 0,vi 0,.slice none 0 0] et fun ET fh=>?_
 refine aa (wp_seq (sqr (sqp [.k 53 (.pointer (some ⟨ez,2,none⟩))] ?_)))
 refine al 3 fh ?_
 refine sqp [.k 55 (.bool (!(eb.toList==((⟨#[]⟩:ByteArray)).toList)))] ?_
 refine aa ?_
 rcases Bool.eq_false_or_eq_true (eb.toList==((⟨#[]⟩:ByteArray)).toList) with kQ|kQ
 refine wp_cond_false (show Act.eval _ _= .bool false from(congrArg Value.bool (by rw[kQ];rfl))) (wp_skip (aa ?_))
 have hn31:=St.nilrow fh 9
 simp only[List.cons_append,List.nil_append] at hn31
 exact⟨(0),0,none,0,([]:List ByteArray),by rw[yk (by omega),ux,if_pos (by have h_:=kQ;rw[go] at h_;exact of_decide_eq_true h_)],by decide,(by kernel_rfl),hn31.pk [0,1,2,3,4,5]⟩
 refine wp_cond_true (show Act.eval _ _= .bool true from(congrArg Value.bool (by rw[kQ];rfl))) ?_
 have he0:0<eb.size:=by have h_:=kQ;rw[go] at h_;have h2_:=of_decide_eq_false h_;omega
 have hbb_:=cM (bl eb) 0
 refine sqr (sqp [.k 56 (.pointer (some ⟨ez,2,none⟩))] ?_)
 refine al 3 fh ?_
 refine sql (.int .u8 (au (bl eb) 0)) fh (fun cx=>cJ (m:=0) rfl (by kernel_rfl) (cx.ou 57) (cx.co _) (by omega) (by omega)) ?_
 refine sqp [sW 59 .i64 (au (bl eb) 0) (au (bl eb) 0) (IntWalk.i64_in _ (by omega)),.k 60 (vp rM)] ?_
 refine aF (n:=1) 4 #[vi (au (bl eb) 0),vi 0,.slice none 0 0] fh fun I8 ia=>?_
 refine aa ?_
 have hn38:=St.nilrow ia 9
 simp only[List.cons_append,List.nil_append] at hn38
 exact⟨(au (bl eb) 0),0,none,0,([]:List ByteArray),by rw[yk (by omega),ux,if_neg (by omega)],by decide,(by kernel_rfl),hn38.pk [0,1,2,3,4,5]⟩
 refine wp_seq (sqr ?_)
 refine lS (fun x_=>sA x_) (fun rO=> .slice rO 0 0) (fun rO=>eO 9 1 (.slice rO 0 0) 0 ([])) et (by
   refine svA fun j g W X cx=>?_
   exact bY (e:=9) (xs:=[]) rfl (by simp[go_sem]) rfl (by decide) rfl rfl (fun _ _ _ _ _=> .intro)) fun rO wR ey=>?_
 refine sqp [.k 62 (.pointer (some ⟨rM,2,none⟩))] ?_
 refine al 4 ey ?_
 refine HC (fun x_=>sA x_) (fun x_=>sC x_) (fun oz oA=> .slice oz pg.its.length oA) (fun oz oA=>eO 9 1 (.slice oz pg.its.length oA) pg.its.length (pg.its.map Value.string)) 5 ey (by
   refine svA fun j g W X cx=>?_
   obtain⟨i0,hi0,hz0,hz1,hz2⟩:=info_parts Try.infoStr
   refine cP (n:=0) (m:=pg.its.length) (nm:=pg.its.length) (xs:=[]) (news:=pg.its.map Value.string) (xs':=pg.its.map Value.string) rfl (ty:=49) rfl (by kernel_rfl) hi0 hz0 hz1 hz2 rfl (cx.ou 61) cx (cx.init 5 _ rfl) rfl (cx.ou 63) (by first|(simp;done)|(simp;omega)) (vk (CtxV.holdF cx (cx.init 2 _ rfl) rfl) (hsub _ hpg.2)) (FE _) (by simp only[maxLen];omega) (by omega) rfl rfl rfl (by omega) (rfl) (fun i o X' hs hb hv hx=>?_)
   exact⟨hv,hx⟩) fun oz oA IY jA=>?_
 refine sqp [.m 7 64] ?_
 refine aa (wp_seq (wp_block ?_))
 rw[show pg.its.map Value.string=(pg.its++List.replicate 0 ByteArray.empty).map Value.string by simp] at jA
 refine aX (fun t_ mz az W=>∃m:Nat,∃rr:Nat,∃XA:Option Addr,∃XC:Nat,m=pg.its.length+rr/\(rr=0\/(m:Int)<=es+1)/\m<=101/\mz=102-m/\az=⟨(ovr (jv az) [(7,7,0,[.slice XA m XC]),(57,65,8,[])] t_).toArray,[]⟩/\St w fp [eB b 64 #[.slice LA n lc],eO 51 3 (.slice LA n lc) n (Ps.flatMap ptC),ePt Qs,eB ez 99 #[vi ep,vi es,.string eb],eB rM 51 #[vi pg.k,vi pg.l,.slice pg.A pg.its.length pg.c],eO 9 1 (.slice XA m XC) m ((pg.its++List.replicate rr ByteArray.empty).map Value.string)] W) (102-pg.its.length) ?_ ?_
 exact⟨pg.its.length,0,oz,oA,rfl,.inl rfl,hpl,rfl,(by kernel_rfl),jA.pk [0,1,2,3,4,5]⟩
 rintro Rx a44 Oh ⟨m,rr,XA,XC,hmr,hr0,hm1,rfl,hj_,jB⟩
 refine ovz hj_ fun Qf=>?_
 refine wp_seq (wp_seq (sqr (sqp [.m 65 7,.k 66 (vi ((m:Int))),.k 67 (.pointer (some ⟨ez,1,none⟩))] ?_)))
 refine al 3 jB ?_
 refine sqp [.k 69 (.bool (decide ((m:Int)<=es)))] ?_
 refine aa (wds (fun tc pr=>?_) fun tc pr=>?_)
 refine wp_skip (aa (wp_block (sqr (sqp [.m 70 7] ?_))))
 refine lS (fun x_=>sA x_) (fun rP=> .slice rP 1 1) (fun rP=>eO 9 1 (.slice rP 1 1) 1 ([.string ⟨#[]⟩])) jB (by
   refine svA fun j g W X cx=>?_
   exact bY (e:=9) (xs:=[.string ⟨#[]⟩]) rfl (by simp[go_sem,cx.sees.const]) rfl (by decide) rfl rfl (fun _ _ _ _ _=> .intro)) fun rP BX ib=>?_
 refine HC (fun x_=>sA x_) (fun x_=>sC x_) (fun oB oC=> .slice oB (m+1) oC) (fun oB oC=>eO 9 1 (.slice oB (m+1) oC) (m+1) ((pg.its++List.replicate (rr+1) ByteArray.empty).map Value.string)) 5 ib (by
   refine svA fun j g W X cx=>?_
   obtain⟨i0,hi0,hz0,hz1,hz2⟩:=info_parts Try.infoStr
   refine cP (n:=m) (m:=1) (nm:=m+1) (xs:=(pg.its++List.replicate rr ByteArray.empty).map Value.string) (news:=[.string ⟨#[]⟩]) (xs':=(pg.its++List.replicate (rr+1) ByteArray.empty).map Value.string) rfl (ty:=49) rfl (by kernel_rfl) hi0 hz0 hz1 hz2 rfl (cx.ou 70) cx (cx.init 5 _ rfl) rfl (cx.ou 71) (by first|(simp;done)|(simp;omega)) (At.of_own (cx.ri 6 rfl)) (by simp[Value.oneCell']) (by simp only[maxLen];omega) (by omega) rfl rfl rfl (by omega) (Cr _ _) (fun i o X' hs hb hv hx=>?_)
   exact⟨hv,hx⟩) fun oB oC EU ke=>?_
 refine sqp [.m 7 72] ?_
 refine aw (aa ?_)
 refine⟨102-((m+1)),by omega,?_⟩
 exact⟨(m+1),(rr+1),oB,oC,by omega,.inr (by omega),by omega,rfl,(by kernel_rfl),ke.pk [0,1,2,3,4,5]⟩
 refine wp_exit (am (am (bj (aa (wp_seq (sqr (sqp [.m 73 7,.k 74 (.pointer (some ⟨ez,1,none⟩))] ?_)))))))
 refine al 3 jB ?_
 refine sqp [.k 76 (.pointer (some ⟨ez,2,none⟩))] ?_
 refine al 3 jB ?_
 refine sql (.pointer (some ((ad XA).add ((es).toNat)))) jB (fun cx=>bo (e:=9) (m:=(es).toNat) rfl (by kernel_rfl) (by kernel_rfl) (cx.ou 73) (cx.ou 75) (by omega) (by omega) (At.of_own (cx.ri 5 rfl)) (by rw[List.length_map,List.length_append,List.length_replicate];omega)) ?_
 refine sqc (eO 9 1 (.slice XA m XC) m (((pg.its++List.replicate rr ByteArray.empty).set (es).toNat eb).map Value.string)) 5 jB (by
   refine svA fun j g W X cx=>?_
   exact xQ (m:=(es).toNat) (n:=m) rfl (cx.ou 78) (show _=Value.string eb from(cx.ou 77)) (by kernel_rfl) rfl rfl cx (cx.init 5 _ rfl) rfl (by omega) rfl (by rw[List.map_set]) rfl rfl (fun _ _ _ _ _=>id)) fun Oi rQ=>?_
 refine aa (sqr (sqp [.m 79 7,.k 80 (.pointer (some ⟨rM,2,none⟩))] ?_))
 refine aF (n:=1) 4 #[vi pg.k,vi pg.l,.slice XA m XC] rQ fun EV bJ=>?_
 refine aa ?_
 have wS:(pg.its++List.replicate rr ByteArray.empty).set (es).toNat eb=(bz pg.its (es).toNat eb):=by rw[bz,show rr=(es).toNat+1-pg.its.length by omega]
 have hm9:m=(bz pg.its (es).toNat eb).length:=by rw[ja];omega
 rw[wS] at bJ
 subst hm9
 exact⟨pg.k,pg.l,XA,XC,(bz pg.its (es).toNat eb),by rw[FL (by omega)];rfl,by rw[ja];omega,(by kernel_rfl),bJ.pk [0,1,2,3,4,5]⟩
 rintro a20 wD ⟨pk,pl,pA,pc,pits,hpe,hpz,hj_,dL⟩
 refine ovz hj_ fun MV=>?_
 refine aj [0,1,3,7,0,16,0,127,255] [[],[],[],[0],[],[3],[4],[1],[1]] [[],[],[],[],[],[],[],[],[6]] [[],[],[],[],[],[],[],[],[1]] [.k 81 (vp b),.k 82 (vp b),.k 83 (vp b),.c 84 (.slice LA n lc),.k 85 (vp ez),.c 86 (vi ep),.c 87 (.agg #[vi pk,vi pl,.slice pA pits.length pc]),.c 88 (.pointer (some ((ad LA).add (((ep).toNat)*3)))),.n] (fun ix i g X=>match ix with|0|1|2|3|4|5|6|7=>True|8=>X 6=eO 51 3 (.slice LA n lc) n ((Ps.set (ep).toNat (PgT.mk pk pl pA pc pits)).flatMap ptC)|_=>True) [0,2,3,4,5,6] [3,5,6,7,8] [(81,0,8,89)] dL ?_ ?_ ?_
 exact fun ix _ _ _ _ _ _ hs hb hx h=>match ix,h with
 |8,h=>by dsimp only;rw[<-hx 6 rfl];exact h
 |0,_|1,_|2,_|3,_|4,_|5,_|6,_|7,_|_+9,_=>trivial
 refine⟨?_,?_,?_,?_,?_,trivial⟩
 exact xs4 rfl id fun cx=>ae rfl (by kernel_rfl) (cx.an 2) ((cx.bi 0 rfl).cell 0)
 exact xs4 rfl id fun cx=>ae rfl (by kernel_rfl) (cx.an 4) ((cx.bi 3 rfl).cell 0)
 exact xs4 rfl id fun cx=>aO (n:=3) rfl (by kernel_rfl) (by kernel_rfl) (cx.ou 6) (cx.bi 4 rfl) (nle rfl) rfl
 exact xs4 rfl id fun cx=>aD (e:=51) (m:=(ep).toNat) (sz:=3) rfl (by kernel_rfl) (by kernel_rfl) (cx.an 3) (cx.an 5) (by omega) (by omega) (At.of_ownN (cx.ri 1 rfl)) (be (sz:=3) kk (by decide) (by omega))
 refine svA fun j g W X cx=>?_
 exact fS (m:=((ep).toNat)*3) (n:=n) (sz:=3) (k:=3) rfl (cx.an 7) (cx.an 6) (by kernel_rfl) (by kernel_rfl) (by kernel_rfl) cx (cx.init 1 _ rfl) rfl (by omega) (by decide) rfl (iy kk (by omega) (PgT.mk pk pl pA pc pits)) rfl rfl (fun _ _ _ _ _=>id)
 intro i g X Oj hD m9 fr af
 simp only[exq 6 ((dTn (hD 8 lq)))] at m9
 clear hD;subst af;clear i g X
 refine aw (aa (sqr (sqp [.m 12 4,sI 13 ((k:Int)+1) (by omega),.m 4 13] ?_)))
 refine aa ?_
 have hm69:=St.mergeT (Qs:=Qs) (p:=(PgT.mk pk pl pA pc pits)) (L:=[eB b 64 #[.slice LA n lc],eO 51 3 (.slice LA n lc) n ((Ps.set (ep).toNat (PgT.mk pk pl pA pc pits)).flatMap ptC)]) (m9.pick [0,5,1,4] (by decide) rfl)
 refine⟨l.length-((k+1)),by omega,?_⟩
 exact⟨(k+1),(Ps.set (ep).toNat (PgT.mk pk pl pA pc pits)),(Qs++[(PgT.mk pk pl pA pc pits)]),by omega,by rw[Hq hek (by rw[hn];exact hed),Dd,hPs,hgD];congr 1;exact hpe.symm,Mp hsub _ _,by rw[List.length_set];exact hPl,CA hits _ hpz,rfl,(by kernel_rfl),hm69.pk [0,1,2]⟩
 refine wp_exit (am (am (bj ?_)))
 refine bpe (.tuple #[]) (by simp[results,Try.results25,go_sem]) ?_
 rw[List.take_of_length_le (by omega)] at hPs
 have hpk_:=aV.pick [0,1,2] (by decide) rfl
 exact⟨rfl,St.bk (L:=[]) hpk_ hPs (by rw[b5,hn]) hsub⟩
theorem Try.infoPage:(Try.prog.info? 51).map (fun i=>(i.zero,i.size,i.bytes))=some (some (.agg #[.int .i64 0,.int .i64 0,.slice none 0 0]),3,40):=by kernel_rfl
theorem CD(n:Nat):(madeCells (Value.agg #[.int .i64 0,.int .i64 0,.slice none 0 0]).cells (n*3)).toList=(List.replicate n pt0).flatMap ptC:=s8 ptC pt0 #[.int .i64 0,.int .i64 0,.slice none 0 0] rfl (by decide) n
def dt(n:Nat):List PgS:=doB (List.replicate n aP) (dU 0)
def wr(ps:List PgS)(w:World)(e:Ending)(w':World):Prop:=∃b fp,e= .returned (.pointer (some ⟨b,0,none⟩))/\St w [] [eBk b ps fp] w'
theorem St.bkNew{w0 W:World}{bor:List Nat}{a b:Ent}(h:St w0 bor [a,b] W):St w0 bor ([]++[a,b,ePt [pt0]]) W:=by
 have h1:=St.emNil h
 have h2:=St.nilrow h1 9
 have h3:=St.merge (L:=[a,b]) (R:=[]) (e:=y5 pt0) h2
 exact h3
theorem rA(n:Nat)(w:World)(hn:n<=1000):
  Calls Try.prog 45 #[.int .i64 ((n:Int))] w (wr (dt n) w):=by
 go_enter Try.func45,Try.ntmps45
 have aq:=St.start w
 refine wp_seq (sqr (sqp [.k 2 (.pointer none)] ?_))
 refine aa (wp_seq (sqr (sqp [.m 4 0] ?_)))
 refine lS (fun x_=>sA x_) (fun tf=> .slice tf n n) (fun tf=>eO 51 3 (.slice tf n n) n ((List.replicate n pt0).flatMap ptC)) aq (by
   refine svA fun b a W X cx=>?_
   obtain⟨i0,hi0,hz0,hz1,hz2⟩:=info_parts Try.infoPage
   exact DR (n:=n) (sz:=3) rfl (by kernel_rfl) hi0 hz0 hz1 hz2 (cx.ou 4) (cx.ou 4) (by omega) (by omega) (by omega) (by omega) (by simp only[maxLen];omega) (CD n) rfl rfl (fun _ _ _ _ _=> .intro)) fun tf W3 bG=>?_
 refine sqp [.k 6 (.agg #[.slice tf n n])] ?_
 refine bX #[.slice tf n n] bG fun th W5 bO=>?_
 refine sqp [.m 3 7] ?_
 refine aa (wp_seq ?_)
 obtain⟨fpB,hm7⟩:=St.bk (L:=[]) (Qs:=[pt0]) (St.bkNew (bO.pick [1,0] (by decide) rfl)) (ps:=List.replicate n aP) (by rw[List.map_replicate];rfl) (by rw[List.length_replicate]) (fun p hp=>by rw[(List.mem_replicate.1 hp).2];simp)
 simp only[List.nil_append] at hm7
 refine sqr (sqp [.m 8 3] ?_)
 refine gQ (fun wT wU=> .slice wT 2 wU) (fun wT wU=>eO 99 3 (.slice wT 2 wU) 2 ((dU 0).flatMap edC)) hm7 (fun cx=>⟨_,(zh 0 _).mono (by rintro e W1 ⟨A4,c4,rfl,ho_,hx⟩;exact⟨_,_,rfl,St.one hx (eS (n:=2) (xs:=(dU 0).flatMap edC) ho_)⟩),(br (cx.co _))⟩) fun wT wU W9 bh=>?_
 refine mF (fun X_=>X_.fp) (.tuple #[]) (fun EW=>eBk th (doB (List.replicate n aP) (dU 0)) EW) 0 bh (by
   refine svA fun b a W X cx=>?_
   refine ax.call (av (args:=#[vp th,.slice wT 2 wU]) rfl cx.sees rfl (by kernel_rfl) (aK (cx.ou 8) (cx.ou 9))) ?_
   refine(i8 th (List.replicate n aP) _ n _ _ (dU 0) _ (CtxV.holdF cx (cx.init 0 _ rfl) rfl) (CtxV.ltF cx (cx.init 0 _ rfl) rfl) (CtxV.keepAt cx (cx.init 1 _ rfl) (cx.init 0 _ rfl) rfl rfl (by decide)) (by decide) (by rw[List.length_replicate]) hn (fun p hp=>by rw[(List.mem_replicate.1 hp).2];decide)).mono ?_
   rintro e W1 ⟨rfl,fp4,aR⟩
   refine⟨_,rfl,bw (E:=eBk th (List.replicate n aP) fpB) [eBk th (doB (List.replicate n aP) (dU 0)) fp4] (cx.init 0 _ rfl) rfl rfl aR (fun c d X' hs hb hv hN=>?_)⟩
   have aZ:=(hv 10 rfl).1;have aJ:=(hv 10 rfl).2
   exact⟨aZ.trans rfl,ij ((List.cons.inj hN).1)⟩) fun EW ul cX=>?_
 refine aa (wp_seq (sqr (sqp [.m 11 3,.m 2 11] ?_)))
 refine aa (wp_ret ?_)
 refine bpr (vp th) (ak Try.results45 rpt) ?_
 exact⟨_,_,rfl,cX.pick [0] (by decide) rfl⟩
end
section
open Go.RowKit
theorem oY(rt:Int)(dead:Bool)(hi:ByteArray):hdB 0 rt dead hi=hdB 256 rt dead hi:=rfl
theorem FW(pg rt fr:Int)(hi:ByteArray)(dead:Bool)(EA:Option Addr)(en ec:Nat)(w:World)(hrt: -1<=rt/\rt<=1000000)(hh:hi.size<=1000000):
  Calls Try.prog 79 #[.agg #[.int .i64 pg,.int .i64 256,.int .i64 rt,.string hi,.bool dead,.slice EA en ec,.int .i64 fr]] w (Ret (.string (hdB 256 rt dead hi)) w):=by
 go_enter Try.func79,Try.ntmps79
 have aq:=St.start w
 refine wp_seq (sqr ?_)
 refine bX #[vi pg,vi 256,vi rt,.string hi,.bool dead,.slice EA en ec,vi fr] aq fun bB W1 aC=>?_
 refine sqp [.k 2 (.string ⟨#[]⟩)] ?_
 refine aa (wp_seq (sqr (sqp [.k 3 (vi 0)] ?_)))
 refine aa (wp_seq (wp_seq (sqr (sqp [.k 4 (.pointer (some ⟨bB,4,none⟩))] ?_))))
 refine al 0 aC ?_
 refine aa (wbs (fun rF=>?_) fun rF=>?_)
 refine sqr (sqp [.k 3 (vi 1)] ?_)
 refine aa (wp_seq (aj [0,1,3,0,8,31,63,0,128,384,896,2047,0,4096,16383,32767] [[],[0],[],[],[],[],[1],[],[0],[],[],[],[],[0]] [[],[],[],[],[],[1]] [] [.k 6 (.pointer (some ⟨bB,1,none⟩)),.c 7 (vi 256),tW 8 .u8 256 0 (by decide),.k 9 (vi 1),tW 10 .u8 1 1 (by decide),.a 11,.c 12 (.string (strOfNums ([0,1]))),.k 13 (.pointer (some ⟨bB,2,none⟩)),.c 14 (vi rt),tI 15 (rt+1) (by omega),.c 16 (.string (aQ (rt+1))),tS 17 (strOfNums ([0,1])) (aQ (rt+1)) (by(try simp only[ByteArray.size_append,bf,cT]);omega),.k 18 (.pointer (some ⟨bB,3,none⟩)),.c 19 (.string hi),tS 20 ((strOfNums ([0,1]))++(aQ (rt+1))) hi (by(try simp only[ByteArray.size_append,bf,cT]);omega),.k 2 (.string (((strOfNums ([0,1]))++(aQ (rt+1)))++hi))] (fun ix d b X=>match ix with|0|1|2|3|4=>True|5=>d 11= .slice (sA (b 11)) 2 2/\X 1=eO 5 1 (.slice (sA (b 11)) 2 2) 2 ([.int .u8 0,.int .u8 1])|_=>True) [0,1] [1,5,6,8,10,13] [(2,15,1,3),(3,0,15,18)] aC ?_ ?_ ?_))
 exact fun ix _ _ _ _ _ _ hs hb hx h=>match ix,h with
 |5,h=>by dsimp only;rw[<-hs 11 rfl,<-hb 11 rfl,<-hx 1 rfl];exact h
 |0,_|1,_|2,_|3,_|4,_|_+6,_=>trivial
 refine⟨?_,?_,?_,?_,?_,?_,trivial⟩
 exact xs4 rfl id fun cx=>ae rfl (by kernel_rfl) (cx.an 0) ((cx.bi 0 rfl).cell 1)
 refine svA fun f b W X cx=>?_
 have jR:f (.tmp 8)= .int .u8 0:=(cx.an 2)
 have eY:f (.tmp 10)= .int .u8 1:=(cx.an 4)
 exact bY (e:=5) (xs:=[.int .u8 0,.int .u8 1]) rfl (by simp[go_sem,jR,eY]) rfl (by decide) rfl rfl (fun _ _ _ _ _=> .intro)
 exact xs4 rfl id fun cx=>cd (e:=5) rfl (by kernel_rfl) (by kernel_rfl) (by kernel_rfl) (dTn (cx.an 5)).1 (cx.row (dTn (cx.an 5)).2 rfl)
 exact xs4 rfl id fun cx=>ae rfl (by kernel_rfl) (cx.an 7) ((cx.bi 0 rfl).cell 2)
 exact xsc rfl id rfl rfl fun cx=>⟨_,ii (rt+1) _,(br (cx.an 9))⟩
 exact xs4 rfl id fun cx=>ae rfl (by kernel_rfl) (cx.an 12) ((cx.bi 0 rfl).cell 3)
 intro d b X W8 hD bt fr af
 simp only[exq 1 ((dTn (hD 5 lq)).2)] at bt
 simp only[ed 11 ((dTn (hD 5 lq)).1)] at af
 generalize sA (b 11)=rG at bt af
 clear hD;subst af;clear d b X
 refine aa (wp_ret ?_)
 refine bpr (.string (((strOfNums ([0,1]))++(aQ (rt+1)))++hi)) (ak Try.results79 rpt) ?_
 exact Ret.of (by rw[<-oY];simp[hdB, *]) bt.ext
 refine wp_skip (aa (wp_seq (aj [0,1,3,0,8,31,63,0,128,384,896,2047,0,4096,16383,32767] [[],[0],[],[],[],[],[1],[],[0],[],[],[],[],[0]] [[],[],[],[],[],[1]] [] [.k 6 (.pointer (some ⟨bB,1,none⟩)),.c 7 (vi 256),tW 8 .u8 256 0 (by decide),.k 9 (vi 0),tW 10 .u8 0 0 (by decide),.a 11,.c 12 (.string (strOfNums ([0,0]))),.k 13 (.pointer (some ⟨bB,2,none⟩)),.c 14 (vi rt),tI 15 (rt+1) (by omega),.c 16 (.string (aQ (rt+1))),tS 17 (strOfNums ([0,0])) (aQ (rt+1)) (by(try simp only[ByteArray.size_append,bf,cT]);omega),.k 18 (.pointer (some ⟨bB,3,none⟩)),.c 19 (.string hi),tS 20 ((strOfNums ([0,0]))++(aQ (rt+1))) hi (by(try simp only[ByteArray.size_append,bf,cT]);omega),.k 2 (.string (((strOfNums ([0,0]))++(aQ (rt+1)))++hi))] (fun ix d b X=>match ix with|0|1|2|3|4=>True|5=>d 11= .slice (sA (b 11)) 2 2/\X 1=eO 5 1 (.slice (sA (b 11)) 2 2) 2 ([.int .u8 0,.int .u8 0])|_=>True) [0,1] [1,5,6,8,10,13] [(2,15,1,3),(3,0,15,18)] aC ?_ ?_ ?_)))
 exact fun ix _ _ _ _ _ _ hs hb hx h=>match ix,h with
 |5,h=>by dsimp only;rw[<-hs 11 rfl,<-hb 11 rfl,<-hx 1 rfl];exact h
 |0,_|1,_|2,_|3,_|4,_|_+6,_=>trivial
 refine⟨?_,?_,?_,?_,?_,?_,trivial⟩
 exact xs4 rfl id fun cx=>ae rfl (by kernel_rfl) (cx.an 0) ((cx.bi 0 rfl).cell 1)
 refine svA fun f b W X cx=>?_
 have jR:f (.tmp 8)= .int .u8 0:=(cx.an 2)
 have eY:f (.tmp 10)= .int .u8 0:=(cx.an 4)
 exact bY (e:=5) (xs:=[.int .u8 0,.int .u8 0]) rfl (by simp[go_sem,jR,eY]) rfl (by decide) rfl rfl (fun _ _ _ _ _=> .intro)
 exact xs4 rfl id fun cx=>cd (e:=5) rfl (by kernel_rfl) (by kernel_rfl) (by kernel_rfl) (dTn (cx.an 5)).1 (cx.row (dTn (cx.an 5)).2 rfl)
 exact xs4 rfl id fun cx=>ae rfl (by kernel_rfl) (cx.an 7) ((cx.bi 0 rfl).cell 2)
 exact xsc rfl id rfl rfl fun cx=>⟨_,ii (rt+1) _,(br (cx.an 9))⟩
 exact xs4 rfl id fun cx=>ae rfl (by kernel_rfl) (cx.an 12) ((cx.bi 0 rfl).cell 3)
 intro d b X W9 hD bh fr af
 simp only[exq 1 ((dTn (hD 5 lq)).2)] at bh
 simp only[ed 11 ((dTn (hD 5 lq)).1)] at af
 generalize sA (b 11)=zw at bh af
 clear hD;subst af;clear d b X
 refine aa (wp_ret ?_)
 refine bpr (.string (((strOfNums ([0,0]))++(aQ (rt+1)))++hi)) (ak Try.results79 rpt) ?_
 exact Ret.of (by rw[<-oY];simp[hdB, *]) bh.ext
theorem GW(rt:Int)(hi:ByteArray)(ok dead:Bool)(EA SA KA:Option Addr)(en ec sn sc kn kc:Nat)(w:World)(hrt: -1<=rt/\rt<=1000000)(hh:hi.size<=1000000):
  Calls Try.prog 86 #[.agg #[.bool ok,.bool dead,.int .i64 256,.int .i64 rt,.string hi,.slice EA en ec,.slice SA sn sc,.slice KA kn kc]] w (Ret (.string (hdB 256 rt dead hi)) w):=by
 go_enter Try.func86,Try.ntmps86
 have aq:=St.start w
 refine wp_seq (sqr ?_)
 refine bX #[.bool ok,.bool dead,vi 256,vi rt,.string hi,.slice EA en ec,.slice SA sn sc,.slice KA kn kc] aq fun bB W1 aC=>?_
 refine sqp [.k 2 (.string ⟨#[]⟩)] ?_
 refine aa (wp_seq (sqr (sqp [.k 3 (vi 0)] ?_)))
 refine aa (wp_seq (wp_seq (sqr (sqp [.k 4 (.pointer (some ⟨bB,1,none⟩))] ?_))))
 refine al 0 aC ?_
 refine aa (wbs (fun rF=>?_) fun rF=>?_)
 refine sqr (sqp [.k 3 (vi 1)] ?_)
 refine aa (wp_seq (aj [0,1,3,0,8,31,63,0,128,384,896,2047,0,4096,16383,32767] [[],[0],[],[],[],[],[1],[],[0],[],[],[],[],[0]] [[],[],[],[],[],[1]] [] [.k 6 (.pointer (some ⟨bB,2,none⟩)),.c 7 (vi 256),tW 8 .u8 256 0 (by decide),.k 9 (vi 1),tW 10 .u8 1 1 (by decide),.a 11,.c 12 (.string (strOfNums ([0,1]))),.k 13 (.pointer (some ⟨bB,3,none⟩)),.c 14 (vi rt),tI 15 (rt+1) (by omega),.c 16 (.string (aQ (rt+1))),tS 17 (strOfNums ([0,1])) (aQ (rt+1)) (by(try simp only[ByteArray.size_append,bf,cT]);omega),.k 18 (.pointer (some ⟨bB,4,none⟩)),.c 19 (.string hi),tS 20 ((strOfNums ([0,1]))++(aQ (rt+1))) hi (by(try simp only[ByteArray.size_append,bf,cT]);omega),.k 2 (.string (((strOfNums ([0,1]))++(aQ (rt+1)))++hi))] (fun ix d b X=>match ix with|0|1|2|3|4=>True|5=>d 11= .slice (sA (b 11)) 2 2/\X 1=eO 5 1 (.slice (sA (b 11)) 2 2) 2 ([.int .u8 0,.int .u8 1])|_=>True) [0,1] [1,5,6,8,10,13] [(2,15,1,3),(3,0,15,18)] aC ?_ ?_ ?_))
 exact fun ix _ _ _ _ _ _ hs hb hx h=>match ix,h with
 |5,h=>by dsimp only;rw[<-hs 11 rfl,<-hb 11 rfl,<-hx 1 rfl];exact h
 |0,_|1,_|2,_|3,_|4,_|_+6,_=>trivial
 refine⟨?_,?_,?_,?_,?_,?_,trivial⟩
 exact xs4 rfl id fun cx=>ae rfl (by kernel_rfl) (cx.an 0) ((cx.bi 0 rfl).cell 2)
 refine svA fun f b W X cx=>?_
 have jR:f (.tmp 8)= .int .u8 0:=(cx.an 2)
 have eY:f (.tmp 10)= .int .u8 1:=(cx.an 4)
 exact bY (e:=5) (xs:=[.int .u8 0,.int .u8 1]) rfl (by simp[go_sem,jR,eY]) rfl (by decide) rfl rfl (fun _ _ _ _ _=> .intro)
 exact xs4 rfl id fun cx=>cd (e:=5) rfl (by kernel_rfl) (by kernel_rfl) (by kernel_rfl) (dTn (cx.an 5)).1 (cx.row (dTn (cx.an 5)).2 rfl)
 exact xs4 rfl id fun cx=>ae rfl (by kernel_rfl) (cx.an 7) ((cx.bi 0 rfl).cell 3)
 exact xsc rfl id rfl rfl fun cx=>⟨_,fG (rt+1) _,(br (cx.an 9))⟩
 exact xs4 rfl id fun cx=>ae rfl (by kernel_rfl) (cx.an 12) ((cx.bi 0 rfl).cell 4)
 intro d b X W8 hD bt fr af
 simp only[exq 1 ((dTn (hD 5 lq)).2)] at bt
 simp only[ed 11 ((dTn (hD 5 lq)).1)] at af
 generalize sA (b 11)=rG at bt af
 clear hD;subst af;clear d b X
 refine aa (wp_ret ?_)
 refine bpr (.string (((strOfNums ([0,1]))++(aQ (rt+1)))++hi)) (ak Try.results86 rpt) ?_
 exact Ret.of (by rw[<-oY];simp[hdB, *]) bt.ext
 refine wp_skip (aa (wp_seq (aj [0,1,3,0,8,31,63,0,128,384,896,2047,0,4096,16383,32767] [[],[0],[],[],[],[],[1],[],[0],[],[],[],[],[0]] [[],[],[],[],[],[1]] [] [.k 6 (.pointer (some ⟨bB,2,none⟩)),.c 7 (vi 256),tW 8 .u8 256 0 (by decide),.k 9 (vi 0),tW 10 .u8 0 0 (by decide),.a 11,.c 12 (.string (strOfNums ([0,0]))),.k 13 (.pointer (some ⟨bB,3,none⟩)),.c 14 (vi rt),tI 15 (rt+1) (by omega),.c 16 (.string (aQ (rt+1))),tS 17 (strOfNums ([0,0])) (aQ (rt+1)) (by(try simp only[ByteArray.size_append,bf,cT]);omega),.k 18 (.pointer (some ⟨bB,4,none⟩)),.c 19 (.string hi),tS 20 ((strOfNums ([0,0]))++(aQ (rt+1))) hi (by(try simp only[ByteArray.size_append,bf,cT]);omega),.k 2 (.string (((strOfNums ([0,0]))++(aQ (rt+1)))++hi))] (fun ix d b X=>match ix with|0|1|2|3|4=>True|5=>d 11= .slice (sA (b 11)) 2 2/\X 1=eO 5 1 (.slice (sA (b 11)) 2 2) 2 ([.int .u8 0,.int .u8 0])|_=>True) [0,1] [1,5,6,8,10,13] [(2,15,1,3),(3,0,15,18)] aC ?_ ?_ ?_)))
 exact fun ix _ _ _ _ _ _ hs hb hx h=>match ix,h with
 |5,h=>by dsimp only;rw[<-hs 11 rfl,<-hb 11 rfl,<-hx 1 rfl];exact h
 |0,_|1,_|2,_|3,_|4,_|_+6,_=>trivial
 refine⟨?_,?_,?_,?_,?_,?_,trivial⟩
 exact xs4 rfl id fun cx=>ae rfl (by kernel_rfl) (cx.an 0) ((cx.bi 0 rfl).cell 2)
 refine svA fun f b W X cx=>?_
 have jR:f (.tmp 8)= .int .u8 0:=(cx.an 2)
 have eY:f (.tmp 10)= .int .u8 0:=(cx.an 4)
 exact bY (e:=5) (xs:=[.int .u8 0,.int .u8 0]) rfl (by simp[go_sem,jR,eY]) rfl (by decide) rfl rfl (fun _ _ _ _ _=> .intro)
 exact xs4 rfl id fun cx=>cd (e:=5) rfl (by kernel_rfl) (by kernel_rfl) (by kernel_rfl) (dTn (cx.an 5)).1 (cx.row (dTn (cx.an 5)).2 rfl)
 exact xs4 rfl id fun cx=>ae rfl (by kernel_rfl) (cx.an 7) ((cx.bi 0 rfl).cell 3)
 exact xsc rfl id rfl rfl fun cx=>⟨_,fG (rt+1) _,(br (cx.an 9))⟩
 exact xs4 rfl id fun cx=>ae rfl (by kernel_rfl) (cx.an 12) ((cx.bi 0 rfl).cell 4)
 intro d b X W9 hD bh fr af
 simp only[exq 1 ((dTn (hD 5 lq)).2)] at bh
 simp only[ed 11 ((dTn (hD 5 lq)).1)] at af
 generalize sA (b 11)=zw at bh af
 clear hD;subst af;clear d b X
 refine aa (wp_ret ?_)
 refine bpr (.string (((strOfNums ([0,0]))++(aQ (rt+1)))++hi)) (ak Try.results86 rpt) ?_
 exact Ret.of (by rw[<-oY];simp[hdB, *]) bh.ext
theorem jg(pg lv rt fr:Int)(hi:ByteArray)(dead:Bool)(EA:Option Addr)(en ec:Nat)(w:World)(hlv:0<=lv/\lv<=256)(hrt: -1<=rt/\rt<=1000000)(hh:hi.size<=1000000):Calls Try.prog 79 #[.agg #[.int .i64 pg,.int .i64 lv,.int .i64 rt,.string hi,.bool dead,.slice EA en ec,.int .i64 fr]] w (Ret (.string (hdB lv rt dead hi)) w):=by
 rcases Int.lt_or_eq_of_le hlv.2 with h|h
 exact AO pg lv rt fr hi dead EA en ec w ⟨hlv.1,by omega⟩ hrt hh
 subst h;exact FW pg rt fr hi dead EA en ec w hrt hh
theorem mH(lv rt:Int)(hi:ByteArray)(ok dead:Bool)(EA SA KA:Option Addr)(en ec sn sc kn kc:Nat)(w:World)(hlv:0<=lv/\lv<=256)(hrt: -1<=rt/\rt<=1000000)(hh:hi.size<=1000000):Calls Try.prog 86 #[.agg #[.bool ok,.bool dead,.int .i64 lv,.int .i64 rt,.string hi,.slice EA en ec,.slice SA sn sc,.slice KA kn kc]] w (Ret (.string (hdB lv rt dead hi)) w):=by
 rcases Int.lt_or_eq_of_le hlv.2 with h|h
 exact tJ lv rt hi ok dead EA SA KA en ec sn sc kn kc w ⟨hlv.1,by omega⟩ hrt hh
 subst h;exact GW rt hi ok dead EA SA KA en ec sn sc kn kc w hrt hh
theorem yM(w:World):
  Calls Try.prog 87 #[] w (Ret (.string ay) w):=by
 go_enter Try.func87,Try.ntmps87
 have aq:=St.start w
 refine wp_seq (sqr (sqp [.k 0 (.string ⟨#[]⟩)] ?_))
 refine aa (wp_seq (sqr (sqk (.string (aQ 0)) aq (fun cx=>⟨_,fG 0 _,(br (cx.co _))⟩) fun W2 aV=>?_)))
 refine sqk (.string (aQ 0)) aV (fun cx=>⟨_,fG 0 _,(br (cx.co _))⟩) fun W3 bG=>?_
 refine sqp [sS 3 (aQ 0) (aQ 0) (by(try simp only[ByteArray.size_append,bf]);decide),.m 0 3] ?_
 refine aa (wp_ret ?_)
 refine bpr (.string ((aQ 0)++(aQ 0))) (ak Try.results87 rpt) ?_
 exact Ret.of (by rw[ay,bu,show ByteArray.empty++aQ 0=aQ 0 from rfl]) bG.ext
theorem qz(w:World):
  Calls Try.prog 85 #[] w (Ret (.string ay) w):=by
 go_enter Try.func85,Try.ntmps85
 have aq:=St.start w
 refine wp_seq (sqr (sqp [.k 0 (.string ⟨#[]⟩)] ?_))
 refine aa (wp_seq (sqr (sqp [.k 1 (.agg #[vi 0,vi 0])] ?_)))
 refine sqk (.string (bu (⟨#[]⟩:ByteArray) 0 0)) aq (fun cx=>⟨_,gI (⟨#[]⟩:ByteArray) 0 0 _ (by decide),(aK (cx.co _) (cx.ou 1))⟩) fun W3 bG=>?_
 refine sqp [.m 0 2] ?_
 refine aa (wp_ret ?_)
 refine bpr (.string (bu (⟨#[]⟩:ByteArray) 0 0)) (ak Try.results85 rpt) ?_
 exact Ret.of rfl bG.ext
theorem mK{x:ByteArray}{es:List EnD}{j:Nat}{d:Int}(h:j<es.length):cl x (es.drop j) d=cl x (es.drop (j+1)) (if d<0\/ag x (es.getD j en0).1=false then (es.getD j en0).2.2 else d):=by
 rw[List.drop_eq_getElem_cons h,cl,List.getD_eq_getElem?_getD,List.getElem?_eq_getElem h];rfl
theorem Bq{d:Int}{q:Bool}(h:(decide (d<0)||!q)=true):d<0\/q=false:=by simpa using h
theorem ED{d:Int}{q:Bool}(h:(decide (d<0)||!q)=false):¬(d<0\/q=false):=by
 intro h2
 rw[Bool.or_eq_false_iff,decide_eq_false_iff_not] at h
 rcases h2 with h2|h2
 exact h.1 h2
 rw[h2] at h;exact absurd h.2 (by decide)
theorem AM(lv rt:Int)(hi:ByteArray)(ok dead:Bool)(EA SA KA:Option Addr)(ec sn sc kc n:Nat)(x:ByteArray)(es:List EnD)(w:World)(hE:At w EA (es.map stv))(hK:At w KA (es.map kdv))(hn:es.length=n)(hez:∀e∈es,e.1.size<=1000000)(hnb:n<=100000)(hx:x.size<=1000000):
  Calls Try.prog 57 #[.agg #[.bool ok,.bool dead,.int .i64 lv,.int .i64 rt,.string hi,.slice EA n ec,.slice SA sn sc,.slice KA n kc],.string x] w (Ret (.int .i64 (cl x es (-1))) w):=by
 go_enter Try.func57,Try.ntmps57
 have aq:=St.start w
 refine wp_seq (sqr ?_)
 refine bX #[.bool ok,.bool dead,vi lv,vi rt,.string hi,.slice EA n ec,.slice SA sn sc,.slice KA n kc] aq fun bV W1 aC=>?_
 refine sqp [.k 4 (vi 0)] ?_
 refine aa (wp_seq (sqr (sqp [.k 5 (vi (-1))] ?_)))
 refine aa (wp_seq (wp_seq (sqr (sqp [.k 6 (vi 0)] ?_))))
 refine aa (wp_block ?_)
 refine aX (fun t_ mz az W=>∃j:Nat,∃d:Int,j<=n/\cl x es (-1)=cl x (es.drop j) d/\mz=n-j/\az=⟨(ovr (jv az) [(5,5,0,[vi d,vi ((j:Int))]),(0,7,26,[])] t_).toArray,[]⟩/\St w [] [eB bV 66 #[.bool ok,.bool dead,vi lv,vi rt,.string hi,.slice EA n ec,.slice SA sn sc,.slice KA n kc]] W) (n-0) ?_ ?_
 exact⟨0,(-1),Nat.zero_le _,rfl,rfl,(by kernel_rfl),aC.pk [0]⟩
 rintro n5 a5 W5 ⟨j,d,hj,hI,rfl,hj_,bO⟩
 refine ovz hj_ fun EL=>?_
 refine wp_seq (wp_seq (sqr (sqp [.m 8 6,.k 9 (.pointer (some ⟨bV,5,none⟩))] ?_)))
 refine al 0 bO ?_
 refine sqp [.k 11 (vi ((n:Int))),.k 12 (.bool (decide ((j:Int)<(n:Int))))] ?_
 refine aa (wds (fun wM rK=>?_) fun wM rK=>?_)
 refine wp_skip (aa (wp_seq (wp_block (wp_seq (sqr (sqp [.m 15 1,.k 16 (.pointer (some ⟨bV,5,none⟩))] ?_))))))
 refine al 0 bO ?_
 refine sqp [.m 18 6] ?_
 refine sql (.pointer (some ((ad EA).add j))) bO (fun cx=>bo (e:=9) (m:=j) rfl (by kernel_rfl) (by kernel_rfl) (cx.ou 17) (cx.ou 18) (by omega) (by omega) (hE.ext cx.upd.to_ext) (by rw[List.length_map];omega)) ?_
 refine sql (.string ((es.getD j en0).1)) bO (fun cx=>ae rfl (by kernel_rfl) (cx.ou 19) (At.cellAd (hE.ext cx.upd.to_ext) (kw (by omega)))) ?_
 refine sqk (.bool (ag x ((es.getD j en0).1))) bO (fun cx=>⟨_,nP x ((es.getD j en0).1) _ (by omega) (cH hez _),(aK (cx.ou 15) (cx.ou 20))⟩) fun wB cB=>?_
 refine sqp [.m 7 21] ?_
 refine aa (wp_seq (sqr (sqp [.m 22 5,.k 23 (.bool (decide (d<0))),.m 24 23] ?_)))
 refine sqw 24 [25,26] rfl (fun _=>sqp [.m 25 7,.k 26 (.bool (!(ag x ((es.getD j en0).1))))] sqe) ?_
 refine sqp [sPo 27 (decide (d<0)) (!(ag x ((es.getD j en0).1)))] ?_
 refine aa (wbs (fun wV=>?_) fun wV=>?_)
 have uH:=wV
 simp only[zB] at uH
 refine sqr (sqp [.k 28 (.pointer (some ⟨bV,7,none⟩))] ?_)
 refine al 0 cB ?_
 refine sqp [.m 30 6] ?_
 refine sql (.pointer (some ((ad KA).add j))) cB (fun cx=>bo (e:=3) (m:=j) rfl (by kernel_rfl) (by kernel_rfl) (cx.ou 29) (cx.ou 30) (by omega) (by omega) (hK.ext cx.upd.to_ext) (by rw[List.length_map];omega)) ?_
 refine sql (vi ((es.getD j en0).2.2)) cB (fun cx=>ae rfl (by kernel_rfl) (cx.ou 31) (At.cellAd (hK.ext cx.upd.to_ext) (vw (by omega)))) ?_
 refine sqp [.m 5 32] ?_
 refine aw (aa (sqr (sqp [.m 13 6,sI 14 ((j:Int)+1) (by omega),.m 6 14] ?_)))
 refine aa ?_
 refine⟨n-((j+1)),by omega,?_⟩
 exact⟨(j+1),((es.getD j en0).2.2),by omega,by rw[hI,mK (by omega),if_pos (Bq wV)],rfl,(by kernel_rfl),cB.pk [0]⟩
 have uH:=wV
 simp only[zB] at uH
 obtain⟨Ok,Ol⟩:=uH
 refine wp_skip (aw (aa (sqr (sqp [.m 13 6,sI 14 ((j:Int)+1) (by omega),.m 6 14] ?_))))
 refine aa ?_
 refine⟨n-((j+1)),by omega,?_⟩
 exact⟨(j+1),d,by omega,by rw[hI,mK (by omega),if_neg (ED wV)],rfl,(by kernel_rfl),cB.pk [0]⟩
 refine wp_exit (am (am (bj (aa (wp_seq (sqr (sqp [.m 33 5,.m 4 33] ?_)))))))
 refine aa (wp_ret ?_)
 refine bpr (vi d) (ak Try.results57 rpt) ?_
 exact Ret.of (by rw[hI,List.drop_of_length_le (by omega)];rfl) bO.ext
theorem dw(O:List EdT)(e:EdT):O.flatMap edC++edC e=(O++[e]).flatMap edC:=by simp
theorem nK{pg lv:Int}{i:Nat}{es:List EnD}:∀{k:Nat},i<es.length->dC pg lv k (es.take (i+1))=dC pg lv k (es.take i)++[(pg,((k+i:Nat):Int),itB lv (es.getD i en0).2.2 (es.getD i en0).1)]:=by
 induction i generalizing es with
 |zero=>
  intro k h
  cases es with
  |nil=>simp at h
  |cons e es=>simp[dC]
 |succ i ih=>
  intro k h
  cases es with
  |nil=>simp at h
  |cons e es=>
   rw[List.take_succ_cons,dC,ih (k:=k+1) (by simpa using h),List.take_succ_cons,dC,show k+1+i=k+(i+1) by omega]
   simp
theorem lL{pg:Int}{i:Nat}{es:List EnD}(h:i<es.length):aA pg (es.take (i+1))=aA pg (es.take i)++[(pg,((es.getD i en0).2.1:Int),ByteArray.empty)]:=by
 rw[List.take_add_one,aA,List.map_append,List.getD_eq_getElem?_getD,List.getElem?_eq_getElem h];rfl
def kq(pg lv rt:Int)(hi:ByteArray):List EdT:=[(pg,-1,strOfNums [2]),(pg,0,hdB lv rt false hi)]
theorem nX{pg lv rt:Int}{hi:ByteArray}{es:List EnD}{i:Nat}(h:es.length<=i):kq pg lv rt hi++dC pg lv 1 (es.take i)=aE pg lv rt hi es:=by rw[List.take_of_length_le h];rfl
theorem Try.infoEdit:(Try.prog.info? 99).map (fun i=>(i.zero,i.size,i.bytes))=some (some (.agg #[.int .i64 0,.int .i64 0,.string ByteArray.empty]),3,32):=by kernel_rfl
def IF(b:Nat)(cells:Array Value)(eds:List EdT)(w:World)(e:Ending)(w':World):Prop:=∃A c,e= .returned (.agg #[.slice A eds.length c,.bool true,.int .i64 0])/\St w [b] [eB b 102 cells,eO 99 3 (.slice A eds.length c) eds.length (eds.flatMap edC)] w'
theorem mU{pg:Int}{es:List EnD}{i:Nat}(h:es.length<=i):aA pg (es.take i)=aA pg es:=by rw[List.take_of_length_le h]
theorem z8(b:Nat)(root pos leaf fro to:Int)(spl:Bool)(LA:Option Addr)(ln lc:Nat)(nd:NoD)(EA SA KA:Option Addr)(ec sc kc n:Nat)(pg:Int)(w:World)(hb:Blk w b 102 #[.int .i64 root,.int .i64 pos,.int .i64 leaf,.slice LA ln lc,.int .i64 fro,.int .i64 to,.bool spl])(hE:∀W,Upd [b] w W->At W EA (nd.es.map stv))(hS:∀W,Upd [b] w W->At W SA (nd.es.map slv))(hK:∀W,Upd [b] w W->At W KA (nd.es.map kdv))(hn:nd.es.length=n)(hez:∀e∈nd.es,e.1.size<=1000000)(hnb:n<=1000)(hlv:0<=nd.lv/\nd.lv<=255)(hpg:0<=pg/\pg<=1000000):
  Calls Try.prog 61 #[.pointer (some ⟨b,0,none⟩),.agg #[.bool true,.bool nd.dead,.int .i64 nd.lv,.int .i64 nd.right,.string nd.high,.slice EA n ec,.slice SA n sc,.slice KA n kc],.int .i64 pg] w (IF b #[.int .i64 root,.int .i64 pg,.int .i64 leaf,.slice LA ln lc,.int .i64 fro,.int .i64 to,.bool spl] (bT root nd pg) w):=by
 have st0:=St.lend (E:=eB b 102 #[.int .i64 root,.int .i64 pos,.int .i64 leaf,.slice LA ln lc,.int .i64 fro,.int .i64 to,.bool spl]) hb (dH _ _ _) (fun k hk=>by simp[eB] at hk;subst hk;exact hb.lt)
 go_enter Try.func61,Try.ntmps61
 have aq:=st0
 refine wp_seq (sqr ?_)
 refine bX #[.bool true,.bool nd.dead,vi nd.lv,vi nd.right,.string nd.high,.slice EA n ec,.slice SA n sc,.slice KA n kc] aq fun aW W1 aC=>?_
 refine bW #[.slice none 0 0,.bool false,vi 0] aC fun qr W2 aV=>?_
 refine aa (wp_seq (aj [0,0,2,7,0,0,32,96,224,496,1023,2047] [[],[],[3],[],[],[],[1]] [[],[3],[],[],[],[],[],[],[],[],[4]] [] [.k 10 (vi pg),.a 11,.c 12 (.string (strOfNums ([2]))),.k 13 (.agg #[vi pg,vi (-1),.string (strOfNums ([2]))]),.k 14 (vi pg),.k 15 (.pointer (some ⟨aW,2,none⟩)),.c 16 (vi nd.lv),.k 17 (.agg #[.bool false,.bool false,vi nd.lv,vi (-1),.string ByteArray.empty,.slice none 0 0,.slice none 0 0,.slice none 0 0]),.c 18 (.string (hdB nd.lv (-1) false ByteArray.empty)),.k 19 (.agg #[vi pg,vi 0,.string (hdB nd.lv (-1) false ByteArray.empty)]),.a 20,.a 7] (fun ix f d X=>match ix with|0=>True|1=>f 11= .slice (sA (d 11)) 1 1/\X 3=eO 5 1 (.slice (sA (d 11)) 1 1) 1 ([.int .u8 2])|2|3|4|5|6|7|8|9=>True|10=>f 20= .slice ((some ⟨(pb' (d 20)),0,none⟩)) 2 2/\X 4=eO 99 3 (.slice ((some ⟨(pb' (d 20)),0,none⟩)) 2 2) 2 ([vi pg,vi (-1),.string (strOfNums ([2])),vi pg,vi 0,.string (hdB nd.lv (-1) false ByteArray.empty)])|11=>f 7= .slice ((some ⟨(pb' (d 20)),0,none⟩)) 2 2|_=>True) [0,1,2,3,4] [1,2,6,8,10,11] [(7,11,1,8),(2,0,11,13)] aV ?_ ?_ ?_))
 exact fun ix _ _ _ _ _ _ hs hb hx h=>match ix,h with
 |1,h=>by dsimp only;rw[<-hs 11 rfl,<-hb 11 rfl,<-hx 3 rfl];exact h
 |10,h=>by dsimp only;rw[<-hs 20 rfl,<-hb 20 rfl,<-hx 4 rfl];exact h
 |11,h=>by dsimp only;rw[<-hs 7 rfl,<-hb 20 rfl];exact h
 |0,_|2,_|3,_|4,_|5,_|6,_|7,_|8,_|9,_|_+12,_=>trivial
 refine⟨?_,?_,?_,?_,?_,?_,trivial⟩
 refine svA fun g d W X cx=>?_
 exact bY (e:=5) (xs:=[.int .u8 2]) rfl (by simp[go_sem,cx.sees.const]) rfl (by decide) rfl rfl (fun _ _ _ _ _=> .intro)
 exact xs4 rfl id fun cx=>cd (e:=5) rfl (by kernel_rfl) (by kernel_rfl) (by kernel_rfl) (dTn (cx.an 1)).1 (cx.row (dTn (cx.an 1)).2 rfl)
 exact xs4 rfl id fun cx=>ae rfl (by kernel_rfl) (cx.an 5) ((cx.bi 1 rfl).cell 2)
 exact xsc rfl id rfl rfl fun cx=>⟨_,mH nd.lv (-1) ByteArray.empty false false _ _ _ _ _ _ _ _ _ _ (by omega) (by omega) (by first|omega|decide),(br (cx.an 7))⟩
 refine svA fun g d W X cx=>?_
 have qs:g (.tmp 13)= .agg #[vi pg,vi (-1),.string (strOfNums ([2]))]:=(cx.an 3)
 have MW:g (.tmp 19)= .agg #[vi pg,vi 0,.string (hdB nd.lv (-1) false ByteArray.empty)]:=(cx.an 9)
 exact bS (e:=99) (sz:=3) (xs:=[vi pg,vi (-1),.string (strOfNums ([2])),vi pg,vi 0,.string (hdB nd.lv (-1) false ByteArray.empty)]) rfl (by simp[go_sem,qs,MW]) rfl (by decide) rfl rfl (fun _ _ _ _ _=> .intro)
 exact sv rfl rfl rfl rfl rfl _ (fun _ _ _ h=>h) (fun d l h=>by rw[h 20 (by decide)]) fun g d W X cx=>aN rfl (dTn (cx.an 10)).1
 intro f d X W3 hD bG fr af
 simp only[exq 3 ((dTn (hD 1 lq)).2),exq 4 ((dTn (hD 10 lq)).2)] at bG
 simp only[ed 11 ((dTn (hD 1 lq)).1),ed 20 ((dTn (hD 10 lq)).1),ed 7 ((dTn (hD 11 lq)))] at af
 generalize sA (d 11)=EX,pb' (d 20)=Ln at bG af
 clear hD;subst af;clear f d X
 refine aa (wp_seq (wp_seq (sqr (sqp [.k 8 (vi 0)] ?_))))
 refine aa (wp_block ?_)
 rw[show [vi pg,vi (-1),.string (strOfNums ([2])),vi pg,vi 0,.string (hdB nd.lv (-1) false ByteArray.empty)]=(kq pg nd.lv (-1) ⟨#[]⟩).flatMap edC from rfl] at bG
 refine aX (fun t_ mz az W=>∃i:Nat,∃nn:Nat,∃O:List EdT,∃OA:Option Addr,∃OC:Nat,i<=n/\O=kq pg nd.lv (-1) ⟨#[]⟩++dC pg nd.lv 1 (nd.es.take i)/\O.length=nn/\nn<=10+i/\mz=n-i/\az=⟨(ovr (jv az) [(7,7,0,[.slice OA nn OC,vi ((i:Int))]),(12,21,27,[])] t_).toArray,[]⟩/\St w [b] [eB b 102 #[vi root,vi pos,vi leaf,.slice LA ln lc,vi fro,vi to,.bool spl],eB aW 66 #[.bool true,.bool nd.dead,vi nd.lv,vi nd.right,.string nd.high,.slice EA n ec,.slice SA n sc,.slice KA n kc],eB qr 39 #[.slice none 0 0,.bool false,vi 0],eO 5 1 (.slice EX 1 1) 1 ([.int .u8 2]),eO 99 3 (.slice OA nn OC) nn (O.flatMap edC)] W) (n-0) ?_ ?_
 exact⟨0,2,(kq pg nd.lv (-1) ⟨#[]⟩),(some ⟨Ln,0,none⟩),2,Nat.zero_le _,rfl,rfl,by omega,rfl,(by kernel_rfl),bG.pk [0,1,2,3,4]⟩
 rintro n5 a5 W5 ⟨i,nn,O,OA,OC,hi,hO,hOl,hnn,rfl,hj_,bO⟩
 refine ovz hj_ fun EL=>?_
 refine wp_seq (wp_seq (sqr (sqp [.m 21 8,.k 22 (.pointer (some ⟨aW,5,none⟩))] ?_)))
 refine al 1 bO ?_
 refine sqp [.k 24 (vi ((n:Int))),.k 25 (.bool (decide ((i:Int)<(n:Int))))] ?_
 refine aa (wds (fun wM rK=>?_) fun wM rK=>?_)
 refine wp_skip (aa (wp_seq (wp_block (aj [0,0,0,4,0,16,0,112,240,0,512,0,2048,0,14336,30720,65520,131070,262142,524287,1048575] [[],[],[],[],[],[1],[],[],[],[],[1],[],[1],[],[],[],[],[],[],[5,4]] [[],[],[],[],[],[],[],[],[],[],[],[],[],[],[],[],[],[],[5],[6]] [[],[],[],[],[],[],[],[],[],[],[],[],[],[],[],[],[],[],[],[4]] [.k 28 (.slice OA nn OC),.k 29 (vi pg),.k 30 (vi ((i:Int))),tI 31 ((i:Int)+1) (by omega),.k 32 (.pointer (some ⟨aW,5,none⟩)),.c 33 (.slice EA n ec),.k 34 (vi ((i:Int))),.c 35 (.pointer (some ((ad EA).add i))),.c 36 (.string ((nd.es.getD i en0).1)),.k 37 (.pointer (some ⟨aW,2,none⟩)),.c 38 (vi nd.lv),.k 39 (.pointer (some ⟨aW,7,none⟩)),.c 40 (.slice KA n kc),.k 41 (vi ((i:Int))),.c 42 (.pointer (some ((ad KA).add i))),.c 43 (vi ((nd.es.getD i en0).2.2)),.c 44 (.string (itB nd.lv ((nd.es.getD i en0).2.2) ((nd.es.getD i en0).1))),.k 45 (.agg #[vi pg,vi ((i:Int)+1),.string (itB nd.lv ((nd.es.getD i en0).2.2) ((nd.es.getD i en0).1))]),.a 46,.a 47,.a 7] (fun ix f d X=>match ix with|0|1|2|3|4|5|6|7|8|9|10|11|12|13|14|15|16|17=>True|18=>f 46= .slice ((some ⟨(pb' (d 46)),0,none⟩)) 1 1/\X 5=eO 99 3 (.slice ((some ⟨(pb' (d 46)),0,none⟩)) 1 1) 1 (edC (pg,(i:Int)+1,itB nd.lv ((nd.es.getD i en0).2.2) ((nd.es.getD i en0).1)))|19=>f 47= .slice (sA (d 47)) (nn+1) (sC (d 47))/\X 6=eO 99 3 (.slice (sA (d 47)) (nn+1) (sC (d 47))) (nn+1) ((O++[(pg,(i:Int)+1,itB nd.lv ((nd.es.getD i en0).2.2) ((nd.es.getD i en0).1))]).flatMap edC)|20=>f 7= .slice (sA (d 47)) (nn+1) (sC (d 47))|_=>True) [0,1,2,3,5,6] [5,7,8,10,12,14,15,16,18,19,20] [(7,20,1,8),(20,0,20,40)] bO ?_ ?_ ?_))))
 exact fun ix _ _ _ _ _ _ hs hb hx h=>match ix,h with
 |18,h=>by dsimp only;rw[<-hs 46 rfl,<-hb 46 rfl,<-hx 5 rfl];exact h
 |19,h=>by dsimp only;rw[<-hs 47 rfl,<-hb 47 rfl,<-hx 6 rfl];exact h
 |20,h=>by dsimp only;rw[<-hs 7 rfl,<-hb 47 rfl];exact h
 |0,_|1,_|2,_|3,_|4,_|5,_|6,_|7,_|8,_|9,_|10,_|11,_|12,_|13,_|14,_|15,_|16,_|17,_|_+21,_=>trivial
 refine⟨?_,?_,?_,?_,?_,?_,?_,?_,?_,?_,?_,trivial⟩
 exact xs4 rfl id fun cx=>ae rfl (by kernel_rfl) (cx.an 4) ((cx.bi 1 rfl).cell 5)
 exact xs4 rfl id fun cx=>bo (e:=9) (m:=i) rfl (by kernel_rfl) (by kernel_rfl) (cx.an 5) (cx.an 6) (by omega) (by omega) (hE _ cx.upd) (by rw[List.length_map];omega)
 exact xs4 rfl id fun cx=>ae rfl (by kernel_rfl) (cx.an 7) (At.cellAd (hE _ cx.upd) (kw (by omega)))
 exact xs4 rfl id fun cx=>ae rfl (by kernel_rfl) (cx.an 9) ((cx.bi 1 rfl).cell 2)
 exact xs4 rfl id fun cx=>ae rfl (by kernel_rfl) (cx.an 11) ((cx.bi 1 rfl).cell 7)
 exact xs4 rfl id fun cx=>bo (e:=3) (m:=i) rfl (by kernel_rfl) (by kernel_rfl) (cx.an 12) (cx.an 13) (by omega) (by omega) (hK _ cx.upd) (by rw[List.length_map];omega)
 exact xs4 rfl id fun cx=>ae rfl (by kernel_rfl) (cx.an 14) (At.cellAd (hK _ cx.upd) (vw (by omega)))
 exact xsc rfl id rfl rfl fun cx=>⟨_,lm ((nd.es.getD i en0).1) nd.lv ((nd.es.getD i en0).2.2) _ (cH hez _),(eC (cx.an 8) (cx.an 10) (cx.an 15))⟩
 refine svA fun g d W X cx=>?_
 have MX:g (.tmp 45)= .agg #[vi pg,vi ((i:Int)+1),.string (itB nd.lv ((nd.es.getD i en0).2.2) ((nd.es.getD i en0).1))]:=(cx.an 17)
 exact bS (e:=99) (sz:=3) (xs:=[vi pg,vi ((i:Int)+1),.string (itB nd.lv ((nd.es.getD i en0).2.2) ((nd.es.getD i en0).1))]) rfl (by simp[go_sem,MX]) rfl (by decide) rfl rfl (fun _ _ _ _ _=> .intro)
 refine svA fun g d W X cx=>?_
 obtain⟨i0,hi0,hz0,hz1,hz2⟩:=info_parts Try.infoEdit
 refine bL (n:=nn) (m:=1) (nm:=nn+1) (sz:=3) (xs:=O.flatMap edC) (news:=edC (pg,(i:Int)+1,itB nd.lv ((nd.es.getD i en0).2.2) ((nd.es.getD i en0).1))) (xs':=(O++[(pg,(i:Int)+1,itB nd.lv ((nd.es.getD i en0).2.2) ((nd.es.getD i en0).1))]).flatMap edC) rfl (ty:=34) rfl (by kernel_rfl) hi0 hz0 hz1 hz2 rfl (by decide) (cx.an 0) cx (cx.init 4 _ rfl) rfl (dTn (cx.an 18)).1 (by rfl) (At.of_ownN (cx.row (dTn (cx.an 18)).2 rfl)) (by simp[edC,Value.oneCell']) (by simp only[maxLen];omega) (by omega) rfl rfl rfl (by omega) (dw _ _) (fun f l X' hs hb hv hx=>?_)
 exact⟨hv,hx⟩
 exact sv rfl rfl rfl rfl rfl _ (fun _ _ _ h=>h) (fun d l h=>by rw[h 47 (by decide)]) fun g d W X cx=>aN rfl (dTn (cx.an 19)).1
 intro f d X nD hD cb fr af
 simp only[exq 5 ((dTn (hD 18 lq)).2),exq 6 ((dTn (hD 19 lq)).2)] at cb
 simp only[ed 46 ((dTn (hD 18 lq)).1),ed 47 ((dTn (hD 19 lq)).1),ed 7 ((dTn (hD 20 lq)))] at af
 generalize pb' (d 46)=Om,sA (d 47)=I9,sC (d 47)=Ja at cb af
 clear hD;subst af;clear f d X
 refine aw (aa (sqr (sqp [.m 26 8,sI 27 ((i:Int)+1) (by omega),.m 8 27] ?_)))
 refine aa ?_
 refine⟨n-((i+1)),by omega,?_⟩
 exact⟨(i+1),(nn+1),(O++[(pg,(i:Int)+1,itB nd.lv ((nd.es.getD i en0).2.2) ((nd.es.getD i en0).1))]),I9,Ja,by omega,by rw[hO,nK (by omega),<-List.append_assoc];(first|rfl|(congr 4;omega)|simp),by rw[List.length_append,hOl];rfl,by omega,rfl,(by kernel_rfl),cb.pk [0,1,2,3,5]⟩
 refine wp_exit (am (am (bj (aa (wp_seq ?_)))))
 rw[nX (by omega)] at hO
 have hlv1:0<=nd.lv+1/\nd.lv+1<=256:=by omega
 refine aj [0,0,2,6,14,0,32,96,224,480,1022,2046,4095,8191] [[],[],[],[],[0],[],[1],[],[],[],[],[],[5,4]] [[],[],[],[],[],[],[],[],[],[],[],[5],[6]] [[],[],[],[],[],[],[],[],[],[],[],[],[4]] [.k 48 (.slice OA nn OC),.k 49 (vp b),.k 50 (vp b),.k 51 (vp b),.c 52 (vi root),.k 53 (.pointer (some ⟨aW,2,none⟩)),.c 54 (vi nd.lv),tI 55 (nd.lv+1) (by omega),.k 56 (.agg #[.bool false,.bool false,vi (nd.lv+1),vi (-1),.string ByteArray.empty,.slice none 0 0,.slice none 0 0,.slice none 0 0]),.c 57 (.string (hdB (nd.lv+1) (-1) false ByteArray.empty)),.k 58 (.agg #[vi root,vi 0,.string (hdB (nd.lv+1) (-1) false ByteArray.empty)]),.a 59,.a 60,.a 7] (fun ix f d X=>match ix with|0|1|2|3|4|5|6|7|8|9|10=>True|11=>f 59= .slice ((some ⟨(pb' (d 59)),0,none⟩)) 1 1/\X 5=eO 99 3 (.slice ((some ⟨(pb' (d 59)),0,none⟩)) 1 1) 1 (edC (root,0,hdB (nd.lv+1) (-1) false ByteArray.empty))|12=>f 60= .slice (sA (d 60)) (nn+1) (sC (d 60))/\X 6=eO 99 3 (.slice (sA (d 60)) (nn+1) (sC (d 60))) (nn+1) ((O++[(root,0,hdB (nd.lv+1) (-1) false ByteArray.empty)]).flatMap edC)|13=>f 7= .slice (sA (d 60)) (nn+1) (sC (d 60))|_=>True) [0,1,2,3,5,6] [4,6,9,11,12,13] [(7,13,1,8),(40,0,13,53)] bO ?_ ?_ ?_
 exact fun ix _ _ _ _ _ _ hs hb hx h=>match ix,h with
 |11,h=>by dsimp only;rw[<-hs 59 rfl,<-hb 59 rfl,<-hx 5 rfl];exact h
 |12,h=>by dsimp only;rw[<-hs 60 rfl,<-hb 60 rfl,<-hx 6 rfl];exact h
 |13,h=>by dsimp only;rw[<-hs 7 rfl,<-hb 60 rfl];exact h
 |0,_|1,_|2,_|3,_|4,_|5,_|6,_|7,_|8,_|9,_|10,_|_+14,_=>trivial
 refine⟨?_,?_,?_,?_,?_,?_,trivial⟩
 exact xs4 rfl id fun cx=>ae rfl (by kernel_rfl) (cx.an 3) ((cx.bi 0 rfl).cell 0)
 exact xs4 rfl id fun cx=>ae rfl (by kernel_rfl) (cx.an 5) ((cx.bi 1 rfl).cell 2)
 exact xsc rfl id rfl rfl fun cx=>⟨_,mH (nd.lv+1) (-1) ByteArray.empty false false _ _ _ _ _ _ _ _ _ _ (by omega) (by omega) (by first|omega|decide),(br (cx.an 8))⟩
 refine svA fun g d W X cx=>?_
 have D1:g (.tmp 58)= .agg #[vi root,vi 0,.string (hdB (nd.lv+1) (-1) false ByteArray.empty)]:=(cx.an 10)
 exact bS (e:=99) (sz:=3) (xs:=[vi root,vi 0,.string (hdB (nd.lv+1) (-1) false ByteArray.empty)]) rfl (by simp[go_sem,D1]) rfl (by decide) rfl rfl (fun _ _ _ _ _=> .intro)
 refine svA fun g d W X cx=>?_
 obtain⟨i0,hi0,hz0,hz1,hz2⟩:=info_parts Try.infoEdit
 refine bL (n:=nn) (m:=1) (nm:=nn+1) (sz:=3) (xs:=O.flatMap edC) (news:=edC (root,0,hdB (nd.lv+1) (-1) false ByteArray.empty)) (xs':=(O++[(root,0,hdB (nd.lv+1) (-1) false ByteArray.empty)]).flatMap edC) rfl (ty:=34) rfl (by kernel_rfl) hi0 hz0 hz1 hz2 rfl (by decide) (cx.an 0) cx (cx.init 4 _ rfl) rfl (dTn (cx.an 11)).1 (by rfl) (At.of_ownN (cx.row (dTn (cx.an 11)).2 rfl)) (by simp[edC,Value.oneCell']) (by simp only[maxLen];omega) (by omega) rfl rfl rfl (by omega) (dw _ _) (fun f l X' hs hb hv hx=>?_)
 exact⟨hv,hx⟩
 exact sv rfl rfl rfl rfl rfl _ (fun _ _ _ h=>h) (fun d l h=>by rw[h 60 (by decide)]) fun g d W X cx=>aN rfl (dTn (cx.an 12)).1
 intro f d X ov hD bP fr af
 simp only[exq 5 ((dTn (hD 11 lq)).2),exq 6 ((dTn (hD 12 lq)).2)] at bP
 simp only[ed 59 ((dTn (hD 11 lq)).1),ed 60 ((dTn (hD 12 lq)).1),ed 7 ((dTn (hD 13 lq)))] at af
 generalize pb' (d 59)=Jb,sA (d 60)=Jc,sC (d 60)=Jd at bP af
 clear hD;subst af;clear f d X
 refine aa (wp_seq (wp_seq (sqr (sqp [.k 9 (vi 0)] ?_))))
 refine aa (wp_block ?_)
 refine aX (fun t_ mz az W=>∃j:Nat,∃nn:Nat,∃O:List EdT,∃OA:Option Addr,∃OC:Nat,j<=n/\O=aE pg nd.lv (-1) ⟨#[]⟩ nd.es++[(root,0,hdB (nd.lv+1) (-1) false ⟨#[]⟩)]++aA root (nd.es.take j)/\O.length=nn/\nn<=2000+j/\mz=n-j/\az=⟨(ovr (jv az) [(7,7,0,[.slice OA nn OC]),(1,9,0,[vi ((j:Int))]),(51,61,20,[])] t_).toArray,[]⟩/\St w [b] [eB b 102 #[vi root,vi pos,vi leaf,.slice LA ln lc,vi fro,vi to,.bool spl],eB aW 66 #[.bool true,.bool nd.dead,vi nd.lv,vi nd.right,.string nd.high,.slice EA n ec,.slice SA n sc,.slice KA n kc],eB qr 39 #[.slice none 0 0,.bool false,vi 0],eO 5 1 (.slice EX 1 1) 1 ([.int .u8 2]),eO 99 3 (.slice ((some ⟨Jb,0,none⟩)) 1 1) 1 (edC (root,0,hdB (nd.lv+1) (-1) false ByteArray.empty)),eO 99 3 (.slice OA nn OC) nn (O.flatMap edC)] W) (n-0) ?_ ?_
 exact⟨0,nn+1,(O++[(root,0,hdB (nd.lv+1) (-1) false ByteArray.empty)]),Jc,Jd,Nat.zero_le _,by rw[hO,List.take_zero];exact(List.append_nil _).symm,by rw[List.length_append,hOl];rfl,by omega,rfl,(by kernel_rfl),bP.pk [0,1,2,3,4,5]⟩
 rintro Ry a18 wB ⟨j,nn,O,OA,OC,hj,hO,hOl,hnn,rfl,hj_,cB⟩
 refine ovz hj_ fun Qg=>?_
 refine wp_seq (wp_seq (sqr (sqp [.m 61 9,.k 62 (.pointer (some ⟨aW,6,none⟩))] ?_)))
 refine al 1 cB ?_
 refine sqp [.k 64 (vi ((n:Int))),.k 65 (.bool (decide ((j:Int)<(n:Int))))] ?_
 refine aa (wds (fun fK rN=>?_) fun fK rN=>?_)
 refine wp_skip (aa (wp_seq (wp_block (aj [0,0,2,6,14,0,32,0,224,480,1022,2046,4095,8191] [[],[],[],[],[0],[],[1],[],[],[],[],[],[6,5]] [[],[],[],[],[],[],[],[],[],[],[],[6],[7]] [[],[],[],[],[],[],[],[],[],[],[],[],[5]] [.k 68 (.slice OA nn OC),.k 69 (vp b),.k 70 (vp b),.k 71 (vp b),.c 72 (vi root),.k 73 (.pointer (some ⟨aW,6,none⟩)),.c 74 (.slice SA n sc),.k 75 (vi ((j:Int))),.c 76 (.pointer (some ((ad SA).add j))),.c 77 (vi (((nd.es.getD j en0).2.1:Int))),.k 78 (.agg #[vi root,vi (((nd.es.getD j en0).2.1:Int)),.string ByteArray.empty]),.a 79,.a 80,.a 7] (fun ix f d X=>match ix with|0|1|2|3|4|5|6|7|8|9|10=>True|11=>f 79= .slice ((some ⟨(pb' (d 79)),0,none⟩)) 1 1/\X 6=eO 99 3 (.slice ((some ⟨(pb' (d 79)),0,none⟩)) 1 1) 1 (edC (root,((nd.es.getD j en0).2.1:Int),ByteArray.empty))|12=>f 80= .slice (sA (d 80)) (nn+1) (sC (d 80))/\X 7=eO 99 3 (.slice (sA (d 80)) (nn+1) (sC (d 80))) (nn+1) ((O++[(root,((nd.es.getD j en0).2.1:Int),ByteArray.empty)]).flatMap edC)|13=>f 7= .slice (sA (d 80)) (nn+1) (sC (d 80))|_=>True) [0,1,2,3,4,6,7] [4,6,8,9,11,12,13] [(7,13,1,8),(60,0,13,73)] cB ?_ ?_ ?_))))
 exact fun ix _ _ _ _ _ _ hs hb hx h=>match ix,h with
 |11,h=>by dsimp only;rw[<-hs 79 rfl,<-hb 79 rfl,<-hx 6 rfl];exact h
 |12,h=>by dsimp only;rw[<-hs 80 rfl,<-hb 80 rfl,<-hx 7 rfl];exact h
 |13,h=>by dsimp only;rw[<-hs 7 rfl,<-hb 80 rfl];exact h
 |0,_|1,_|2,_|3,_|4,_|5,_|6,_|7,_|8,_|9,_|10,_|_+14,_=>trivial
 refine⟨?_,?_,?_,?_,?_,?_,?_,trivial⟩
 exact xs4 rfl id fun cx=>ae rfl (by kernel_rfl) (cx.an 3) ((cx.bi 0 rfl).cell 0)
 exact xs4 rfl id fun cx=>ae rfl (by kernel_rfl) (cx.an 5) ((cx.bi 1 rfl).cell 6)
 exact xs4 rfl id fun cx=>bo (e:=3) (m:=j) rfl (by kernel_rfl) (by kernel_rfl) (cx.an 6) (cx.an 7) (by omega) (by omega) (hS _ cx.upd) (by rw[List.length_map];omega)
 exact xs4 rfl id fun cx=>ae rfl (by kernel_rfl) (cx.an 8) (At.cellAd (hS _ cx.upd) (Be (by omega)))
 refine svA fun g d W X cx=>?_
 have MY:g (.tmp 78)= .agg #[vi root,vi (((nd.es.getD j en0).2.1:Int)),.string ByteArray.empty]:=(cx.an 10)
 exact bS (e:=99) (sz:=3) (xs:=[vi root,vi (((nd.es.getD j en0).2.1:Int)),.string ByteArray.empty]) rfl (by simp[go_sem,MY]) rfl (by decide) rfl rfl (fun _ _ _ _ _=> .intro)
 refine svA fun g d W X cx=>?_
 obtain⟨i0,hi0,hz0,hz1,hz2⟩:=info_parts Try.infoEdit
 refine bL (n:=nn) (m:=1) (nm:=nn+1) (sz:=3) (xs:=O.flatMap edC) (news:=edC (root,((nd.es.getD j en0).2.1:Int),ByteArray.empty)) (xs':=(O++[(root,((nd.es.getD j en0).2.1:Int),ByteArray.empty)]).flatMap edC) rfl (ty:=34) rfl (by kernel_rfl) hi0 hz0 hz1 hz2 rfl (by decide) (cx.an 0) cx (cx.init 5 _ rfl) rfl (dTn (cx.an 11)).1 (by rfl) (At.of_ownN (cx.row (dTn (cx.an 11)).2 rfl)) (by simp[edC,Value.oneCell']) (by simp only[maxLen];omega) (by omega) rfl rfl rfl (by omega) (dw _ _) (fun f l X' hs hb hv hx=>?_)
 exact⟨hv,hx⟩
 exact sv rfl rfl rfl rfl rfl _ (fun _ _ _ h=>h) (fun d l h=>by rw[h 80 (by decide)]) fun g d W X cx=>aN rfl (dTn (cx.an 12)).1
 intro f d X BT hD ev fr af
 simp only[exq 6 ((dTn (hD 11 lq)).2),exq 7 ((dTn (hD 12 lq)).2)] at ev
 simp only[ed 79 ((dTn (hD 11 lq)).1),ed 80 ((dTn (hD 12 lq)).1),ed 7 ((dTn (hD 13 lq)))] at af
 generalize pb' (d 79)=On,sA (d 80)=Je,sC (d 80)=Jf at ev af
 clear hD;subst af;clear f d X
 refine aw (aa (sqr (sqp [.m 66 9,sI 67 ((j:Int)+1) (by omega),.m 9 67] ?_)))
 refine aa ?_
 refine⟨n-((j+1)),by omega,?_⟩
 exact⟨(j+1),(nn+1),(O++[(root,((nd.es.getD j en0).2.1:Int),ByteArray.empty)]),Je,Jf,by omega,by rw[hO,lL (by omega),<-List.append_assoc],by rw[List.length_append,hOl];rfl,by omega,rfl,(by kernel_rfl),ev.pk [0,1,2,3,4,6]⟩
 refine wp_exit (am (am (bj (aa (wp_seq (aj [0,0,2,6,14,0,0,96,254,510,1023,2047] [[],[],[],[],[0],[],[],[],[],[],[6,5]] [[],[],[],[],[],[],[],[],[],[6],[7]] [[],[],[],[],[],[],[],[],[],[],[5]] [.k 81 (.slice OA nn OC),.k 82 (vp b),.k 83 (vp b),.k 84 (vp b),.c 85 (vi root),.c 86 (.string ay),.k 87 (vi pg),.c 88 (.string (itB 1 pg ay)),.k 89 (.agg #[vi root,vi 1,.string (itB 1 pg ay)]),.a 90,.a 91,.a 7] (fun ix f d X=>match ix with|0|1|2|3|4|5|6|7|8=>True|9=>f 90= .slice ((some ⟨(pb' (d 90)),0,none⟩)) 1 1/\X 6=eO 99 3 (.slice ((some ⟨(pb' (d 90)),0,none⟩)) 1 1) 1 (edC (root,1,itB 1 pg ay))|10=>f 91= .slice (sA (d 91)) (nn+1) (sC (d 91))/\X 7=eO 99 3 (.slice (sA (d 91)) (nn+1) (sC (d 91))) (nn+1) ((O++[(root,1,itB 1 pg ay)]).flatMap edC)|11=>f 7= .slice (sA (d 91)) (nn+1) (sC (d 91))|_=>True) [0,1,2,3,4,6,7] [4,5,7,9,10,11] [(7,11,1,8),(73,0,11,84)] cB ?_ ?_ ?_))))))
 exact fun ix _ _ _ _ _ _ hs hb hx h=>match ix,h with
 |9,h=>by dsimp only;rw[<-hs 90 rfl,<-hb 90 rfl,<-hx 6 rfl];exact h
 |10,h=>by dsimp only;rw[<-hs 91 rfl,<-hb 91 rfl,<-hx 7 rfl];exact h
 |11,h=>by dsimp only;rw[<-hs 7 rfl,<-hb 91 rfl];exact h
 |0,_|1,_|2,_|3,_|4,_|5,_|6,_|7,_|8,_|_+12,_=>trivial
 refine⟨?_,?_,?_,?_,?_,?_,trivial⟩
 exact xs4 rfl id fun cx=>ae rfl (by kernel_rfl) (cx.an 3) ((cx.bi 0 rfl).cell 0)
 exact xsc rfl id rfl rfl fun cx=>⟨_,yM _,zo⟩
 exact xsc rfl id rfl rfl fun cx=>⟨_,lm ay 1 pg _ (by decide),(eC (cx.an 5) (cx.co _) (cx.an 6))⟩
 refine svA fun g d W X cx=>?_
 have D2:g (.tmp 89)= .agg #[vi root,vi 1,.string (itB 1 pg ay)]:=(cx.an 8)
 exact bS (e:=99) (sz:=3) (xs:=[vi root,vi 1,.string (itB 1 pg ay)]) rfl (by simp[go_sem,D2]) rfl (by decide) rfl rfl (fun _ _ _ _ _=> .intro)
 refine svA fun g d W X cx=>?_
 obtain⟨i0,hi0,hz0,hz1,hz2⟩:=info_parts Try.infoEdit
 refine bL (n:=nn) (m:=1) (nm:=nn+1) (sz:=3) (xs:=O.flatMap edC) (news:=edC (root,1,itB 1 pg ay)) (xs':=(O++[(root,1,itB 1 pg ay)]).flatMap edC) rfl (ty:=34) rfl (by kernel_rfl) hi0 hz0 hz1 hz2 rfl (by decide) (cx.an 0) cx (cx.init 5 _ rfl) rfl (dTn (cx.an 9)).1 (by rfl) (At.of_ownN (cx.row (dTn (cx.an 9)).2 rfl)) (by simp[edC,Value.oneCell']) (by simp only[maxLen];omega) (by omega) rfl rfl rfl (by omega) (dw _ _) (fun f l X' hs hb hv hx=>?_)
 exact⟨hv,hx⟩
 exact sv rfl rfl rfl rfl rfl _ (fun _ _ _ h=>h) (fun d l h=>by rw[h 91 (by decide)]) fun g d W X cx=>aN rfl (dTn (cx.an 10)).1
 intro f d X EO hD ew fr af
 simp only[exq 6 ((dTn (hD 9 lq)).2),exq 7 ((dTn (hD 10 lq)).2)] at ew
 simp only[ed 90 ((dTn (hD 9 lq)).1),ed 91 ((dTn (hD 10 lq)).1),ed 7 ((dTn (hD 11 lq)))] at af
 generalize pb' (d 90)=Oo,sA (d 91)=wW,sC (d 91)=wX at ew af
 clear hD;subst af;clear f d X
 refine aa (wp_seq (sqr (sqp [.m 92 0,.m 93 2,.k 94 (vp b),.k 95 (.pointer (some ⟨b,1,none⟩))] ?_)))
 refine aF (n:=1) 0 #[vi root,vi pg,vi leaf,.slice LA ln lc,vi fro,vi to,.bool spl] ew fun BY f8=>?_
 refine aa (wp_seq (sqr (sqp [.m 96 7,.k 97 (.agg #[.slice wW (nn+1) wX,.bool true,vi 0])] ?_)))
 refine aF (n:=3) 2 #[.slice wW (nn+1) wX,.bool true,vi 0] f8 fun I8 ia=>?_
 refine aa (wp_ret ?_)
 refine bpr (.agg #[.slice wW (nn+1) wX,.bool true,vi 0]) (ba (n:=3) Try.results61 rfl (by kernel_rfl) (by kernel_rfl) (ia.blk 2 rfl) rfl) ?_
 have hfin:O++[(root,1,itB 1 pg ay)]=bT root nd pg:=by rw[hO,mU (by omega)];rfl
 rw[hfin] at ia
 have hfl:nn+1=(bT root nd pg).length:=by rw[<-hfin,List.length_append,hOl];rfl
 rw[hfl] at ia |-
 exact⟨_,_,rfl,ia.pick [0,6] (by decide) rfl⟩
end
section
open Go.RowKit
def tkC(t:TaT):List Value:=[.string t.1,.int .i64 t.2.1,.int .i64 t.2.2]
theorem i6(t:TaT):(tkC t).length=3:=rfl
theorem GF(l:List TaT)(t:TaT):l.flatMap tkC++tkC t=(l++[t]).flatMap tkC:=by simp
theorem F9(l:List TaT):∀u∈l.flatMap tkC,Value.oneCell' u=true:=fun u hu=>by
 obtain⟨p,_,hp⟩:=List.mem_flatMap.1 hu
 simp only[tkC,List.mem_cons,List.not_mem_nil,or_false] at hp
 rcases hp with rfl|rfl|rfl<;>rfl
theorem ll{es:List EnD}{k i:Nat}:(es.drop k).getD i en0=es.getD (k+i) en0:=by
 rw[List.getD_eq_getElem?_getD,List.getD_eq_getElem?_getD,List.getElem?_drop]
theorem yS{pg lv:Int}{i k:Nat}{es:List EnD}(h:k+i<es.length):dC pg lv 1 ((es.drop k).take (i+1))=dC pg lv 1 ((es.drop k).take i)++[(pg,((1+i:Nat):Int),itB lv (es.getD (k+i) en0).2.2 (es.getD (k+i) en0).1)]:=by
 rw[nK (by rw[List.length_drop];omega),ll]
theorem vx{pg:Int}{i k:Nat}{es:List EnD}(h:k+i<es.length):aA pg ((es.drop k).take (i+1))=aA pg ((es.drop k).take i)++[(pg,((es.getD (k+i) en0).2.1:Int),ByteArray.empty)]:=by
 rw[lL (by rw[List.length_drop];omega),ll]
theorem Try.infoTk:(Try.prog.info? 111).map (fun i=>(i.zero,i.size,i.bytes))=some (some (.agg #[.string ByteArray.empty,.int .i64 0,.int .i64 0]),3,32):=by kernel_rfl
def H8(b:Nat)(cells:Option Addr->Nat->Array Value)(l:List TaT)(eds:List EdT)(w:World)(e:Ending)(w':World):Prop:=∃A c LA lc,e= .returned (.agg #[.slice A eds.length c,.bool true,.int .i64 0])/\St w [b] [eB b 102 (cells LA lc),eO 111 3 (.slice LA l.length lc) l.length (l.flatMap tkC),eO 99 3 (.slice A eds.length c) eds.length (eds.flatMap edC)] w'
theorem zb{pg lv rt:Int}{hi:ByteArray}{es:List EnD}{i k:Nat}(h:es.length<=k+i):kq pg lv rt hi++dC pg lv 1 ((es.drop k).take i)=aE pg lv rt hi (es.drop k):=nX (by rw[List.length_drop];omega)
theorem pD{pg:Int}{es:List EnD}{i k:Nat}(h:es.length<=k+i):aA pg ((es.drop k).take i)=aA pg (es.drop k):=mU (by rw[List.length_drop];omega)
theorem Cx(b:Nat)(root pos leaf fro to:Int)(spl:Bool)(la:Addr)(ln lc:Nat)(nd:NoD)(EA SA KA:Option Addr)(ec sc kc n:Nat)(pg:Int)(te:ByteArray)(tl tk:Int)(lf:List TaT)(w:World)(hb:Blk w b 102 #[.int .i64 root,.int .i64 pos,.int .i64 leaf,.slice ((some la)) ln lc,.int .i64 fro,.int .i64 to,.bool spl])(hE:∀W,Upd [b] w W->At W EA (nd.es.map stv))(hS:∀W,Upd [b] w W->At W SA (nd.es.map slv))(hK:∀W,Upd [b] w W->At W KA (nd.es.map kdv))(hn:nd.es.length=n)(hez:∀e∈nd.es,e.1.size<=1000000)(hnb:n<=1000)(hlv:0<=nd.lv/\nd.lv<=255)(hpg:0<=pg/\pg<=1000000)(hL:∀W,Upd [b] w W->At W (some la) (lf.flatMap tkC))(hln:lf.length=ln)(hlnb:ln<=10000)(htl:0<=tl/\tl<=100000)(hn1:1<=n)(hrt: -1<=nd.right/\nd.right<=100000)(hhi:nd.high.size<=1000000):
  Calls Try.prog 62 #[.pointer (some ⟨b,0,none⟩),.agg #[.bool true,.bool nd.dead,.int .i64 nd.lv,.int .i64 nd.right,.string nd.high,.slice EA n ec,.slice SA n sc,.slice KA n kc],.agg #[.string te,.int .i64 tl,.int .i64 tk],.int .i64 pg] w (H8 b (fun LA' lc'=>#[.int .i64 root,.int .i64 pos,.int .i64 leaf,.slice (LA') ((ln+1)) (lc'),.int .i64 ((if tl=0 then pos else fro)),.int .i64 ((if tl=0 then pg else to)),.bool ((if tl=0 then true else spl))]) (lf++[(bN nd,tl+1,pg)]) (bR pos nd pg) w):=by
 have st0:=St.lend (E:=eB b 102 #[.int .i64 root,.int .i64 pos,.int .i64 leaf,.slice ((some la)) ln lc,.int .i64 fro,.int .i64 to,.bool spl]) hb (dH _ _ _) (fun k hk=>by simp[eB] at hk;subst hk;exact hb.lt)
 go_enter Try.func62,Try.ntmps62
 have aq:=st0
 refine wp_seq (sqr ?_)
 refine bX #[.bool true,.bool nd.dead,vi nd.lv,vi nd.right,.string nd.high,.slice EA n ec,.slice SA n sc,.slice KA n kc] aq fun bv W1 aC=>?_
 refine bX #[.string te,vi tl,vi tk] aC fun qr W2 aV=>?_
 refine bW #[.slice none 0 0,.bool false,vi 0] aV fun gV W3 bG=>?_
 refine aa (wp_seq (sqr (sqp [.k 13 (.pointer (some ⟨bv,5,none⟩))] ?_)))
 refine al 1 bG ?_
 refine sqp [.k 15 (vi ((n:Int))),sQu 16 .i64 (n:Int) 2 ((n:Int) / 2) (by rw[Int.tdiv_eq_ediv_of_nonneg (by omega)];exact IntWalk.i64_in _ (by omega)),.m 9 16] ?_
 refine aa (wp_seq ?_)
 obtain⟨hf,hhf⟩:∃k:Nat,n / 2=k:=⟨_,rfl⟩
 obtain⟨z9_,Jg⟩:∃z,(n:Int) / 2=z:=⟨_,rfl⟩
 rw[Jg]
 obtain rfl:z9_=(hf:Int):=by omega
 have hhz:=hez
 have hmid:=cH hez hf
 refine aj [0,0,2,7,0,0,32,0,128,0,512,2016,4064,8176,16383,32767] [[],[],[4],[],[],[],[1],[],[1],[],[1]] [[],[4],[],[],[],[],[],[],[],[],[],[],[],[],[5]] [] [.k 17 (vi pg),.a 18,.c 19 (.string (strOfNums ([2]))),.k 20 (.agg #[vi pg,vi (-1),.string (strOfNums ([2]))]),.k 21 (vi pg),.k 22 (.pointer (some ⟨bv,2,none⟩)),.c 23 (vi nd.lv),.k 24 (.pointer (some ⟨bv,3,none⟩)),.c 25 (vi nd.right),.k 26 (.pointer (some ⟨bv,4,none⟩)),.c 27 (.string nd.high),.k 28 (.agg #[.bool false,.bool false,vi nd.lv,vi nd.right,.string nd.high,.slice none 0 0,.slice none 0 0,.slice none 0 0]),.c 29 (.string (hdB nd.lv nd.right false nd.high)),.k 30 (.agg #[vi pg,vi 0,.string (hdB nd.lv nd.right false nd.high)]),.a 31,.a 10] (fun ix f d X=>match ix with|0=>True|1=>f 18= .slice (sA (d 18)) 1 1/\X 4=eO 5 1 (.slice (sA (d 18)) 1 1) 1 ([.int .u8 2])|2|3|4|5|6|7|8|9|10|11|12|13=>True|14=>f 31= .slice ((some ⟨(pb' (d 31)),0,none⟩)) 2 2/\X 5=eO 99 3 (.slice ((some ⟨(pb' (d 31)),0,none⟩)) 2 2) 2 ([vi pg,vi (-1),.string (strOfNums ([2])),vi pg,vi 0,.string (hdB nd.lv nd.right false nd.high)])|15=>f 10= .slice ((some ⟨(pb' (d 31)),0,none⟩)) 2 2|_=>True) [0,1,2,3,4,5] [1,2,6,8,10,12,14,15] [(10,15,1,11),(6,0,15,21)] bG ?_ ?_ ?_
 exact fun ix _ _ _ _ _ _ hs hb hx h=>match ix,h with
 |1,h=>by dsimp only;rw[<-hs 18 rfl,<-hb 18 rfl,<-hx 4 rfl];exact h
 |14,h=>by dsimp only;rw[<-hs 31 rfl,<-hb 31 rfl,<-hx 5 rfl];exact h
 |15,h=>by dsimp only;rw[<-hs 10 rfl,<-hb 31 rfl];exact h
 |0,_|2,_|3,_|4,_|5,_|6,_|7,_|8,_|9,_|10,_|11,_|12,_|13,_|_+16,_=>trivial
 refine⟨?_,?_,?_,?_,?_,?_,?_,?_,trivial⟩
 refine svA fun g d W X cx=>?_
 exact bY (e:=5) (xs:=[.int .u8 2]) rfl (by simp[go_sem,cx.sees.const]) rfl (by decide) rfl rfl (fun _ _ _ _ _=> .intro)
 exact xs4 rfl id fun cx=>cd (e:=5) rfl (by kernel_rfl) (by kernel_rfl) (by kernel_rfl) (dTn (cx.an 1)).1 (cx.row (dTn (cx.an 1)).2 rfl)
 exact xs4 rfl id fun cx=>ae rfl (by kernel_rfl) (cx.an 5) ((cx.bi 1 rfl).cell 2)
 exact xs4 rfl id fun cx=>ae rfl (by kernel_rfl) (cx.an 7) ((cx.bi 1 rfl).cell 3)
 exact xs4 rfl id fun cx=>ae rfl (by kernel_rfl) (cx.an 9) ((cx.bi 1 rfl).cell 4)
 exact xsc rfl id rfl rfl fun cx=>⟨_,mH nd.lv nd.right nd.high false false _ _ _ _ _ _ _ _ _ _ (by omega) (by omega) (by first|omega|decide),(br (cx.an 11))⟩
 refine svA fun g d W X cx=>?_
 have MZ:g (.tmp 20)= .agg #[vi pg,vi (-1),.string (strOfNums ([2]))]:=(cx.an 3)
 have M0:g (.tmp 30)= .agg #[vi pg,vi 0,.string (hdB nd.lv nd.right false nd.high)]:=(cx.an 13)
 exact bS (e:=99) (sz:=3) (xs:=[vi pg,vi (-1),.string (strOfNums ([2])),vi pg,vi 0,.string (hdB nd.lv nd.right false nd.high)]) rfl (by simp[go_sem,MZ,M0]) rfl (by decide) rfl rfl (fun _ _ _ _ _=> .intro)
 exact sv rfl rfl rfl rfl rfl _ (fun _ _ _ h=>h) (fun d l h=>by rw[h 31 (by decide)]) fun g d W X cx=>aN rfl (dTn (cx.an 14)).1
 intro f d X ul hD cX fr af
 simp only[exq 4 ((dTn (hD 1 lq)).2),exq 5 ((dTn (hD 14 lq)).2)] at cX
 simp only[ed 18 ((dTn (hD 1 lq)).1),ed 31 ((dTn (hD 14 lq)).1),ed 10 ((dTn (hD 15 lq)))] at af
 generalize sA (d 18)=BZ,pb' (d 31)=Jh at cX af
 clear hD;subst af;clear f d X
 refine aa (wp_seq (wp_seq (sqr (sqp [.m 32 9,.m 11 32] ?_))))
 refine aa (wp_block ?_)
 rw[show [vi pg,vi (-1),.string (strOfNums ([2])),vi pg,vi 0,.string (hdB nd.lv nd.right false nd.high)]=(kq pg nd.lv nd.right nd.high).flatMap edC from rfl] at cX
 refine aX (fun t_ mz az W=>∃i:Nat,∃nn:Nat,∃O:List EdT,∃OA:Option Addr,∃OC:Nat,i<=(n-hf)/\O=kq pg nd.lv nd.right nd.high++dC pg nd.lv 1 ((nd.es.drop hf).take i)/\O.length=nn/\nn<=10+i/\mz=(n-hf)-i/\az=⟨(ovr (jv az) [(10,10,0,[.slice OA nn OC,vi ((hf:Int)+(i:Int))]),(21,33,29,[])] t_).toArray,[]⟩/\St w [b] [eB b 102 #[vi root,vi pos,vi leaf,.slice ((some la)) ln lc,vi fro,vi to,.bool spl],eB bv 66 #[.bool true,.bool nd.dead,vi nd.lv,vi nd.right,.string nd.high,.slice EA n ec,.slice SA n sc,.slice KA n kc],eB qr 111 #[.string te,vi tl,vi tk],eB gV 39 #[.slice none 0 0,.bool false,vi 0],eO 5 1 (.slice BZ 1 1) 1 ([.int .u8 2]),eO 99 3 (.slice OA nn OC) nn (O.flatMap edC)] W) ((n-hf)-0) ?_ ?_
 exact⟨0,2,(kq pg nd.lv nd.right nd.high),(some ⟨Jh,0,none⟩),2,Nat.zero_le _,rfl,rfl,by omega,rfl,(by kernel_rfl),cX.pk [0,1,2,3,4,5]⟩
 rintro Rz a13 kO ⟨i,nn,O,OA,OC,hi,hO,hOl,hnn,rfl,hj_,bE⟩
 refine ovz hj_ fun Qh=>?_
 refine wp_seq (wp_seq (sqr (sqp [.m 33 11,.k 34 (.pointer (some ⟨bv,5,none⟩))] ?_)))
 refine al 1 bE ?_
 refine sqp [.k 36 (vi ((n:Int))),.k 37 (.bool (decide ((hf:Int)+(i:Int)<(n:Int))))] ?_
 refine aa (wds (fun M1 Lo=>?_) fun M1 Lo=>?_)
 refine wp_skip (aa (wp_seq (wp_block (aj [0,0,0,0,12,28,0,64,0,448,960,0,2048,0,8192,0,57344,122880,262080,524286,1048574,2097151,4194303] [[],[],[],[],[],[],[],[1],[],[],[],[],[1],[],[1],[],[],[],[],[],[],[6,5]] [[],[],[],[],[],[],[],[],[],[],[],[],[],[],[],[],[],[],[],[],[6],[7]] [[],[],[],[],[],[],[],[],[],[],[],[],[],[],[],[],[],[],[],[],[],[5]] [.k 40 (.slice OA nn OC),.k 41 (vi pg),.k 42 (vi ((hf:Int)+(i:Int))),.k 43 (vi ((hf:Int))),tI 44 (((hf:Int)+(i:Int))-(hf:Int)) (by omega),tI 45 (((hf:Int)+(i:Int)-(hf:Int))+1) (by omega),.k 46 (.pointer (some ⟨bv,5,none⟩)),.c 47 (.slice EA n ec),.k 48 (vi ((hf:Int)+(i:Int))),.c 49 (.pointer (some ((ad EA).add (hf+i)))),.c 50 (.string ((nd.es.getD (hf+i) en0).1)),.k 51 (.pointer (some ⟨bv,2,none⟩)),.c 52 (vi nd.lv),.k 53 (.pointer (some ⟨bv,7,none⟩)),.c 54 (.slice KA n kc),.k 55 (vi ((hf:Int)+(i:Int))),.c 56 (.pointer (some ((ad KA).add (hf+i)))),.c 57 (vi ((nd.es.getD (hf+i) en0).2.2)),.c 58 (.string (itB nd.lv ((nd.es.getD (hf+i) en0).2.2) ((nd.es.getD (hf+i) en0).1))),.k 59 (.agg #[vi pg,vi (((hf:Int)+(i:Int)-(hf:Int))+1),.string (itB nd.lv ((nd.es.getD (hf+i) en0).2.2) ((nd.es.getD (hf+i) en0).1))]),.a 60,.a 61,.a 10] (fun ix f d X=>match ix with|0|1|2|3|4|5|6|7|8|9|10|11|12|13|14|15|16|17|18|19=>True|20=>f 60= .slice ((some ⟨(pb' (d 60)),0,none⟩)) 1 1/\X 6=eO 99 3 (.slice ((some ⟨(pb' (d 60)),0,none⟩)) 1 1) 1 (edC (pg,((hf:Int)+(i:Int)-(hf:Int))+1,itB nd.lv ((nd.es.getD (hf+i) en0).2.2) ((nd.es.getD (hf+i) en0).1)))|21=>f 61= .slice (sA (d 61)) (nn+1) (sC (d 61))/\X 7=eO 99 3 (.slice (sA (d 61)) (nn+1) (sC (d 61))) (nn+1) ((O++[(pg,((hf:Int)+(i:Int)-(hf:Int))+1,itB nd.lv ((nd.es.getD (hf+i) en0).2.2) ((nd.es.getD (hf+i) en0).1))]).flatMap edC)|22=>f 10= .slice (sA (d 61)) (nn+1) (sC (d 61))|_=>True) [0,1,2,3,4,6,7] [7,9,10,12,14,16,17,18,20,21,22] [(10,22,1,11),(29,0,22,51)] bE ?_ ?_ ?_))))
 exact fun ix _ _ _ _ _ _ hs hb hx h=>match ix,h with
 |20,h=>by dsimp only;rw[<-hs 60 rfl,<-hb 60 rfl,<-hx 6 rfl];exact h
 |21,h=>by dsimp only;rw[<-hs 61 rfl,<-hb 61 rfl,<-hx 7 rfl];exact h
 |22,h=>by dsimp only;rw[<-hs 10 rfl,<-hb 61 rfl];exact h
 |0,_|1,_|2,_|3,_|4,_|5,_|6,_|7,_|8,_|9,_|10,_|11,_|12,_|13,_|14,_|15,_|16,_|17,_|18,_|19,_|_+23,_=>trivial
 refine⟨?_,?_,?_,?_,?_,?_,?_,?_,?_,?_,?_,trivial⟩
 exact xs4 rfl id fun cx=>ae rfl (by kernel_rfl) (cx.an 6) ((cx.bi 1 rfl).cell 5)
 exact xs4 rfl id fun cx=>bo (e:=9) (m:=hf+i) rfl (by kernel_rfl) (by kernel_rfl) (cx.an 7) (cx.an 8) (by omega) (by omega) (hE _ cx.upd) (by rw[List.length_map];omega)
 exact xs4 rfl id fun cx=>ae rfl (by kernel_rfl) (cx.an 9) (At.cellAd (hE _ cx.upd) (kw (by omega)))
 exact xs4 rfl id fun cx=>ae rfl (by kernel_rfl) (cx.an 11) ((cx.bi 1 rfl).cell 2)
 exact xs4 rfl id fun cx=>ae rfl (by kernel_rfl) (cx.an 13) ((cx.bi 1 rfl).cell 7)
 exact xs4 rfl id fun cx=>bo (e:=3) (m:=hf+i) rfl (by kernel_rfl) (by kernel_rfl) (cx.an 14) (cx.an 15) (by omega) (by omega) (hK _ cx.upd) (by rw[List.length_map];omega)
 exact xs4 rfl id fun cx=>ae rfl (by kernel_rfl) (cx.an 16) (At.cellAd (hK _ cx.upd) (vw (by omega)))
 exact xsc rfl id rfl rfl fun cx=>⟨_,lm ((nd.es.getD (hf+i) en0).1) nd.lv ((nd.es.getD (hf+i) en0).2.2) _ (cH hez _),(eC (cx.an 10) (cx.an 12) (cx.an 17))⟩
 refine svA fun g d W X cx=>?_
 have M2:g (.tmp 59)= .agg #[vi pg,vi (((hf:Int)+(i:Int)-(hf:Int))+1),.string (itB nd.lv ((nd.es.getD (hf+i) en0).2.2) ((nd.es.getD (hf+i) en0).1))]:=(cx.an 19)
 exact bS (e:=99) (sz:=3) (xs:=[vi pg,vi (((hf:Int)+(i:Int)-(hf:Int))+1),.string (itB nd.lv ((nd.es.getD (hf+i) en0).2.2) ((nd.es.getD (hf+i) en0).1))]) rfl (by simp[go_sem,M2]) rfl (by decide) rfl rfl (fun _ _ _ _ _=> .intro)
 refine svA fun g d W X cx=>?_
 obtain⟨i0,hi0,hz0,hz1,hz2⟩:=info_parts Try.infoEdit
 refine bL (n:=nn) (m:=1) (nm:=nn+1) (sz:=3) (xs:=O.flatMap edC) (news:=edC (pg,((hf:Int)+(i:Int)-(hf:Int))+1,itB nd.lv ((nd.es.getD (hf+i) en0).2.2) ((nd.es.getD (hf+i) en0).1))) (xs':=(O++[(pg,((hf:Int)+(i:Int)-(hf:Int))+1,itB nd.lv ((nd.es.getD (hf+i) en0).2.2) ((nd.es.getD (hf+i) en0).1))]).flatMap edC) rfl (ty:=34) rfl (by kernel_rfl) hi0 hz0 hz1 hz2 rfl (by decide) (cx.an 0) cx (cx.init 5 _ rfl) rfl (dTn (cx.an 20)).1 (by rfl) (At.of_ownN (cx.row (dTn (cx.an 20)).2 rfl)) (by simp[edC,tkC,Value.oneCell']) (by simp only[maxLen];omega) (by omega) rfl rfl rfl (by omega) (dw _ _) (fun f l X' hs hb hv hx=>?_)
 exact⟨hv,hx⟩
 exact sv rfl rfl rfl rfl rfl _ (fun _ _ _ h=>h) (fun d l h=>by rw[h 61 (by decide)]) fun g d W X cx=>aN rfl (dTn (cx.an 21)).1
 intro f d X wD hD dL fr af
 simp only[exq 6 ((dTn (hD 20 lq)).2),exq 7 ((dTn (hD 21 lq)).2)] at dL
 simp only[ed 60 ((dTn (hD 20 lq)).1),ed 61 ((dTn (hD 21 lq)).1),ed 10 ((dTn (hD 22 lq)))] at af
 generalize pb' (d 60)=Oq,sA (d 61)=Ji,sC (d 61)=Jj at dL af
 clear hD;subst af;clear f d X
 refine aw (aa (sqr (sqp [.m 38 11,sI 39 (((hf:Int)+(i:Int))+1) (by omega),.m 11 39] ?_)))
 refine aa ?_
 rw[show ((hf:Int)+(i:Int)+1)=(hf:Int)+((i+1:Nat):Int) by omega]
 refine⟨(n-hf)-((i+1)),by omega,?_⟩
 exact⟨(i+1),(nn+1),(O++[(pg,((hf:Int)+(i:Int)-(hf:Int))+1,itB nd.lv ((nd.es.getD (hf+i) en0).2.2) ((nd.es.getD (hf+i) en0).1))]),Ji,Jj,by omega,by rw[hO,yS (by omega),<-List.append_assoc];(first|rfl|(congr 4;omega)|simp),by rw[List.length_append,hOl];rfl,by omega,rfl,(by kernel_rfl),dL.pk [0,1,2,3,4,6]⟩
 refine wp_exit (am (am (bj (aa (wp_seq ?_)))))
 rw[zb (by omega)] at hO
 refine aj [0,0,2,6,14,0,32,0,0,256,0,1792,3840,8160,16352,32766,65534,131071,262143] [[],[],[],[],[0],[],[1],[],[],[1],[],[],[],[],[],[],[],[6,5]] [[],[],[],[],[],[],[],[],[],[],[],[],[],[],[],[],[6],[7]] [[],[],[],[],[],[],[],[],[],[],[],[],[],[],[],[],[],[5]] [.k 62 (.slice OA nn OC),.k 63 (vp b),.k 64 (vp b),.k 65 (.pointer (some ⟨b,1,none⟩)),.c 66 (vi pos),.k 67 (.pointer (some ⟨bv,2,none⟩)),.c 68 (vi nd.lv),.k 69 (vi pg),.k 70 (.pointer (some ⟨bv,5,none⟩)),.c 71 (.slice EA n ec),.k 72 (vi ((hf:Int))),.c 73 (.pointer (some ((ad EA).add hf))),.c 74 (.string ((nd.es.getD hf en0).1)),.k 75 (.agg #[.bool false,.bool false,vi nd.lv,vi pg,.string ((nd.es.getD hf en0).1),.slice none 0 0,.slice none 0 0,.slice none 0 0]),.c 76 (.string (hdB nd.lv pg false ((nd.es.getD hf en0).1))),.k 77 (.agg #[vi pos,vi 0,.string (hdB nd.lv pg false ((nd.es.getD hf en0).1))]),.a 78,.a 79,.a 10] (fun ix f d X=>match ix with|0|1|2|3|4|5|6|7|8|9|10|11|12|13|14|15=>True|16=>f 78= .slice ((some ⟨(pb' (d 78)),0,none⟩)) 1 1/\X 6=eO 99 3 (.slice ((some ⟨(pb' (d 78)),0,none⟩)) 1 1) 1 (edC (pos,0,hdB nd.lv pg false ((nd.es.getD hf en0).1)))|17=>f 79= .slice (sA (d 79)) (nn+1) (sC (d 79))/\X 7=eO 99 3 (.slice (sA (d 79)) (nn+1) (sC (d 79))) (nn+1) ((O++[(pos,0,hdB nd.lv pg false ((nd.es.getD hf en0).1))]).flatMap edC)|18=>f 10= .slice (sA (d 79)) (nn+1) (sC (d 79))|_=>True) [0,1,2,3,4,6,7] [4,6,9,11,12,14,16,17,18] [(10,18,1,11),(51,0,18,69)] bE ?_ ?_ ?_
 exact fun ix _ _ _ _ _ _ hs hb hx h=>match ix,h with
 |16,h=>by dsimp only;rw[<-hs 78 rfl,<-hb 78 rfl,<-hx 6 rfl];exact h
 |17,h=>by dsimp only;rw[<-hs 79 rfl,<-hb 79 rfl,<-hx 7 rfl];exact h
 |18,h=>by dsimp only;rw[<-hs 10 rfl,<-hb 79 rfl];exact h
 |0,_|1,_|2,_|3,_|4,_|5,_|6,_|7,_|8,_|9,_|10,_|11,_|12,_|13,_|14,_|15,_|_+19,_=>trivial
 refine⟨?_,?_,?_,?_,?_,?_,?_,?_,?_,trivial⟩
 exact xs4 rfl id fun cx=>ae rfl (by kernel_rfl) (cx.an 3) ((cx.bi 0 rfl).cell 1)
 exact xs4 rfl id fun cx=>ae rfl (by kernel_rfl) (cx.an 5) ((cx.bi 1 rfl).cell 2)
 exact xs4 rfl id fun cx=>ae rfl (by kernel_rfl) (cx.an 8) ((cx.bi 1 rfl).cell 5)
 exact xs4 rfl id fun cx=>bo (e:=9) (m:=hf) rfl (by kernel_rfl) (by kernel_rfl) (cx.an 9) (cx.an 10) (by omega) (by omega) (hE _ cx.upd) (by rw[List.length_map];omega)
 exact xs4 rfl id fun cx=>ae rfl (by kernel_rfl) (cx.an 11) (At.cellAd (hE _ cx.upd) (kw (by omega)))
 exact xsc rfl id rfl rfl fun cx=>⟨_,mH nd.lv pg ((nd.es.getD hf en0).1) false false _ _ _ _ _ _ _ _ _ _ (by omega) (by omega) (by first|omega|decide),(br (cx.an 13))⟩
 refine svA fun g d W X cx=>?_
 have M3:g (.tmp 77)= .agg #[vi pos,vi 0,.string (hdB nd.lv pg false ((nd.es.getD hf en0).1))]:=(cx.an 15)
 exact bS (e:=99) (sz:=3) (xs:=[vi pos,vi 0,.string (hdB nd.lv pg false ((nd.es.getD hf en0).1))]) rfl (by simp[go_sem,M3]) rfl (by decide) rfl rfl (fun _ _ _ _ _=> .intro)
 refine svA fun g d W X cx=>?_
 obtain⟨i0,hi0,hz0,hz1,hz2⟩:=info_parts Try.infoEdit
 refine bL (n:=nn) (m:=1) (nm:=nn+1) (sz:=3) (xs:=O.flatMap edC) (news:=edC (pos,0,hdB nd.lv pg false ((nd.es.getD hf en0).1))) (xs':=(O++[(pos,0,hdB nd.lv pg false ((nd.es.getD hf en0).1))]).flatMap edC) rfl (ty:=34) rfl (by kernel_rfl) hi0 hz0 hz1 hz2 rfl (by decide) (cx.an 0) cx (cx.init 5 _ rfl) rfl (dTn (cx.an 16)).1 (by rfl) (At.of_ownN (cx.row (dTn (cx.an 16)).2 rfl)) (by simp[edC,tkC,Value.oneCell']) (by simp only[maxLen];omega) (by omega) rfl rfl rfl (by omega) (dw _ _) (fun f l X' hs hb hv hx=>?_)
 exact⟨hv,hx⟩
 exact sv rfl rfl rfl rfl rfl _ (fun _ _ _ h=>h) (fun d l h=>by rw[h 79 (by decide)]) fun g d W X cx=>aN rfl (dTn (cx.an 17)).1
 intro f d X I3 hD hZ fr af
 simp only[exq 6 ((dTn (hD 16 lq)).2),exq 7 ((dTn (hD 17 lq)).2)] at hZ
 simp only[ed 78 ((dTn (hD 16 lq)).1),ed 79 ((dTn (hD 17 lq)).1),ed 10 ((dTn (hD 18 lq)))] at af
 generalize pb' (d 78)=Jk,sA (d 79)=Jl,sC (d 79)=Jm at hZ af
 clear hD;subst af;clear f d X
 refine aa (wp_seq (wp_seq (sqr (sqp [.m 80 9,.m 12 80] ?_))))
 refine aa (wp_block ?_)
 refine aX (fun t_ mz az W=>∃j:Nat,∃nn:Nat,∃O:List EdT,∃OA:Option Addr,∃OC:Nat,j<=(n-hf)/\O=aE pg nd.lv nd.right nd.high (nd.es.drop hf)++[(pos,0,hdB nd.lv pg false (nd.es.getD hf en0).1)]++aA pos ((nd.es.drop hf).take j)/\O.length=nn/\nn<=2000+j/\mz=(n-hf)-j/\az=⟨(ovr (jv az) [(10,10,0,[.slice OA nn OC]),(1,12,0,[vi ((hf:Int)+(j:Int))]),(68,81,20,[])] t_).toArray,[]⟩/\St w [b] [eB b 102 #[vi root,vi pos,vi leaf,.slice ((some la)) ln lc,vi fro,vi to,.bool spl],eB bv 66 #[.bool true,.bool nd.dead,vi nd.lv,vi nd.right,.string nd.high,.slice EA n ec,.slice SA n sc,.slice KA n kc],eB qr 111 #[.string te,vi tl,vi tk],eB gV 39 #[.slice none 0 0,.bool false,vi 0],eO 5 1 (.slice BZ 1 1) 1 ([.int .u8 2]),eO 99 3 (.slice ((some ⟨Jk,0,none⟩)) 1 1) 1 (edC (pos,0,hdB nd.lv pg false ((nd.es.getD hf en0).1))),eO 99 3 (.slice OA nn OC) nn (O.flatMap edC)] W) ((n-hf)-0) ?_ ?_
 exact⟨0,nn+1,(O++[(pos,0,hdB nd.lv pg false ((nd.es.getD hf en0).1))]),Jl,Jm,Nat.zero_le _,by rw[hO,List.take_zero];exact(List.append_nil _).symm,by rw[List.length_append,hOl];rfl,by omega,rfl,(by kernel_rfl),hZ.pk [0,1,2,3,4,5,6]⟩
 rintro RB a27 B0 ⟨j,nn,O,OA,OC,hj,hO,hOl,hnn,rfl,hj_,cY⟩
 refine ovz hj_ fun Qi=>?_
 refine wp_seq (wp_seq (sqr (sqp [.m 81 12,.k 82 (.pointer (some ⟨bv,5,none⟩))] ?_)))
 refine al 1 cY ?_
 refine sqp [.k 84 (vi ((n:Int))),.k 85 (.bool (decide ((hf:Int)+(j:Int)<(n:Int))))] ?_
 refine aa (wds (fun jo rR=>?_) fun jo rR=>?_)
 refine wp_skip (aa (wp_seq (wp_block (aj [0,0,2,6,14,0,32,0,224,480,1022,2046,4095,8191] [[],[],[],[],[0],[],[1],[],[],[],[],[],[7,6]] [[],[],[],[],[],[],[],[],[],[],[],[7],[8]] [[],[],[],[],[],[],[],[],[],[],[],[],[6]] [.k 88 (.slice OA nn OC),.k 89 (vp b),.k 90 (vp b),.k 91 (.pointer (some ⟨b,1,none⟩)),.c 92 (vi pos),.k 93 (.pointer (some ⟨bv,6,none⟩)),.c 94 (.slice SA n sc),.k 95 (vi ((hf:Int)+(j:Int))),.c 96 (.pointer (some ((ad SA).add (hf+j)))),.c 97 (vi (((nd.es.getD (hf+j) en0).2.1:Int))),.k 98 (.agg #[vi pos,vi (((nd.es.getD (hf+j) en0).2.1:Int)),.string ByteArray.empty]),.a 99,.a 100,.a 10] (fun ix f d X=>match ix with|0|1|2|3|4|5|6|7|8|9|10=>True|11=>f 99= .slice ((some ⟨(pb' (d 99)),0,none⟩)) 1 1/\X 7=eO 99 3 (.slice ((some ⟨(pb' (d 99)),0,none⟩)) 1 1) 1 (edC (pos,((nd.es.getD (hf+j) en0).2.1:Int),ByteArray.empty))|12=>f 100= .slice (sA (d 100)) (nn+1) (sC (d 100))/\X 8=eO 99 3 (.slice (sA (d 100)) (nn+1) (sC (d 100))) (nn+1) ((O++[(pos,((nd.es.getD (hf+j) en0).2.1:Int),ByteArray.empty)]).flatMap edC)|13=>f 10= .slice (sA (d 100)) (nn+1) (sC (d 100))|_=>True) [0,1,2,3,4,5,7,8] [4,6,8,9,11,12,13] [(10,13,1,11),(77,0,13,90)] cY ?_ ?_ ?_))))
 exact fun ix _ _ _ _ _ _ hs hb hx h=>match ix,h with
 |11,h=>by dsimp only;rw[<-hs 99 rfl,<-hb 99 rfl,<-hx 7 rfl];exact h
 |12,h=>by dsimp only;rw[<-hs 100 rfl,<-hb 100 rfl,<-hx 8 rfl];exact h
 |13,h=>by dsimp only;rw[<-hs 10 rfl,<-hb 100 rfl];exact h
 |0,_|1,_|2,_|3,_|4,_|5,_|6,_|7,_|8,_|9,_|10,_|_+14,_=>trivial
 refine⟨?_,?_,?_,?_,?_,?_,?_,trivial⟩
 exact xs4 rfl id fun cx=>ae rfl (by kernel_rfl) (cx.an 3) ((cx.bi 0 rfl).cell 1)
 exact xs4 rfl id fun cx=>ae rfl (by kernel_rfl) (cx.an 5) ((cx.bi 1 rfl).cell 6)
 exact xs4 rfl id fun cx=>bo (e:=3) (m:=hf+j) rfl (by kernel_rfl) (by kernel_rfl) (cx.an 6) (cx.an 7) (by omega) (by omega) (hS _ cx.upd) (by rw[List.length_map];omega)
 exact xs4 rfl id fun cx=>ae rfl (by kernel_rfl) (cx.an 8) (At.cellAd (hS _ cx.upd) (Be (by omega)))
 refine svA fun g d W X cx=>?_
 have M4:g (.tmp 98)= .agg #[vi pos,vi (((nd.es.getD (hf+j) en0).2.1:Int)),.string ByteArray.empty]:=(cx.an 10)
 exact bS (e:=99) (sz:=3) (xs:=[vi pos,vi (((nd.es.getD (hf+j) en0).2.1:Int)),.string ByteArray.empty]) rfl (by simp[go_sem,M4]) rfl (by decide) rfl rfl (fun _ _ _ _ _=> .intro)
 refine svA fun g d W X cx=>?_
 obtain⟨i0,hi0,hz0,hz1,hz2⟩:=info_parts Try.infoEdit
 refine bL (n:=nn) (m:=1) (nm:=nn+1) (sz:=3) (xs:=O.flatMap edC) (news:=edC (pos,((nd.es.getD (hf+j) en0).2.1:Int),ByteArray.empty)) (xs':=(O++[(pos,((nd.es.getD (hf+j) en0).2.1:Int),ByteArray.empty)]).flatMap edC) rfl (ty:=34) rfl (by kernel_rfl) hi0 hz0 hz1 hz2 rfl (by decide) (cx.an 0) cx (cx.init 6 _ rfl) rfl (dTn (cx.an 11)).1 (by rfl) (At.of_ownN (cx.row (dTn (cx.an 11)).2 rfl)) (by simp[edC,tkC,Value.oneCell']) (by simp only[maxLen];omega) (by omega) rfl rfl rfl (by omega) (dw _ _) (fun f l X' hs hb hv hx=>?_)
 exact⟨hv,hx⟩
 exact sv rfl rfl rfl rfl rfl _ (fun _ _ _ h=>h) (fun d l h=>by rw[h 100 (by decide)]) fun g d W X cx=>aN rfl (dTn (cx.an 12)).1
 intro f d X BY hD f8 fr af
 simp only[exq 7 ((dTn (hD 11 lq)).2),exq 8 ((dTn (hD 12 lq)).2)] at f8
 simp only[ed 99 ((dTn (hD 11 lq)).1),ed 100 ((dTn (hD 12 lq)).1),ed 10 ((dTn (hD 13 lq)))] at af
 generalize pb' (d 99)=Ot,sA (d 100)=G3,sC (d 100)=G5 at f8 af
 clear hD;subst af;clear f d X
 refine aw (aa (sqr (sqp [.m 86 12,sI 87 (((hf:Int)+(j:Int))+1) (by omega),.m 12 87] ?_)))
 refine aa ?_
 rw[show ((hf:Int)+(j:Int)+1)=(hf:Int)+((j+1:Nat):Int) by omega]
 refine⟨(n-hf)-((j+1)),by omega,?_⟩
 exact⟨(j+1),(nn+1),(O++[(pos,((nd.es.getD (hf+j) en0).2.1:Int),ByteArray.empty)]),G3,G5,by omega,by rw[hO,vx (by omega),<-List.append_assoc],by rw[List.length_append,hOl];rfl,by omega,rfl,(by kernel_rfl),f8.pk [0,1,2,3,4,5,7]⟩
 refine wp_exit (am (am (bj (aa (wp_seq (aj [0,0,0,4,12,28,62,0,128,0,896,1920,0,4096,12288,0,65408,130944,262142,524287,1048575,2097151] [[],[],[],[],[],[0],[7],[],[1],[],[],[],[],[2],[],[],[],[],[9,8],[],[],[0]] [[],[7],[],[],[],[],[8],[],[],[],[],[],[],[],[],[],[],[9],[10],[],[],[11]] [[],[],[],[],[],[],[7],[],[],[],[],[],[],[],[],[],[],[],[8],[],[],[0]] [.k 101 (vp b),.a 102,.k 103 (vp b),.k 104 (vp b),.k 105 (.pointer (some ⟨b,3,none⟩)),.c 106 (.slice ((some la)) ln lc),.a 107,.k 108 (.pointer (some ⟨bv,5,none⟩)),.c 109 (.slice EA n ec),.k 110 (vi ((hf:Int))),.c 111 (.pointer (some ((ad EA).add hf))),.c 112 (.string ((nd.es.getD hf en0).1)),.k 113 (.pointer (some ⟨qr,1,none⟩)),.c 114 (vi tl),tI 115 (tl+1) (by omega),.k 116 (vi pg),.k 117 (.agg #[.string ((nd.es.getD hf en0).1),vi (tl+1),vi pg]),.a 118,.a 119,.k 120 (vp b),.k 121 (.pointer (some ⟨b,3,none⟩)),.n] (fun ix f d X=>match ix with|0=>True|1=>f 102= .slice ((some ⟨(pb' (d 102)),0,none⟩)) 0 0/\X 7=eO 111 3 (.slice ((some ⟨(pb' (d 102)),0,none⟩)) 0 0) 0 ([])|2|3|4|5=>True|6=>f 107= .slice (sA (d 107)) ln (sC (d 107))/\X 8=eO 111 3 (.slice (sA (d 107)) ln (sC (d 107))) ln (lf.flatMap tkC)|7|8|9|10|11|12|13|14|15|16=>True|17=>f 118= .slice ((some ⟨(pb' (d 118)),0,none⟩)) 1 1/\X 9=eO 111 3 (.slice ((some ⟨(pb' (d 118)),0,none⟩)) 1 1) 1 (tkC ((nd.es.getD hf en0).1,tl+1,pg))|18=>f 119= .slice (sA (d 119)) (ln+1) (sC (d 119))/\X 10=eO 111 3 (.slice (sA (d 119)) (ln+1) (sC (d 119))) (ln+1) ((lf++[((nd.es.getD hf en0).1,tl+1,pg)]).flatMap tkC)|19|20=>True|21=>X 11=eB b 102 #[vi root,vi pos,vi leaf,.slice (sA (d 119)) (ln+1) (sC (d 119)),vi fro,vi to,.bool spl]|_=>True) [1,2,3,4,5,6,9,10,11] [1,5,6,8,10,11,13,17,18,21] [(101,0,21,122)] cY ?_ ?_ ?_))))))
 exact fun ix _ _ _ _ _ _ hs hb hx h=>match ix,h with
 |1,h=>by dsimp only;rw[<-hs 102 rfl,<-hb 102 rfl,<-hx 7 rfl];exact h
 |6,h=>by dsimp only;rw[<-hs 107 rfl,<-hb 107 rfl,<-hx 8 rfl];exact h
 |17,h=>by dsimp only;rw[<-hs 118 rfl,<-hb 118 rfl,<-hx 9 rfl];exact h
 |18,h=>by dsimp only;rw[<-hs 119 rfl,<-hb 119 rfl,<-hx 10 rfl];exact h
 |21,h=>by dsimp only;rw[<-hb 119 rfl,<-hx 11 rfl];exact h
 |0,_|2,_|3,_|4,_|5,_|7,_|8,_|9,_|10,_|11,_|12,_|13,_|14,_|15,_|16,_|19,_|20,_|_+22,_=>trivial
 refine⟨?_,?_,?_,?_,?_,?_,?_,?_,?_,?_,trivial⟩
 refine svA fun g d W X cx=>?_
 exact bS (e:=111) (sz:=3) (xs:=[]) rfl (by simp[go_sem]) rfl (by decide) rfl rfl (fun _ _ _ _ _=> .intro)
 exact xs4 rfl id fun cx=>ae rfl (by kernel_rfl) (cx.an 4) ((cx.bi 0 rfl).cell 3)
 refine svA fun g d W X cx=>?_
 obtain⟨i0,hi0,hz0,hz1,hz2⟩:=info_parts Try.infoTk
 refine bL (n:=0) (m:=ln) (nm:=ln) (sz:=3) (xs:=[]) (news:=lf.flatMap tkC) (xs':=lf.flatMap tkC) rfl (ty:=100) rfl (by kernel_rfl) hi0 hz0 hz1 hz2 rfl (by decide) (dTn (cx.an 1)).1 cx (dTn (cx.an 1)).2 rfl (cx.an 5) (by rw[eH i6,hln]) (hL _ cx.upd) (F9 _) (by simp only[maxLen];omega) (by omega) rfl rfl rfl (by omega) (rfl) (fun f l X' hs hb hv hx=>?_)
 exact⟨hv,hx⟩
 exact xs4 rfl id fun cx=>ae rfl (by kernel_rfl) (cx.an 7) ((cx.bi 1 rfl).cell 5)
 exact xs4 rfl id fun cx=>bo (e:=9) (m:=hf) rfl (by kernel_rfl) (by kernel_rfl) (cx.an 8) (cx.an 9) (by omega) (by omega) (hE _ cx.upd) (by rw[List.length_map];omega)
 exact xs4 rfl id fun cx=>ae rfl (by kernel_rfl) (cx.an 10) (At.cellAd (hE _ cx.upd) (kw (by omega)))
 exact xs4 rfl id fun cx=>ae rfl (by kernel_rfl) (cx.an 12) ((cx.bi 2 rfl).cell 1)
 refine svA fun g d W X cx=>?_
 have Lp:g (.tmp 117)= .agg #[.string ((nd.es.getD hf en0).1),vi (tl+1),vi pg]:=(cx.an 16)
 exact bS (e:=111) (sz:=3) (xs:=[.string ((nd.es.getD hf en0).1),vi (tl+1),vi pg]) rfl (by simp[go_sem,Lp]) rfl (by decide) rfl rfl (fun _ _ _ _ _=> .intro)
 refine svA fun g d W X cx=>?_
 obtain⟨i0,hi0,hz0,hz1,hz2⟩:=info_parts Try.infoTk
 refine bL (n:=ln) (m:=1) (nm:=ln+1) (sz:=3) (xs:=lf.flatMap tkC) (news:=tkC ((nd.es.getD hf en0).1,tl+1,pg)) (xs':=(lf++[((nd.es.getD hf en0).1,tl+1,pg)]).flatMap tkC) rfl (ty:=100) rfl (by kernel_rfl) hi0 hz0 hz1 hz2 rfl (by decide) (dTn (cx.an 6)).1 cx (dTn (cx.an 6)).2 rfl (dTn (cx.an 17)).1 (by rfl) (At.of_ownN (cx.row (dTn (cx.an 17)).2 rfl)) (by simp[edC,tkC,Value.oneCell']) (by simp only[maxLen];omega) (by omega) rfl rfl rfl (by omega) (GF _ _) (fun f l X' hs hb hv hx=>?_)
 exact⟨hv,hx⟩
 refine svA fun g d W X cx=>?_
 exact ar (n:=1) rfl (cx.an 20) (dTn (cx.an 18)).1 (by kernel_rfl) (by kernel_rfl) (by kernel_rfl) cx (cx.init 0 _ rfl) rfl (nle rfl) (by kernel_rfl) rfl rfl rfl (fun f l X' hs hb hx=>by rw[hb 119];exact hx)
 intro f d X Jn hD ie fr af
 simp only[exq 9 ((dTn (hD 17 lq)).2),exq 10 ((dTn (hD 18 lq)).2),exq 11 ((dTn (hD 21 lq)))] at ie
 simp only[ed 102 ((dTn (hD 1 lq)).1),ed 107 ((dTn (hD 6 lq)).1),ed 118 ((dTn (hD 17 lq)).1),ed 119 ((dTn (hD 18 lq)).1)] at af
 generalize pb' (d 102)=NP,sA (d 107)=NQ,sC (d 107)=NR,pb' (d 118)=NS,sA (d 119)=ti,sC (d 119)=tj at ie af
 clear hD;subst af;clear f d X
 refine aa (wp_seq (wp_seq (sqr (sqp [.k 122 (.pointer (some ⟨qr,1,none⟩))] ?_))))
 refine al 1 ie ?_
 refine sqp [.k 124 (.bool (tl==0))] ?_
 refine aa (wbs (fun wY=>?_) fun wY=>?_)
 have Lq:=beq_iff_eq.1 wY
 refine wp_seq (sqr (sqp [.m 125 0,.m 126 0,.k 127 (vp b),.k 128 (.pointer (some ⟨b,1,none⟩))] ?_))
 refine al 8 ie ?_
 refine sqp [.k 130 (vp b),.k 131 (.pointer (some ⟨b,4,none⟩))] ?_
 refine aF (n:=1) 8 #[vi root,vi pos,vi leaf,.slice ti (ln+1) tj,vi pos,vi to,.bool spl] ie fun Jo dB=>?_
 refine aa (wp_seq (sqr (sqp [.m 132 0,.m 133 3,.k 134 (vp b),.k 135 (.pointer (some ⟨b,5,none⟩))] ?_)))
 refine aF (n:=1) 8 #[vi root,vi pos,vi leaf,.slice ti (ln+1) tj,vi pos,vi pg,.bool spl] dB fun EY eV=>?_
 refine aa (sqr (sqp [.m 136 0,.k 137 (vp b),.k 138 (.pointer (some ⟨b,6,none⟩))] ?_))
 refine aF (n:=1) 8 #[vi root,vi pos,vi leaf,.slice ti (ln+1) tj,vi pos,vi pg,.bool true] eV fun Jp jC=>?_
 refine aa (wp_seq (sqr (sqp [.m 139 10,.k 140 (.agg #[.slice OA nn OC,.bool true,vi 0])] ?_)))
 refine aF (n:=3) 2 #[.slice OA nn OC,.bool true,vi 0] jC fun RC uI=>?_
 refine aa (wp_ret ?_)
 refine bpr (.agg #[.slice OA nn OC,.bool true,vi 0]) (ba (n:=3) Try.results62 rfl (by kernel_rfl) (by kernel_rfl) (uI.blk 2 rfl) rfl) ?_
 have hfin:O=bR pos nd pg:=by rw[hO,pD (by omega),bR,dX,bN,hn,hhf];rfl
 rw[hfin] at uI
 have hfl:nn=(bR pos nd pg).length:=by rw[<-hfin,hOl]
 rw[hfl] at uI |-
 have htl0:tl=0:=by have h_:=wY;simpa using h_
 have hmd:bN nd=(nd.es.getD hf en0).1:=by rw[bN,hn,hhf];rfl
 have hll:(lf++[((nd.es.getD hf en0).1,tl+1,pg)]).length=ln+1:=by rw[List.length_append,hln];rfl
 rw[hmd,if_pos htl0,if_pos htl0,if_pos htl0]
 exact⟨_,_,_,_,rfl,by rw[hll];exact uI.pick [8,7,5] (by decide) rfl⟩
 have Lq:=beq_eq_false_iff_ne.1 wY
 refine wp_skip (aa (wp_seq (sqr (sqp [.m 139 10,.k 140 (.agg #[.slice OA nn OC,.bool true,vi 0])] ?_))))
 refine aF (n:=3) 2 #[.slice OA nn OC,.bool true,vi 0] ie fun Oj m9=>?_
 refine aa (wp_ret ?_)
 refine bpr (.agg #[.slice OA nn OC,.bool true,vi 0]) (ba (n:=3) Try.results62 rfl (by kernel_rfl) (by kernel_rfl) (m9.blk 2 rfl) rfl) ?_
 have hfin:O=bR pos nd pg:=by rw[hO,pD (by omega),bR,dX,bN,hn,hhf];rfl
 rw[hfin] at m9
 have hfl:nn=(bR pos nd pg).length:=by rw[<-hfin,hOl]
 rw[hfl] at m9 |-
 have htl0:¬tl=0:=by have h_:=wY;simpa using h_
 have hmd:bN nd=(nd.es.getD hf en0).1:=by rw[bN,hn,hhf];rfl
 have hll:(lf++[((nd.es.getD hf en0).1,tl+1,pg)]).length=ln+1:=by rw[List.length_append,hln];rfl
 rw[hmd,if_neg htl0,if_neg htl0,if_neg htl0]
 exact⟨_,_,_,_,rfl,by rw[hll];exact m9.pick [8,7,5] (by decide) rfl⟩
end
section
open Go.RowKit
theorem ee{k:Int}{its:List ByteArray}{n:NoD}(h:cf k its=some n):∃x l,its=x::l/\k=2/\iF x=true/\n=⟨aI x 0 1,(aI x 2 2:Int)-1,x.extract 4 x.size,aI x 1 1==1,srt (aI x 0 1) (bp 1 l),cm 1 l (l.length+1)⟩:=by
 unfold cf at h
 split at h
 cases h
 rename_i hk
 split at h
 cases h
 rename_i x l
 split at h
 cases h
 split at h
 cases h
 rename_i h1 h2
 exact⟨x,l,rfl,by simpa using hk,by simpa using h1,(Option.some.inj h).symm⟩
theorem vy:∀(l:List ByteArray) (i d:Nat),i<=d->cm i l d<=max d (i+l.length)
 | [],i,d,h=>by unfold cm;omega
 |x::l,i,d,h=>by
  unfold cm
  split
  rw[List.length_cons];omega
  have e:cm (i+1) l d<=max d (i+1+l.length):=by
   rcases Nat.lt_or_ge i d with h1|h1
   exact vy l (i+1) d h1
   have:i=d:=by omega
   have h2:∀(l:List ByteArray) (i d:Nat),cm i l d<=max d (i+l.length):=by
    intro l
    induction l with
    |nil=>intro i d;unfold cm;omega
    |cons y l ih=>
     intro i d;unfold cm
     split
     rw[List.length_cons];omega
     have:=ih (i+1) d;rw[List.length_cons];omega
   exact h2 l (i+1) d
  rw[List.length_cons];omega
structure NdOk (n:NoD):Prop where
 lv:0<=n.lv/\n.lv<=255
 rt: -1<=n.right/\n.right<=65535
 hi:n.high.size<=900000
 len:n.es.length<=100
 es:∀e∈n.es,e.1.size<=900000
 fr:n.free<=101
theorem e8{ps:List PgS}{x:Int}{n:NoD}(hok:OkS ps)(h:ao ps x=some n):NdOk n:=by
 rw[gH] at h
 split at h
 have hv:=qO hok x
 obtain⟨y,l,h1,h2,h3,rfl⟩:=ee h
 rw[h1] at hv
 have h4:4<=y.size:=by unfold iF at h3;simp only[Bool.and_eq_true,decide_eq_true_eq] at h3;exact h3.1.1
 have e0:=mB y 0 (by omega)
 have e2:=jm y 2 (by omega)
 have b0:=cM (bl y) 0
 have b2:=cM (bl y) 2
 have b3:=cM (bl y) (2+1)
 have hy:=hv.2 y (by simp)
 have hl:=hv.1
 rw[List.length_cons] at hl
 have hr:=pS 1 l
 refine⟨by dsimp only;omega,by dsimp only;omega,by dsimp only;rw[ByteArray.size_extract];omega,by dsimp only;rw[mi];omega,fun e he=>?_,?_⟩
 obtain⟨k,hk,rfl⟩:=List.getElem_of_mem he
 have h5:=pU (lv:=(aI y 0 1:Int)) (l:=bp 1 l) (M:=900000) (fun p hp=>hv.2 _ (List.mem_cons_of_mem _ (kI hp).1)) k
 rwa [List.getD_eq_getElem?_getD,List.getElem?_eq_getElem hk] at h5
 have:=vy l 1 (l.length+1) (by omega)
 show cm 1 l (l.length+1)<=101
 omega
 cases h
section
variable{ps:List PgS}{fresh root pos leaf fro to tl tk:Int}{spl:Bool}{te:ByteArray}{lf:List TaT}{nd:NoD}
theorem o8(h:ao ps pos=none):aU ps ⟨root,pos,leaf,(te,tl,tk)::lf,fro,to,spl⟩ fresh=(⟨root,pos,leaf,(te,tl,tk)::lf,0,0,false⟩,⟨[],false,22⟩):=by simp[aU,h]
theorem o5(h:ao ps pos=some nd)(hs:cL nd.dead nd.high te=true)(hr:nd.right<0):aU ps ⟨root,pos,leaf,(te,tl,tk)::lf,fro,to,spl⟩ fresh=(⟨root,pos,leaf,(te,tl,tk)::lf,0,0,false⟩,⟨[],false,11⟩):=by simp[aU,h,hs,hr]
theorem jc(h:ao ps pos=some nd)(hs:cL nd.dead nd.high te=true)(hr:¬nd.right<0):aU ps ⟨root,pos,leaf,(te,tl,tk)::lf,fro,to,spl⟩ fresh=(⟨root,nd.right,leaf,(te,tl,tk)::lf,0,0,false⟩,⟨[],false,0⟩):=by simp[aU,h,hs,hr]
theorem ma(h:ao ps pos=some nd)(hs:cL nd.dead nd.high te=false)(hl:tl<nd.lv):aU ps ⟨root,pos,leaf,(te,tl,tk)::lf,fro,to,spl⟩ fresh=(⟨root,cl te nd.es (-1),leaf,(te,tl,tk)::lf,0,0,false⟩,⟨[],false,0⟩):=by simp[aU,h,hs,hl]
theorem oT(h:ao ps pos=some nd)(hs:cL nd.dead nd.high te=false)(hl:¬tl<nd.lv)(hm:nd.lv<tl):aU ps ⟨root,pos,leaf,(te,tl,tk)::lf,fro,to,spl⟩ fresh=(⟨root,pos,leaf,(te,tl,tk)::lf,0,0,false⟩,⟨[],false,11⟩):=by simp[aU,h,hs,hl,hm]
theorem ik(h:ao ps pos=some nd)(hs:cL nd.dead nd.high te=false)(hl:¬tl<nd.lv)(hm:¬nd.lv<tl)(ht:di nd.es te=true):aU ps ⟨root,pos,leaf,(te,tl,tk)::lf,fro,to,spl⟩ fresh=(⟨root,root,if tl=0 then pos else leaf,lf,0,0,false⟩,⟨[],false,0⟩):=by simp[aU,h,hs,hl,hm,ht]
theorem ml(h:ao ps pos=some nd)(hs:cL nd.dead nd.high te=false)(hl:¬tl<nd.lv)(hm:¬nd.lv<tl)(ht:di nd.es te=false)(h8:nd.es.length<8):aU ps ⟨root,pos,leaf,(te,tl,tk)::lf,fro,to,spl⟩ fresh=(⟨root,root,if tl=0 then pos else leaf,lf,0,0,false⟩,⟨[(pos,(nd.free:Int),itB tl tk te)],false,0⟩):=by simp[aU,h,hs,hl,hm,ht,h8]
theorem s7(h:ao ps pos=some nd)(hs:cL nd.dead nd.high te=false)(hl:¬tl<nd.lv)(hm:¬nd.lv<tl)(ht:di nd.es te=false)(h8:¬nd.es.length<8)(hf:fresh<0):aU ps ⟨root,pos,leaf,(te,tl,tk)::lf,fro,to,spl⟩ fresh=(⟨root,pos,leaf,(te,tl,tk)::lf,0,0,false⟩,⟨[],false,23⟩):=by simp[aU,h,hs,hl,hm,ht,h8,hf]
theorem o7(h:ao ps pos=some nd)(hs:cL nd.dead nd.high te=false)(hl:¬tl<nd.lv)(hm:¬nd.lv<tl)(ht:di nd.es te=false)(h8:¬nd.es.length<8)(hf:¬fresh<0)(hr:pos=root):aU ps ⟨root,pos,leaf,(te,tl,tk)::lf,fro,to,spl⟩ fresh=(⟨root,fresh,leaf,(te,tl,tk)::lf,0,0,false⟩,⟨bT root nd fresh,true,0⟩):=by
 simp only[aU,h,hs,hl,hm,ht,h8,hf,if_false,Bool.false_eq_true,or_self,if_pos hr]
theorem qX(h:ao ps pos=some nd)(hs:cL nd.dead nd.high te=false)(hl:¬tl<nd.lv)(hm:¬nd.lv<tl)(ht:di nd.es te=false)(h8:¬nd.es.length<8)(hf:¬fresh<0)(hr:¬pos=root):aU ps ⟨root,pos,leaf,(te,tl,tk)::lf,fro,to,spl⟩ fresh=(⟨root,pos,leaf,((te,tl,tk)::lf)++[(bN nd,tl+1,fresh)],if tl=0 then pos else 0,if tl=0 then fresh else 0,if tl=0 then true else false⟩,⟨bR pos nd fresh,true,0⟩):=by
 simp only[aU,h,hs,hl,hm,ht,h8,hf,hr,if_false,Bool.false_eq_true,or_self]
 by_cases h0:tl=0<;>simp[h0]
end
theorem An{es:List EnD}{i:Nat}(x:ByteArray)(h:i<es.length):di (es.take (i+1)) x=(di (es.take i) x||((es.getD i en0).1.toList==x.toList)):=by
 rw[List.take_add_one,di,List.any_append,List.getD_eq_getElem?_getD,List.getElem?_eq_getElem h]
 simp[di]
theorem At.dropF{T:Type}{w:World}{A:Option Addr}{f:T->List Value}{sz:Nat}{ts:List T}(hf:∀t,(f t).length=sz)(h:At w A (ts.flatMap f))(l cap:Nat)(hc:ts.length<=cap):At w (if cap=l then A else A.map (·.add (l*sz))) ((ts.drop l).flatMap f):=by
 have hl:=eH hf
 by_cases e:cap=l
 rw[List.drop_of_length_le (by omega)];exact At.nil _ _
 rw[if_neg e]
 intro j u hj
 rcases Nat.lt_or_ge ts.length l with h1|h1
 rw[List.drop_of_length_le (by omega)] at hj;simp at hj
 have e2:ts.flatMap f=(ts.take l).flatMap f++(ts.drop l).flatMap f:=by rw[<-List.flatMap_append,List.take_append_drop]
 have e3:((ts.take l).flatMap f).length=l*sz:=by rw[hl,List.length_take,Nat.min_eq_left h1]
 have h2:(ts.flatMap f)[l*sz+j]? =some u:=by rw[e2,List.getElem?_append_right (by omega),e3,Nat.add_sub_cancel_left];exact hj
 obtain⟨ad,rfl,h3,h4⟩:=h _ _ h2
 exact⟨_,rfl,by rw[gk];exact h3,by rw[kJ];exact h4⟩
end
section
open Go.RowKit
def puC(p:PuT)(A:Option Addr)(c:Nat):Array Value:=#[.int .i64 p.root,.int .i64 p.pos,.int .i64 p.leaf,.slice A p.left.length c,.int .i64 p.fro,.int .i64 p.to,.bool p.spl]
def ePu(b:Nat)(p:PuT)(fp:List Nat):Ent:=⟨fp,fun W=>∃A c g,fp=b::g/\b∉g/\p.left.length<=c/\(∀ad,A=some ad->p.left≠[]->ad.block∈g)/\(∀k∈g,k<W.heap.size)/\Blk W b 102 (puC p A c)/\At W A (p.left.flatMap tkC)⟩
theorem v7{e:Ent}{b:Nat}{p:PuT}{fp:List Nat}(h:e=ePu b p fp):e=ePu b p e.fp:=by subst h;rfl
theorem dZ{T:Type}{W W':World}{A:Option Addr}{f:T->List Value}{l:List T}(h:At W A (l.flatMap f))(hk:∀ad,A=some ad->l≠[]->W'.heap[ad.block]? =W.heap[ad.block]?):At W' A (l.flatMap f):=fun j u hj=>by
 have hl:l≠[]:=by rintro rfl;simp at hj
 obtain⟨ad,rfl,h1,h2⟩:=h j u hj
 have h3:=hk ad rfl hl
 refine⟨ad,rfl,?_,?_⟩
 rcases Nat.lt_or_ge ad.block W'.heap.size with h4|h4
 exact h4
 rw[Array.getElem?_eq_none h4,Array.getElem?_eq_getElem h1] at h3;cases h3
 unfold World.cell? at h2 |-
 rw[gk] at h2 |-
 rw[h3];exact h2
theorem sV(b:Nat)(p:PuT)(fp:List Nat):(ePu b p fp).loc:=fun W W' hk h=>by
 obtain⟨A,c,g,rfl,h2,h3,h4,h5,h6,h7⟩:=h
 refine⟨A,c,g,rfl,h2,h3,h4,fun k hkg=>?_,(hk b (by simp[ePu])).trans h6,dZ h7 fun ad e hl=>hk _ (by simp[ePu,h4 ad e hl])⟩
 have h8:=hk k (by simp[ePu,hkg])
 rcases Nat.lt_or_ge k W'.heap.size with h9|h9
 exact h9
 rw[Array.getElem?_eq_none h9,Array.getElem?_eq_getElem (h5 k hkg)] at h8;cases h8
theorem gh{w W:World}{b:Nat}{g fp:List Nat}{p:PuT}{A:Option Addr}{c:Nat}{E:Ent}(h:St w [b] [eB b 102 (puC p A c),E] W)(hfp:fp=b::g)(hbg:b∉g)(hlt:∀k∈g,k<w.heap.size)(hc:p.left.length<=c)(hA:At W A (p.left.flatMap tkC))(hAg:∀ad,A=some ad->p.left≠[]->ad.block∈g):∃fp',St w fp [ePu b p fp',E] W:=by
 subst hfp
 have h1:=h.ok _ (List.mem_cons_self ..)
 have h2:=h.ok E (by simp)
 have ha:=List.pairwise_pair.1 h.apart
 have hB:Blk W b 102 (puC p A c):=h1.holds
 have hnew:∀k∈E.fp,w.heap.size<=k:=fun k hk=>by
  rcases(h2.own k hk).1 with h3|h3
  exact absurd hk (ha k (by simpa[eB] using h3))
  exact h3
 refine⟨b::g,h.upd.mono (fun k _ hk=>by simp at hk;simp[hk]),fun x hx=>?_,List.pairwise_pair.2 fun k hk hk'=>?_⟩
 simp only[List.mem_cons,List.not_mem_nil,or_false] at hx
 rcases hx with rfl|rfl
 refine⟨⟨A,c,g,rfl,hbg,hc,hAg,fun k hk=>Nat.lt_of_lt_of_le (hlt k hk) h.upd.size,hB,hA⟩,sV _ _ _,fun k hk=>⟨.inl hk,?_⟩⟩
 rcases List.mem_cons.1 hk with e|hk
 rw[e];exact hB.lt
 exact Nat.lt_of_lt_of_le (hlt k hk) h.upd.size
 exact⟨h2.holds,h2.loc,fun k hk=>⟨.inr (hnew k hk),(h2.own k hk).2⟩⟩
 have h4:=hnew k hk'
 rcases List.mem_cons.1 hk with e|hk
 exact ha k (by simp[eB,e]) hk'
 exact absurd (hlt k hk) (by omega)
theorem Ij{w W:World}{b:Nat}{g fp:List Nat}{p:PuT}{A:Option Addr}{c:Nat}{E:Ent}(h:St w [b] [eB b 102 (puC p A c),eO 111 3 (.slice A p.left.length c) p.left.length (p.left.flatMap tkC),E] W)(hfp:fp=b::g):∃fp',St w fp [ePu b p fp',E] W:=by
 subst hfp
 have h1:=h.ok (eB b 102 (puC p A c)) (by simp)
 have h3:=h.ok (eO 111 3 (.slice A p.left.length c) p.left.length (p.left.flatMap tkC)) (by simp)
 have h2:=h.ok E (by simp)
 have hp:=h.apart
 rw[List.pairwise_cons,List.pairwise_pair] at hp
 have hB:Blk W b 102 (puC p A c):=h1.holds
 have hO:W.ownsRow 0 111 3 (.slice A p.left.length c) p.left.length (p.left.flatMap tkC):=h3.holds
 have hAb:∀k,k∈(Value.slice A p.left.length c).ownBlock.toList->w.heap.size<=k/\k<W.heap.size/\k≠b/\k∉E.fp:=fun k hk=>by
  have h4:=h3.own k hk
  have hne:k≠b:=fun e=>hp.1 (eO 111 3 (.slice A p.left.length c) p.left.length (p.left.flatMap tkC)) (by simp) b (by simp[eB]) (e ▸ hk)
  exact⟨h4.1.resolve_left (by simpa using hne),h4.2,hne,hp.2 k hk⟩
 have hnew:∀k∈E.fp,w.heap.size<=k:=fun k hk=>by
  rcases(h2.own k hk).1 with h4|h4
  exact absurd hk (hp.1 E (by simp) k (by simpa[eB] using h4))
  exact h4
 refine⟨b::(Value.slice A p.left.length c).ownBlock.toList,h.upd.mono (fun k _ hk=>by simp at hk;simp[hk]),fun x hx=>?_,List.pairwise_pair.2 fun k hk hk'=>?_⟩
 simp only[List.mem_cons,List.not_mem_nil,or_false] at hx
 rcases hx with rfl|rfl
 refine⟨⟨A,c,_,rfl,fun hm=>(hAb b hm).2.2.1 rfl,d4 hO,fun ad e hl=>?_,fun k hk=>(hAb k hk).2.1,hB,At.of_ownN hO⟩,sV _ _ _,fun k hk=>?_⟩
 subst e
 rcases hO.2 with ⟨hv,hm⟩|⟨g',cap,cur,hv,_⟩
 injection hv with h5;cases h5
 injection hv with h5;injection h5 with h5;subst h5;simp[Value.ownBlock]
 rcases List.mem_cons.1 hk with e|hk
 rw[e];exact⟨.inl (List.mem_cons_self ..),hB.lt⟩
 exact⟨.inr (hAb k hk).1,(hAb k hk).2.1⟩
 exact⟨h2.holds,h2.loc,fun k hk=>⟨.inr (hnew k hk),(h2.own k hk).2⟩⟩
 rcases List.mem_cons.1 hk with e|hk
 exact hp.1 E (by simp) k (by simp[eB,e]) hk'
 exact(hAb k hk).2.2.2 hk'
def BkU(S:List Nat)(w:World)(bk:Nat)(ps:List PgS):Prop:=∃LA lc Ps,Ps.map abT=ps/\∀W,Upd S w W->BkO W bk LA lc ps.length Ps
theorem BkU.of{S:List Nat}{w:World}{bk:Nat}{ps:List PgS}{fb:List Nat}(h:(eBk bk ps fb).holds w)(hS:∀k∈fb,k<w.heap.size/\k∉S):BkU S w bk ps:=by
 obtain⟨LA,lc,Ps,Qs,h1,h2,h3,h4,h5⟩:=h
 refine⟨LA,lc,Ps,h1,fun W hW=>?_⟩
 have h6:∀e∈bkL bk LA lc ps.length Ps Qs,e.holds W:=fun e he=>(h5 e he).2 w W (fun k hk=>hW.block k (hS k (by rw[h3];exact List.mem_flatMap.2 ⟨e,he,hk⟩)).1 (hS k (by rw[h3];exact List.mem_flatMap.2 ⟨e,he,hk⟩)).2) (h5 e he).1
 refine⟨h6 (eB bk 64 #[.slice LA ps.length lc]) (List.mem_cons_self ..),?_,by rw[<-h1,List.length_map],fun p hp=>vk (h6 (ePt Qs) (by simp[bkL])) (h2 p hp)⟩
 exact At.of_ownN (h6 (eO 51 3 (.slice LA ps.length lc) ps.length (Ps.flatMap ptC)) (by simp[bkL]))
theorem St.monoB{S T:List Nat}{w W:World}{L:List Ent}(h:St w S L W)(hs:∀k∈S,k∈T):St w T L W:=
 ⟨h.upd.mono (fun k _ hk=>hs k hk),fun e he=>⟨(h.ok e he).holds,(h.ok e he).loc,fun k hk=>⟨((h.ok e he).own k hk).1.imp (hs k) id,((h.ok e he).own k hk).2⟩⟩,h.apart⟩
theorem GH(b:Nat)(root pos leaf:Int)(la:Addr)(ln lc:Nat)(nd:NoD)(EA SA KA:Option Addr)(ec sc kc:Nat)(pg:Int)(te:ByteArray)(tl tk:Int)(lf:List TaT)(w:World)(hb:Blk w b 102 #[.int .i64 root,.int .i64 pos,.int .i64 leaf,.slice (some la) ln lc,.int .i64 0,.int .i64 0,.bool false])
  (hE:∀W,Upd [b] w W->At W EA (nd.es.map stv)) (hS:∀W,Upd [b] w W->At W SA (nd.es.map slv)) (hK:∀W,Upd [b] w W->At W KA (nd.es.map kdv)) (hez:∀e∈nd.es,e.1.size<=1000000) (hnb:nd.es.length<=1000) (hlv:0<=nd.lv/\nd.lv<=255) (hpg:0<=pg/\pg<=1000000) (hL:∀W,Upd [b] w W->At W (some la) (lf.flatMap tkC)) (hln:lf.length=ln) (hlnb:ln<=10000) (htl:0<=tl/\tl<=100000) (hn1:1<=nd.es.length) (hrt: -1<=nd.right/\nd.right<=100000) (hhi:nd.high.size<=1000000):
  Calls Try.prog 62 #[.pointer (some ⟨b,0,none⟩),.agg #[.bool true,.bool nd.dead,.int .i64 nd.lv,.int .i64 nd.right,.string nd.high,.slice EA nd.es.length ec,.slice SA nd.es.length sc,.slice KA nd.es.length kc],.agg #[.string te,.int .i64 tl,.int .i64 tk],.int .i64 pg] w (fun e w'=>∃A c,e= .returned (.agg #[.slice A (bR pos nd pg).length c,.bool true,.int .i64 0])/\∃fp',St w [b] [ePu b ⟨root,pos,leaf,lf++[(bN nd,tl+1,pg)],if tl=0 then pos else 0,if tl=0 then pg else 0,if tl=0 then true else false⟩ fp',eO 99 3 (.slice A (bR pos nd pg).length c) (bR pos nd pg).length ((bR pos nd pg).flatMap edC)] w'):=by
 subst hln
 refine(Cx b root pos leaf 0 0 false la _ lc nd EA SA KA ec sc kc _ pg te tl tk lf w hb hE hS hK rfl hez hnb hlv hpg hL rfl hlnb htl hn1 hrt hhi).mono ?_
 rintro e w' ⟨A,c,LA,lc',rfl,hs⟩
 refine⟨A,c,rfl,Ij (p:=⟨root,pos,leaf,lf++[(bN nd,tl+1,pg)],if tl=0 then pos else 0,if tl=0 then pg else 0,if tl=0 then true else false⟩) (A:=LA) (c:=lc') ?_ rfl (g:=[])⟩
 have e1:lf.length+1=(lf++[(bN nd,tl+1,pg)]).length:=by rw[List.length_append];rfl
 rw[e1] at hs
 exact hs
theorem Hm{W:World}{bk lc n:Nat}{LA:Option Addr}{Ps:List PgT}(h:BkO W bk LA lc n Ps)(x:Int):At W (pgR Ps x).A ((pgV (Ps.map abT) x).2.2.map Value.string):=by
 by_cases hx:0<=x/\x<Ps.length
 obtain⟨N,rfl⟩:∃N:Nat,x=(N:Int):=⟨x.toNat,by omega⟩
 obtain⟨e1,e3⟩:=y2 (Ps:=Ps) (N:=N) (by omega) rfl
 rw[e1,e3]
 exact h.its _ (ct (by omega)).2
 have e1:pgV (Ps.map abT) x=aP:=by rw[pgV,if_neg (by rw[List.length_map];exact hx)]
 rw[e1];exact At.nil _ _
theorem tT{ps:List PgS}{x:Int}{n:NoD}(h:ao ps x=some n):ju (pgV ps x).2.2=(n.free:Int):=by
 rw[gH] at h
 split at h
 obtain⟨y,l,h1,h2,h3,rfl⟩:=ee h
 rw[h1,ju,j5]
 show ((cm 1 l (max 1 (l.length+1)):Nat):Int)=(cm 1 l (l.length+1):Nat)
 rw[show max 1 (l.length+1)=l.length+1 by omega]
 cases h
theorem mR{lc:Nat}{la ad:Addr}(h:(if lc=1 then some la else (some la).map (·.add (1*3)))=some ad):ad.block=la.block:=by
 split at h
 rw[<-Option.some.inj h]
 have h2:=Option.some.inj h;rw[<-h2,gk]
def qI(b:Nat)(r:PuT×GoT)(fp:List Nat)(w:World)(e:Ending)(w':World):Prop:=∃A c,e= .returned (.agg #[.slice A r.2.eds.length c,.bool r.2.used,.int .i64 r.2.err])/\∃fp',St w fp [ePu b r.1 fp',eO 99 3 (.slice A r.2.eds.length c) r.2.eds.length (r.2.eds.flatMap edC)] w'
structure NdQ (n:NoD):Prop where
 lv:0<=n.lv/\n.lv<=255
 es6:∀e∈n.es,e.1.size<=1000000
theorem Fp(b bk:Nat)(root pos leaf fro to:Int)(spl:Bool)(la:Addr)(ln lc:Nat)(te:ByteArray)(tl tk:Int)(lf:List TaT)(ps:List PgS)(fresh:Int)(fp g:List Nat)(w:World)(hb:Blk w b 102 #[.int .i64 root,.int .i64 pos,.int .i64 leaf,.slice ((some la)) ln lc,.int .i64 fro,.int .i64 to,.bool spl])(hL:∀W,Upd [b] w W->At W (some la) (((te,tl,tk)::lf).flatMap tkC))(hln:((te,tl,tk)::lf).length=ln)(hlc:((te,tl,tk)::lf).length<=lc)(hlnb:ln<=10000)(hB:BkU [b] w bk ps)(hok:OkS ps)(hfp:fp=b::g)(hbg:b∉g)(hlt:∀k∈g,k<w.heap.size)(hla:la.block∈g)(hte:te.size<=900000)(htl:0<=tl/\tl<=90000)(af: -1<=fresh/\fresh<=1000000):
  Calls Try.prog 17 #[.pointer (some ⟨b,0,none⟩),.pointer (some ⟨bk,0,none⟩),.int .i64 fresh] w (qI b (aU ps ⟨root,pos,leaf,(te,tl,tk)::lf,fro,to,spl⟩ fresh) fp w):=by
 have st0:=St.lend (E:=eB b 102 #[.int .i64 root,.int .i64 pos,.int .i64 leaf,.slice ((some la)) ln lc,.int .i64 fro,.int .i64 to,.bool spl]) hb (dH _ _ _) (fun k hk=>by simp[eB] at hk;subst hk;exact hb.lt)
 obtain⟨LA,lcc,Ps,hps,hBO⟩:=hB
 have hvk:=qO hok pos
 have hln1:1<=ln:=by rw[<-hln];simp
 have hlc1:lf.length+1<=lc:=hlc
 have hln2:lf.length+1=ln:=hln
 go_enter Try.func17,Try.ntmps17
 have aq:=st0
 refine wp_seq (sqr (bW #[.slice none 0 0,.bool false,vi 0] aq fun fX W1 aC=>?_))
 refine aa (wp_seq (sqr (sqp [.m 15 0,.k 16 (vp b),.k 17 (.pointer (some ⟨b,6,none⟩))] ?_)))
 refine aF (n:=1) 0 #[vi root,vi pos,vi leaf,.slice ((some la)) ln lc,vi fro,vi to,.bool false] aC fun W5 bO=>?_
 refine aa (wp_seq (sqr (sqp [.m 18 0,.k 19 (vp b),.k 20 (.pointer (some ⟨b,4,none⟩))] ?_)))
 refine aF (n:=1) 0 #[vi root,vi pos,vi leaf,.slice ((some la)) ln lc,vi 0,vi to,.bool false] bO fun W9 bh=>?_
 refine aa (wp_seq (sqr (sqp [.m 21 0,.k 22 (vp b),.k 23 (.pointer (some ⟨b,5,none⟩))] ?_)))
 refine aF (n:=1) 0 #[vi root,vi pos,vi leaf,.slice ((some la)) ln lc,vi 0,vi 0,.bool false] bh fun kO bE=>?_
 refine aa (wp_seq (wp_seq (sqr (sqp [.m 24 0,.k 25 (vp b),.k 26 (.pointer (some ⟨b,3,none⟩))] ?_))))
 refine al 0 bE ?_
 have hd20:((ln:Int)==0)=false:=(by rw[beq_eq_false_iff_ne];rw[List.length_cons] at hln;omega)
 refine sqp [.k 28 (vi ((ln:Int))),.e 29 (.bool ((ln:Int)==0)) (.bool false) (congrArg Value.bool hd20)] ?_
 refine aa (wcf rfl (wp_skip (aa (wp_seq (sqr (sqp [.m 31 0,.k 32 (vp b),.k 33 (.pointer (some ⟨b,3,none⟩))] ?_))))))
 refine al 0 bE ?_
 refine sql (.pointer (some ((ad ((some la))).add (0*3)))) bE (fun cx=>aD (e:=111) (m:=0) (sz:=3) rfl (by kernel_rfl) (by kernel_rfl) (cx.ou 34) (cx.co _) (by omega) (by omega) (hL _ cx.upd) (be (sz:=3) i6 (by decide) (by omega))) ?_
 refine sql (.agg #[.string te,vi tl,vi tk]) bE (fun cx=>aY (f:=tkC) (m:=0) (sz:=3) (off:=0) (n:=3) rfl (by kernel_rfl) (by kernel_rfl) (cx.ou 35) rfl i6 (hL _ cx.upd) rfl (fun k hk=>match k,hk with|0,_=>rfl|1,_=>rfl|2,_=>rfl|k+3,hk=>absurd hk (by omega))) ?_
 refine bW #[.string ByteArray.empty,vi 0,vi 0] bE fun iT B0 cY=>?_
 refine aF (n:=3) 2 #[.string te,vi tl,vi tk] cY fun I4 iR=>?_
 refine aa (wp_seq ?_)
 rcases hnd:ao ps pos with _|nd
 refine sqr (sqp [.m 37 1,.m 38 0,.k 39 (vp b),.k 40 (.pointer (some ⟨b,1,none⟩))] ?_)
 refine al 0 iR ?_
 refine sqk (.agg #[.bool false,.bool false,vi 0,vi 0,.string ((⟨#[]⟩:ByteArray)),.slice none 0 0,.slice none 0 0,.slice none 0 0]) iR (fun cx=>⟨_,EE hnd (yo bk ps pos _ ⟨LA,lcc,Ps,hps,hBO _ cx.upd⟩ hok),(aK (cx.ou 37) (cx.ou 41))⟩) fun BY f8=>?_
 refine bW #[.bool false,.bool false,vi 0,vi 0,.string ByteArray.empty,.slice none 0 0,.slice none 0 0,.slice none 0 0] f8 fun Lr RD Ls=>?_
 refine aF (n:=8) 3 #[.bool false,.bool false,vi 0,vi 0,.string ((⟨#[]⟩:ByteArray)),.slice none 0 0,.slice none 0 0,.slice none 0 0] Ls fun I5 fg=>?_
 refine aa (wp_seq (wp_seq (sqr (sqp [.k 43 (vp Lr)] ?_))))
 refine al 3 fg ?_
 refine sqp [.k 45 (.bool true)] ?_
 refine aa (wct rfl (wp_seq (sqr (sqp [.k 46 (.agg #[.slice none 0 0,.bool false,vi 22])] ?_))))
 refine aF (n:=3) 1 #[.slice none 0 0,.bool false,vi 22] fg fun Ma fe=>?_
 refine aa (wp_ret (ai ?_))
 refine bpr (.agg #[.slice none 0 0,.bool false,vi 22]) (ba (n:=3) Try.results17 rfl (by kernel_rfl) (by kernel_rfl) (fe.blk 1 rfl) rfl) ?_
 rw[o8 hnd]
 have hn42:=bM fe 99 3
 simp only[List.cons_append,List.nil_append] at hn42
 have hup_:=hn42.upd
 have hpk_:=hn42.pick [0,4] (by decide) rfl
 subst hln
 exact⟨_,_,rfl,gh hpk_ hfp hbg hlt hlc (hL _ hup_) (fun ad e _=>by rw[<-Option.some.inj e];exact hla)⟩
 ·have hN0:=e8 hok hnd
  have hN:NdQ nd:=⟨hN0.lv,fun e he=>Nat.le_trans (hN0.es e he) (by decide)⟩
  have hN1:=hN0.len
  have hN2:=hN0.rt
  have hN3:=hN0.hi
  have hN4:=hN0.lv
  have hN5:=hN0.fr
  have hN7:=hN0.es
  refine aj [0,0,2,6,14,31,0,127] [[],[],[],[],[0],[],[],[6]] [[],[],[],[],[],[3,4,5],[6],[7]] [[],[],[],[],[],[],[],[6]] [.k 37 (vp bk),.k 38 (vp b),.k 39 (vp b),.k 40 (.pointer (some ⟨b,1,none⟩)),.c 41 (vi pos),.a 42,.a 8,.n] (fun ix j d X=>match ix with|0|1|2|3|4=>True|5=>j 42= .agg #[.bool true,.bool nd.dead,vi nd.lv,vi nd.right,.string nd.high,.slice (sA (tg (d 42) 5)) nd.es.length (sC (tg (d 42) 5)),.slice (sA (tg (d 42) 6)) nd.es.length (sC (tg (d 42) 6)),.slice (sA (tg (d 42) 7)) nd.es.length (sC (tg (d 42) 7))]/\X 3=eO 9 1 (.slice (sA (tg (d 42) 5)) nd.es.length (sC (tg (d 42) 5))) nd.es.length (nd.es.map stv)/\X 4=eO 3 1 (.slice (sA (tg (d 42) 6)) nd.es.length (sC (tg (d 42) 6))) nd.es.length (nd.es.map slv)/\X 5=eO 3 1 (.slice (sA (tg (d 42) 7)) nd.es.length (sC (tg (d 42) 7))) nd.es.length (nd.es.map kdv)|6=>j 8=vp (pb (d 8))/\X 6=eB (pb (d 8)) 66 #[.bool false,.bool false,vi 0,vi 0,.string ByteArray.empty,.slice none 0 0,.slice none 0 0,.slice none 0 0]|7=>X 7=eB (pb (d 8)) 66 #[.bool true,.bool nd.dead,vi nd.lv,vi nd.right,.string nd.high,.slice (sA (tg (d 42) 5)) nd.es.length (sC (tg (d 42) 5)),.slice (sA (tg (d 42) 6)) nd.es.length (sC (tg (d 42) 6)),.slice (sA (tg (d 42) 7)) nd.es.length (sC (tg (d 42) 7))]|_=>True) [0,1,2,3,4,5,7] [4,5,6,7] [(8,6,1,9),(28,0,6,34)] iR ?_ ?_ ?_
  exact fun ix _ _ _ _ _ _ hs hb hx h=>match ix,h with
  |5,h=>by dsimp only;rw[<-hs 42 rfl,<-hb 42 rfl,<-hx 3 rfl,<-hx 4 rfl,<-hx 5 rfl];exact h
  |6,h=>by dsimp only;rw[<-hs 8 rfl,<-hb 8 rfl,<-hx 6 rfl];exact h
  |7,h=>by dsimp only;rw[<-hb 8 rfl,<-hb 42 rfl,<-hx 7 rfl];exact h
  |0,_|1,_|2,_|3,_|4,_|_+8,_=>trivial
  refine⟨?_,?_,?_,?_,trivial⟩
  exact xs4 rfl id fun cx=>ae rfl (by kernel_rfl) (cx.an 3) ((cx.bi 0 rfl).cell 1)
  refine svA fun o d W X cx=>?_
  refine ax.call (av (args:=#[vp bk,vi pos]) rfl cx.sees rfl (by kernel_rfl) (aK (cx.an 0) (cx.an 4))) ?_
  refine(Ak hnd (yo bk ps pos _ ⟨LA,lcc,Ps,hps,hBO _ cx.upd⟩ hok)).mono ?_
  rintro e W1 ⟨EA4,ec4,SA4,sc4,KA4,kc4,rfl,aR⟩
  refine⟨_,rfl,dy [eO 9 1 (.slice EA4 nd.es.length ec4) nd.es.length (nd.es.map stv),eO 3 1 (.slice SA4 nd.es.length sc4) nd.es.length (nd.es.map slv),eO 3 1 (.slice KA4 nd.es.length kc4) nd.es.length (nd.es.map kdv)] rfl rfl aR (fun j p X' hs hb hv hN=>?_)⟩
  have aZ:=(hv 42 rfl).1;have aJ:=(hv 42 rfl).2
  exact⟨aZ.trans (by rw[aJ];rfl),(by rw[aJ];exact(List.cons.inj hN).1),(by rw[aJ];exact(List.cons.inj (List.cons.inj hN).2).1),(by rw[aJ];exact(List.cons.inj (List.cons.inj (List.cons.inj hN).2).2).1)⟩
  refine svA fun o d W X cx=>?_
  exact bx (cs:=#[.bool false,.bool false,vi 0,vi 0,.string ByteArray.empty,.slice none 0 0,.slice none 0 0,.slice none 0 0]) rfl (by kernel_rfl) rfl rfl (fun _ _ _ _ _=> .intro)
  refine svA fun o d W X cx=>?_
  exact ar (n:=8) rfl (dTn (cx.an 6)).1 (dTn (cx.an 5)).1 (by kernel_rfl) (by kernel_rfl) (by kernel_rfl) cx (dTn (cx.an 6)).2 rfl (nle rfl) (by kernel_rfl) rfl rfl rfl (fun j p X' hs hb hx=>by rw[hb 8,hb 42];exact hx)
  intro j d X Jq hD fi fr af
  simp only[exq 3 ((dTn (hD 5 lq)).2.1),exq 4 ((dTn (hD 5 lq)).2.2.1),exq 5 ((dTn (hD 5 lq)).2.2.2),exq 7 ((dTn (hD 7 lq)))] at fi
  simp only[ed 42 ((dTn (hD 5 lq)).1),ed 8 ((dTn (hD 6 lq)).1)] at af
  generalize sA (tg (d 42) 5)=EA42_43,sC (tg (d 42) 5)=cEA42_43,sA (tg (d 42) 6)=SA42_43,sC (tg (d 42) 6)=cSA42_43,sA (tg (d 42) 7)=KA42_43,sC (tg (d 42) 7)=cKA42_43,pb (d 8)=kf at fi af
  clear hD;subst af;clear j d X
  refine aa (wp_seq (wp_seq (sqr (sqp [.k 43 (vp kf)] ?_))))
  refine al 6 fi ?_
  refine sqp [.k 45 (.bool false)] ?_
  refine aa (wcf rfl (wp_skip (aa (wp_seq (sqr ?_)))))
  refine d9 6 8 fi ?_
  refine sqp [.k 48 (vp iT)] ?_
  refine al 2 fi ?_
  refine sqk (.bool (cL nd.dead nd.high te)) fi (fun cx=>⟨_,y6 nd.lv nd.right nd.high true nd.dead _ _ _ _ _ _ _ _ _ te _ (by omega) (by omega),(aK (cx.ou 47) (cx.ou 49))⟩) fun Jo dB=>?_
  refine sqp [.m 9 50] ?_
  refine aa (wp_seq (wp_seq (sqr (sqp [.m 51 9] ?_))))
  refine aa (wbs (fun fY=>?_) fun fY=>?_)
  refine wp_seq (wp_seq (sqr (sqp [.k 52 (.pointer (some ⟨kf,3,none⟩))] ?_)))
  refine al 6 dB ?_
  refine sqp [.k 54 (.bool (decide (nd.right<0)))] ?_
  refine aa (wds (fun M5 Lu=>?_) fun M5 Lu=>?_)
  refine wp_seq (sqr (sqp [.k 55 (.agg #[.slice none 0 0,.bool false,vi 11])] ?_))
  refine aF (n:=3) 1 #[.slice none 0 0,.bool false,vi 11] dB fun Jp jC=>?_
  refine aa (wp_ret (ai (ai ?_)))
  refine bpr (.agg #[.slice none 0 0,.bool false,vi 11]) (ba (n:=3) Try.results17 rfl (by kernel_rfl) (by kernel_rfl) (jC.blk 1 rfl) rfl) ?_
  rw[o5 hnd fY (by omega)]
  have hn60:=bM jC 99 3
  simp only[List.cons_append,List.nil_append] at hn60
  have hup_:=hn60.upd
  have hpk_:=hn60.pick [0,7] (by decide) rfl
  subst hln
  exact⟨_,_,rfl,gh hpk_ hfp hbg hlt hlc (hL _ hup_) (fun ad e _=>by rw[<-Option.some.inj e];exact hla)⟩
  refine wp_skip (aa (wp_seq (sqr (sqp [.m 56 0,.k 57 (.pointer (some ⟨kf,3,none⟩))] ?_))))
  refine al 6 dB ?_
  refine sqp [.k 59 (vp b),.k 60 (.pointer (some ⟨b,1,none⟩))] ?_
  refine aF (n:=1) 0 #[vi root,vi nd.right,vi leaf,.slice ((some la)) ln lc,vi 0,vi 0,.bool false] dB fun Md ly=>?_
  refine aa (wp_seq (sqr (sqp [.k 61 (.agg #[.slice none 0 0,.bool false,vi 0])] ?_)))
  refine aF (n:=3) 1 #[.slice none 0 0,.bool false,vi 0] ly fun Ou pt=>?_
  refine aa (wp_ret (ai ?_))
  refine bpr (.agg #[.slice none 0 0,.bool false,vi 0]) (ba (n:=3) Try.results17 rfl (by kernel_rfl) (by kernel_rfl) (pt.blk 1 rfl) rfl) ?_
  rw[jc hnd fY (by omega)]
  have hn69:=bM pt 99 3
  simp only[List.cons_append,List.nil_append] at hn69
  have hup_:=hn69.upd
  have hpk_:=hn69.pick [0,7] (by decide) rfl
  subst hln
  exact⟨_,_,rfl,gh hpk_ hfp hbg hlt hlc (hL _ hup_) (fun ad e _=>by rw[<-Option.some.inj e];exact hla)⟩
  refine wp_skip (aa (wp_seq (wp_seq (sqr (sqp [.k 62 (.pointer (some ⟨kf,2,none⟩))] ?_)))))
  refine al 6 dB ?_
  refine sqp [.k 64 (.pointer (some ⟨iT,1,none⟩))] ?_
  refine al 2 dB ?_
  refine sqp [.k 66 (.bool (decide (tl<nd.lv)))] ?_
  refine aa (wds (fun M6 Lv=>?_) fun M6 Lv=>?_)
  refine wp_seq (sqr (sqp [.m 67 0] ?_))
  refine d9 6 8 dB ?_
  refine sqp [.k 69 (vp iT)] ?_
  refine al 2 dB ?_
  refine sqk (vi (cl te nd.es (-1))) dB (fun cx=>⟨_,AM _ _ _ _ _ _ _ _ _ _ _ _ nd.es.length _ nd.es _ (At.of_own (cx.ri 3 rfl)) (At.of_own (cx.ri 5 rfl)) rfl hN.es6 (by omega) (by omega),(aK (cx.ou 68) (cx.ou 70))⟩) fun BP dY=>?_
  refine sqp [.k 72 (vp b),.k 73 (.pointer (some ⟨b,1,none⟩))] ?_
  refine aF (n:=1) 0 #[vi root,vi (cl te nd.es (-1)),vi leaf,.slice ((some la)) ln lc,vi 0,vi 0,.bool false] dY fun RE Lw=>?_
  refine aa (wp_seq (sqr (sqp [.k 74 (.agg #[.slice none 0 0,.bool false,vi 0])] ?_)))
  refine aF (n:=3) 1 #[.slice none 0 0,.bool false,vi 0] Lw fun RF EZ=>?_
  refine aa (wp_ret (ai ?_))
  refine bpr (.agg #[.slice none 0 0,.bool false,vi 0]) (ba (n:=3) Try.results17 rfl (by kernel_rfl) (by kernel_rfl) (EZ.blk 1 rfl) rfl) ?_
  rw[ma hnd fY (by omega)]
  have hn86:=bM EZ 99 3
  simp only[List.cons_append,List.nil_append] at hn86
  have hup_:=hn86.upd
  have hpk_:=hn86.pick [0,7] (by decide) rfl
  subst hln
  exact⟨_,_,rfl,gh hpk_ hfp hbg hlt hlc (hL _ hup_) (fun ad e _=>by rw[<-Option.some.inj e];exact hla)⟩
  refine wp_skip (aa (wp_seq (wp_seq (sqr (sqp [.k 75 (.pointer (some ⟨kf,2,none⟩))] ?_)))))
  refine al 6 dB ?_
  refine sqp [.k 77 (.pointer (some ⟨iT,1,none⟩))] ?_
  refine al 2 dB ?_
  refine sqp [.k 79 (.bool (decide (nd.lv<tl)))] ?_
  refine aa (wds (fun M7 Lx=>?_) fun M7 Lx=>?_)
  refine wp_seq (sqr (sqp [.k 80 (.agg #[.slice none 0 0,.bool false,vi 11])] ?_))
  refine aF (n:=3) 1 #[.slice none 0 0,.bool false,vi 11] dB fun N7 lz=>?_
  refine aa (wp_ret (ai ?_))
  refine bpr (.agg #[.slice none 0 0,.bool false,vi 11]) (ba (n:=3) Try.results17 rfl (by kernel_rfl) (by kernel_rfl) (lz.blk 1 rfl) rfl) ?_
  rw[oT hnd fY (by omega) (by omega)]
  have hn95:=bM lz 99 3
  simp only[List.cons_append,List.nil_append] at hn95
  have hup_:=hn95.upd
  have hpk_:=hn95.pick [0,7] (by decide) rfl
  subst hln
  exact⟨_,_,rfl,gh hpk_ hfp hbg hlt hlc (hL _ hup_) (fun ad e _=>by rw[<-Option.some.inj e];exact hla)⟩
  refine wp_skip (aa (wp_seq (sqr (sqp [.k 10 (.bool false)] ?_))))
  refine aa (wp_seq (wp_seq (sqr (sqp [.k 11 (vi 0)] ?_))))
  refine aa (wp_block ?_)
  refine aX (fun t_ mz az W=>∃i:Nat,∃q:Bool,i<=nd.es.length/\q=di (nd.es.take i) te/\mz=nd.es.length-i/\az=⟨(ovr (jv az) [(10,10,0,[.bool q,vi ((i:Int))]),(69,81,18,[])] t_).toArray,[]⟩/\St w [b] [eB b 102 #[vi root,vi pos,vi leaf,.slice ((some la)) ln lc,vi 0,vi 0,.bool false],eB fX 39 #[.slice none 0 0,.bool false,vi 0],eB iT 111 #[.string te,vi tl,vi tk],eO 9 1 (.slice EA42_43 nd.es.length cEA42_43) nd.es.length (nd.es.map stv),eO 3 1 (.slice SA42_43 nd.es.length cSA42_43) nd.es.length (nd.es.map slv),eO 3 1 (.slice KA42_43 nd.es.length cKA42_43) nd.es.length (nd.es.map kdv),eB kf 66 #[.bool true,.bool nd.dead,vi nd.lv,vi nd.right,.string nd.high,.slice EA42_43 nd.es.length cEA42_43,.slice SA42_43 nd.es.length cSA42_43,.slice KA42_43 nd.es.length cKA42_43]] W) (nd.es.length-0) ?_ ?_
  exact⟨0,false,Nat.zero_le _,rfl,rfl,(by kernel_rfl),dB.pk [0,1,2,3,4,5,6]⟩
  rintro RG a98 RH ⟨i,q,hi,hq,rfl,hj_,gM⟩
  refine ovz hj_ fun Qj=>?_
  refine wp_seq (wp_seq (sqr (sqp [.m 81 11,.k 82 (.pointer (some ⟨kf,5,none⟩))] ?_)))
  refine al 6 gM ?_
  refine sqp [.k 84 (vi ((nd.es.length:Int))),.k 85 (.bool (decide ((i:Int)<(nd.es.length:Int))))] ?_
  refine aa (wds (fun Ly Jr=>?_) fun Ly Jr=>?_)
  refine wp_skip (aa (wp_seq (wp_block (bC [0,1,3,7,3,31,63,3,131,511,1023,2047] [[],[],[],[6],[],[3],[3],[],[2]] [.k 88 (.bool q),.k 89 (.bool q),.z 90 (!q) (.pointer (some ⟨kf,5,none⟩)),.y 91 (!q) (.slice EA42_43 nd.es.length cEA42_43),.z 92 (!q) (vi ((i:Int))),.y 93 (!q) (.pointer (some ((ad EA42_43).add i))),.y 94 (!q) (.string ((nd.es.getD i en0).1)),.z 95 (!q) (vp iT),.y 96 (!q) (.string te),.y 97 (!q) (.bool (((nd.es.getD i en0).1).toList==te.toList)),tO 98 q (((nd.es.getD i en0).1).toList==te.toList),.k 10 (.bool (q||(((nd.es.getD i en0).1).toList==te.toList)))] [0,1,2,3,4,5,6] [3,5,6,8,9] [(10,11,1,11),(77,0,11,88)] gM ?_ fun Mx wH=>?_))))
  refine⟨?_,?_,?_,?_,?_,trivial⟩
  exact m2 rfl (fun _ _ _ h=>h) (fun cx=>(cx.an 1)) fun cx hq=>ae rfl (by kernel_rfl) (mbv (cx.an 2) hq) ((cx.bi 6 rfl).cell 5)
  exact m2 rfl (fun _ _ _ h=>h) (fun cx=>(cx.an 1)) fun cx hq=>bo (e:=9) (m:=i) rfl (by kernel_rfl) (by kernel_rfl) (mbv (cx.an 3) hq) (mbv (cx.an 4) hq) (by have hq_:=hq;simp only[zB] at hq_;omega) (by have hq_:=hq;simp only[zB] at hq_;omega) (At.of_own (cx.ri 3 rfl)) (by rw[List.length_map])
  exact m2 rfl (fun _ _ _ h=>h) (fun cx=>(cx.an 1)) fun cx hq=>ae rfl (by kernel_rfl) (mbv (cx.an 5) hq) (At.cellAd (At.of_own (cx.ri 3 rfl)) (kw (by have hq_:=hq;simp only[zB] at hq_;omega)))
  exact m2 rfl (fun _ _ _ h=>h) (fun cx=>(cx.an 1)) fun cx hq=>ae rfl (by kernel_rfl) (mbv (cx.an 7) hq) ((cx.bi 2 rfl).cell 0)
  exact m2 rfl (fun _ _ _ h=>h) (fun cx=>(cx.an 1)) fun cx hq=>om rfl (mbv (cx.an 6) hq) (mbv (cx.an 8) hq)
  refine aw (aa (sqr (sqp [.m 86 11,sI 87 ((i:Int)+1) (by omega),.m 11 87] ?_)))
  refine aa ?_
  refine⟨nd.es.length-((i+1)),by omega,?_⟩
  exact⟨(i+1),(q||(((nd.es.getD i en0).1).toList==te.toList)),by omega,by rw[An te (by omega),<-hq],rfl,(by kernel_rfl),wH.pk [0,1,2,3,4,5,6]⟩
  refine wp_exit (am (am (bj (aa (wp_seq (wp_seq ?_))))))
  have hqa:di nd.es te=q:=by rw[hq,List.take_of_length_le (by omega)]
  refine sqr (sqp [.m 99 10,.m 100 99] ?_)
  refine fo 100 [101,102,103,104] ?_ rfl (fun hq=>?_) ?_
  rotate_left
  refine sqp [.k 101 (.pointer (some ⟨kf,5,none⟩))] ?_
  refine al 6 gM ?_
  refine sqp [.k 103 (vi ((nd.es.length:Int))),.k 104 (.bool (decide ((nd.es.length:Int)<8)))] ?_
  exact sqe
  refine dn ?_
  refine sqp [sPo 105 q (decide ((nd.es.length:Int)<8))] ?_
  refine aa (wbs (fun rS=>?_) fun rS=>?_)
  have rT:=rS
  simp only[zB] at rT
  refine wp_seq (sqr (sqp [.k 12 (.slice none 0 0)] ?_))
  refine aa (wp_seq (wp_seq (sqr (sqp [.m 106 10,.k 107 (.bool (!(q)))] ?_))))
  refine aa ?_
  rcases Bool.eq_false_or_eq_true (q) with kg|kg
  refine wp_cond_false (show Act.eval _ _= .bool false from(congrArg Value.bool (by rw[kg];rfl))) (wp_skip (aa (wp_seq (wp_seq (sqr (sqp [.k 132 (.pointer (some ⟨iT,1,none⟩))] ?_))))))
  refine al 2 gM ?_
  refine sqp [.k 134 (.bool (tl==0))] ?_
  refine aa (wbs (fun rU=>?_) fun rU=>?_)
  have Js:=beq_iff_eq.1 rU
  refine sqr (sqp [.m 135 0,.m 136 0,.k 137 (vp b),.k 138 (.pointer (some ⟨b,1,none⟩))] ?_)
  refine al 0 gM ?_
  refine sqp [.k 140 (vp b),.k 141 (.pointer (some ⟨b,2,none⟩))] ?_
  refine aF (n:=1) 0 #[vi root,vi pos,vi pos,.slice ((some la)) ln lc,vi 0,vi 0,.bool false] gM fun M8 kR=>?_
  refine aa (wp_seq (sqr (sqp [.m 142 0,.m 143 0,.k 144 (vp b),.k 145 (.pointer (some ⟨b,3,none⟩))] ?_)))
  refine al 0 kR ?_
  refine sql (.slice ((if lc=1 then (some la) else ((some la)).map (·.add (1*3)))) ((ln-1)) ((lc-1))) kR (fun cx=>b6 (e:=111) (sz:=3) (l:=1) rfl (by kernel_rfl) (by kernel_rfl) (cx.ou 146) (cx.co _) (by omega) (by omega)) ?_
  refine sqp [.k 148 (vp b),.k 149 (.pointer (some ⟨b,3,none⟩))] ?_
  refine aF (n:=1) 0 #[vi root,vi pos,vi pos,.slice ((if lc=1 then (some la) else ((some la)).map (·.add (1*3)))) ((ln-1)) ((lc-1)),vi 0,vi 0,.bool false] kR fun Qk B1=>?_
  refine aa (wp_seq (sqr (sqp [.m 150 0,.m 151 0,.k 152 (vp b),.k 153 (vp b)] ?_)))
  refine al 0 B1 ?_
  refine sqp [.k 155 (vp b),.k 156 (.pointer (some ⟨b,1,none⟩))] ?_
  refine aF (n:=1) 0 #[vi root,vi root,vi pos,.slice ((if lc=1 then (some la) else ((some la)).map (·.add (1*3)))) ((ln-1)) ((lc-1)),vi 0,vi 0,.bool false] B1 fun Ql Jt=>?_
  refine aa (wp_seq (sqr (sqp [.m 157 12,.k 158 (.agg #[.slice none 0 0,.bool false,vi 0])] ?_)))
  refine aF (n:=3) 1 #[.slice none 0 0,.bool false,vi 0] Jt fun M9 kS=>?_
  refine aa (wp_ret (ai ?_))
  refine bpr (.agg #[.slice none 0 0,.bool false,vi 0]) (ba (n:=3) Try.results17 rfl (by kernel_rfl) (by kernel_rfl) (kS.blk 1 rfl) rfl) ?_
  rw[ik hnd fY (by omega) (by omega) (by rw[hqa];exact kg)]
  have htl0:tl=0:=by have h_:=rU;simpa using h_
  rw[if_pos htl0]
  have hn153:=bM kS 99 3
  simp only[List.cons_append,List.nil_append] at hn153
  have hup_:=hn153.upd
  have hpk_:=hn153.pick [0,7] (by decide) rfl
  have hl1_:ln-1=lf.length:=by omega
  rw[hl1_] at hpk_
  exact⟨_,_,rfl,gh hpk_ hfp hbg hlt (by show lf.length<=lc-1;omega) (At.dropF (ts:=(te,tl,tk)::lf) i6 (hL _ hup_) 1 lc hlc) (fun ad e _=>by rw[mR e];exact hla)⟩
  have Js:=beq_eq_false_iff_ne.1 rU
  refine wp_skip (aa (wp_seq (sqr (sqp [.m 142 0,.m 143 0,.k 144 (vp b),.k 145 (.pointer (some ⟨b,3,none⟩))] ?_))))
  refine al 0 gM ?_
  refine sql (.slice ((if lc=1 then (some la) else ((some la)).map (·.add (1*3)))) ((ln-1)) ((lc-1))) gM (fun cx=>b6 (e:=111) (sz:=3) (l:=1) rfl (by kernel_rfl) (by kernel_rfl) (cx.ou 146) (cx.co _) (by omega) (by omega)) ?_
  refine sqp [.k 148 (vp b),.k 149 (.pointer (some ⟨b,3,none⟩))] ?_
  refine aF (n:=1) 0 #[vi root,vi pos,vi leaf,.slice ((if lc=1 then (some la) else ((some la)).map (·.add (1*3)))) ((ln-1)) ((lc-1)),vi 0,vi 0,.bool false] gM fun Na rV=>?_
  refine aa (wp_seq (sqr (sqp [.m 150 0,.m 151 0,.k 152 (vp b),.k 153 (vp b)] ?_)))
  refine al 0 rV ?_
  refine sqp [.k 155 (vp b),.k 156 (.pointer (some ⟨b,1,none⟩))] ?_
  refine aF (n:=1) 0 #[vi root,vi root,vi leaf,.slice ((if lc=1 then (some la) else ((some la)).map (·.add (1*3)))) ((ln-1)) ((lc-1)),vi 0,vi 0,.bool false] rV fun Nb wZ=>?_
  refine aa (wp_seq (sqr (sqp [.m 157 12,.k 158 (.agg #[.slice none 0 0,.bool false,vi 0])] ?_)))
  refine aF (n:=3) 1 #[.slice none 0 0,.bool false,vi 0] wZ fun Qm B2=>?_
  refine aa (wp_ret (ai ?_))
  refine bpr (.agg #[.slice none 0 0,.bool false,vi 0]) (ba (n:=3) Try.results17 rfl (by kernel_rfl) (by kernel_rfl) (B2.blk 1 rfl) rfl) ?_
  rw[ik hnd fY (by omega) (by omega) (by rw[hqa];exact kg)]
  have htl0:¬tl=0:=by have h_:=rU;simpa using h_
  rw[if_neg htl0]
  have hn174:=bM B2 99 3
  simp only[List.cons_append,List.nil_append] at hn174
  have hup_:=hn174.upd
  have hpk_:=hn174.pick [0,7] (by decide) rfl
  have hl1_:ln-1=lf.length:=by omega
  rw[hl1_] at hpk_
  exact⟨_,_,rfl,gh hpk_ hfp hbg hlt (by show lf.length<=lc-1;omega) (At.dropF (ts:=(te,tl,tk)::lf) i6 (hL _ hup_) 1 lc hlc) (fun ad e _=>by rw[mR e];exact hla)⟩
  refine wp_cond_true (show Act.eval _ _= .bool true from(congrArg Value.bool (by rw[kg];rfl))) (wp_seq (sqr (sqp [.m 109 1,.m 110 0,.k 111 (vp b),.k 112 (.pointer (some ⟨b,1,none⟩))] ?_)))
  refine al 0 gM ?_
  refine sqk (.tuple #[.agg #[vi ((pgV ps pos).1),vi ((pgV ps pos).2.1),.slice ((pgR Ps pos).A) ((pgV ps pos).2.2.length) ((pgR Ps pos).c)],.bool (pgB ps pos)]) gM (fun cx=>⟨_,xZ bk LA lcc _ Ps ps pos _ (hBO _ cx.upd) hps hok.len,(aK (cx.ou 109) (cx.ou 113))⟩) fun Nc w3=>?_
  refine sqp [.m 108 114,.k 115 (.agg #[vi ((pgV ps pos).1),vi ((pgV ps pos).2.1),.slice ((pgR Ps pos).A) ((pgV ps pos).2.2.length) ((pgR Ps pos).c)]),.k 116 (.bool (pgB ps pos))] ?_
  refine bW #[vi 0,vi 0,.slice none 0 0] w3 fun NT Qn Ju=>?_
  refine aF (n:=3) 7 #[vi ((pgV ps pos).1),vi ((pgV ps pos).2.1),.slice ((pgR Ps pos).A) ((pgV ps pos).2.2.length) ((pgR Ps pos).c)] Ju fun Nd w4=>?_
  refine sqp [.m 14 116] ?_
  refine aa (aj [0,1,3,7,0,16,0,64,0,256,0,1024,4080,8191,16383,32767] [[],[],[],[0],[7],[],[],[2],[],[2],[],[2]] [[],[],[],[],[],[],[],[],[],[],[],[],[],[],[8]] [] [.k 117 (vp b),.k 118 (vp b),.k 119 (.pointer (some ⟨b,1,none⟩)),.c 120 (vi pos),.c 121 (.agg #[vi ((pgV ps pos).1),vi ((pgV ps pos).2.1),.slice ((pgR Ps pos).A) ((pgV ps pos).2.2.length) ((pgR Ps pos).c)]),.c 122 (vi (ju (pgV ps pos).2.2)),.k 123 (vp iT),.c 124 (.string te),.k 125 (.pointer (some ⟨iT,1,none⟩)),.c 126 (vi tl),.k 127 (.pointer (some ⟨iT,2,none⟩)),.c 128 (vi tk),.c 129 (.string (itB tl tk te)),.k 130 (.agg #[vi pos,vi (ju (pgV ps pos).2.2),.string (itB tl tk te)]),.a 131,.a 12] (fun ix j d X=>match ix with|0|1|2|3|4|5|6|7|8|9|10|11|12|13=>True|14=>j 131= .slice ((some ⟨(pb' (d 131)),0,none⟩)) 1 1/\X 8=eO 99 3 (.slice ((some ⟨(pb' (d 131)),0,none⟩)) 1 1) 1 ([vi pos,vi (ju (pgV ps pos).2.2),.string (itB tl tk te)])|15=>j 12= .slice ((some ⟨(pb' (d 131)),0,none⟩)) 1 1|_=>True) [0,1,2,3,4,5,6,7,8] [3,4,5,7,9,11,12,14,15] [(12,15,1,13),(104,0,15,119)] w4 ?_ ?_ ?_)
  exact fun ix _ _ _ _ _ _ hs hb hx h=>match ix,h with
  |14,h=>by dsimp only;rw[<-hs 131 rfl,<-hb 131 rfl,<-hx 8 rfl];exact h
  |15,h=>by dsimp only;rw[<-hs 12 rfl,<-hb 131 rfl];exact h
  |0,_|1,_|2,_|3,_|4,_|5,_|6,_|7,_|8,_|9,_|10,_|11,_|12,_|13,_|_+16,_=>trivial
  refine⟨?_,?_,?_,?_,?_,?_,?_,?_,?_,trivial⟩
  exact xs4 rfl id fun cx=>ae rfl (by kernel_rfl) (cx.an 2) ((cx.bi 0 rfl).cell 1)
  exact xs4 rfl id fun cx=>aO (n:=3) rfl (by kernel_rfl) (by kernel_rfl) (cx.ou 13) (cx.bi 7 rfl) (nle rfl) rfl
  exact xsc rfl id rfl rfl fun cx=>⟨_,Bv _ _ _ _ (pgV ps pos).2.2 _ (hps ▸ Hm (hBO _ cx.upd) pos) (Nat.le_trans hvk.1 (by decide)),(br (cx.an 4))⟩
  exact xs4 rfl id fun cx=>ae rfl (by kernel_rfl) (cx.an 6) ((cx.bi 2 rfl).cell 0)
  exact xs4 rfl id fun cx=>ae rfl (by kernel_rfl) (cx.an 8) ((cx.bi 2 rfl).cell 1)
  exact xs4 rfl id fun cx=>ae rfl (by kernel_rfl) (cx.an 10) ((cx.bi 2 rfl).cell 2)
  exact xsc rfl id rfl rfl fun cx=>⟨_,lm te tl tk _ (by omega),(eC (cx.an 7) (cx.an 9) (cx.an 11))⟩
  refine svA fun o d W X cx=>?_
  have Lz:o (.tmp 130)= .agg #[vi pos,vi (ju (pgV ps pos).2.2),.string (itB tl tk te)]:=(cx.an 13)
  exact bS (e:=99) (sz:=3) (xs:=[vi pos,vi (ju (pgV ps pos).2.2),.string (itB tl tk te)]) rfl (by simp[go_sem,Lz]) rfl (by decide) rfl rfl (fun _ _ _ _ _=> .intro)
  exact sv rfl rfl rfl rfl rfl _ (fun _ _ _ h=>h) (fun d p h=>by rw[h 131 (by decide)]) fun o d W X cx=>aN rfl (dTn (cx.an 14)).1
  intro j d X Qo hD jS fr af
  simp only[exq 8 ((dTn (hD 14 lq)).2)] at jS
  simp only[ed 131 ((dTn (hD 14 lq)).1),ed 12 ((dTn (hD 15 lq)))] at af
  generalize pb' (d 131)=jp at jS af
  clear hD;subst af;clear j d X
  refine aa (wp_seq (wp_seq (sqr (sqp [.k 132 (.pointer (some ⟨iT,1,none⟩))] ?_))))
  refine al 2 jS ?_
  refine sqp [.k 134 (.bool (tl==0))] ?_
  refine aa (wbs (fun rW=>?_) fun rW=>?_)
  have Jv:=beq_iff_eq.1 rW
  refine sqr (sqp [.m 135 0,.m 136 0,.k 137 (vp b),.k 138 (.pointer (some ⟨b,1,none⟩))] ?_)
  refine al 0 jS ?_
  refine sqp [.k 140 (vp b),.k 141 (.pointer (some ⟨b,2,none⟩))] ?_
  refine aF (n:=1) 0 #[vi root,vi pos,vi pos,.slice ((some la)) ln lc,vi 0,vi 0,.bool false] jS fun Qp w5=>?_
  refine aa (wp_seq (sqr (sqp [.m 142 0,.m 143 0,.k 144 (vp b),.k 145 (.pointer (some ⟨b,3,none⟩))] ?_)))
  refine al 0 w5 ?_
  refine sql (.slice ((if lc=1 then (some la) else ((some la)).map (·.add (1*3)))) ((ln-1)) ((lc-1))) w5 (fun cx=>b6 (e:=111) (sz:=3) (l:=1) rfl (by kernel_rfl) (by kernel_rfl) (cx.ou 146) (cx.co _) (by omega) (by omega)) ?_
  refine sqp [.k 148 (vp b),.k 149 (.pointer (some ⟨b,3,none⟩))] ?_
  refine aF (n:=1) 0 #[vi root,vi pos,vi pos,.slice ((if lc=1 then (some la) else ((some la)).map (·.add (1*3)))) ((ln-1)) ((lc-1)),vi 0,vi 0,.bool false] w5 fun Qq B3=>?_
  refine aa (wp_seq (sqr (sqp [.m 150 0,.m 151 0,.k 152 (vp b),.k 153 (vp b)] ?_)))
  refine al 0 B3 ?_
  refine sqp [.k 155 (vp b),.k 156 (.pointer (some ⟨b,1,none⟩))] ?_
  refine aF (n:=1) 0 #[vi root,vi root,vi pos,.slice ((if lc=1 then (some la) else ((some la)).map (·.add (1*3)))) ((ln-1)) ((lc-1)),vi 0,vi 0,.bool false] B3 fun Qr Jw=>?_
  refine aa (wp_seq (sqr (sqp [.m 157 12,.k 158 (.agg #[.slice ((some ⟨jp,0,none⟩)) 1 1,.bool false,vi 0])] ?_)))
  refine aF (n:=3) 1 #[.slice ((some ⟨jp,0,none⟩)) 1 1,.bool false,vi 0] Jw fun Qt w6=>?_
  refine aa (wp_ret (ai ?_))
  refine bpr (.agg #[.slice ((some ⟨jp,0,none⟩)) 1 1,.bool false,vi 0]) (ba (n:=3) Try.results17 rfl (by kernel_rfl) (by kernel_rfl) (w6.blk 1 rfl) rfl) ?_
  rw[ml hnd fY (by omega) (by omega) (by rw[hqa];exact kg) (by have h_:=rS;rw[kg,Bool.false_or] at h_;have h2_:=of_decide_eq_true h_;omega)]
  have htl0:tl=0:=by have h_:=rW;simpa using h_
  rw[if_pos htl0]
  have hup_:=w6.upd
  have hpk_:=w6.pick [0,8] (by decide) rfl
  have hl1_:ln-1=lf.length:=by omega
  rw[hl1_,tT hnd] at hpk_
  exact⟨_,_,rfl,gh hpk_ hfp hbg hlt (by show lf.length<=lc-1;omega) (At.dropF (ts:=(te,tl,tk)::lf) i6 (hL _ hup_) 1 lc hlc) (fun ad e _=>by rw[mR e];exact hla)⟩
  have Jv:=beq_eq_false_iff_ne.1 rW
  refine wp_skip (aa (wp_seq (sqr (sqp [.m 142 0,.m 143 0,.k 144 (vp b),.k 145 (.pointer (some ⟨b,3,none⟩))] ?_))))
  refine al 0 jS ?_
  refine sql (.slice ((if lc=1 then (some la) else ((some la)).map (·.add (1*3)))) ((ln-1)) ((lc-1))) jS (fun cx=>b6 (e:=111) (sz:=3) (l:=1) rfl (by kernel_rfl) (by kernel_rfl) (cx.ou 146) (cx.co _) (by omega) (by omega)) ?_
  refine sqp [.k 148 (vp b),.k 149 (.pointer (some ⟨b,3,none⟩))] ?_
  refine aF (n:=1) 0 #[vi root,vi pos,vi leaf,.slice ((if lc=1 then (some la) else ((some la)).map (·.add (1*3)))) ((ln-1)) ((lc-1)),vi 0,vi 0,.bool false] jS fun Qu B7=>?_
  refine aa (wp_seq (sqr (sqp [.m 150 0,.m 151 0,.k 152 (vp b),.k 153 (vp b)] ?_)))
  refine al 0 B7 ?_
  refine sqp [.k 155 (vp b),.k 156 (.pointer (some ⟨b,1,none⟩))] ?_
  refine aF (n:=1) 0 #[vi root,vi root,vi leaf,.slice ((if lc=1 then (some la) else ((some la)).map (·.add (1*3)))) ((ln-1)) ((lc-1)),vi 0,vi 0,.bool false] B7 fun Nf w7=>?_
  refine aa (wp_seq (sqr (sqp [.m 157 12,.k 158 (.agg #[.slice ((some ⟨jp,0,none⟩)) 1 1,.bool false,vi 0])] ?_)))
  refine aF (n:=3) 1 #[.slice ((some ⟨jp,0,none⟩)) 1 1,.bool false,vi 0] w7 fun Qv w8=>?_
  refine aa (wp_ret (ai ?_))
  refine bpr (.agg #[.slice ((some ⟨jp,0,none⟩)) 1 1,.bool false,vi 0]) (ba (n:=3) Try.results17 rfl (by kernel_rfl) (by kernel_rfl) (w8.blk 1 rfl) rfl) ?_
  rw[ml hnd fY (by omega) (by omega) (by rw[hqa];exact kg) (by have h_:=rS;rw[kg,Bool.false_or] at h_;have h2_:=of_decide_eq_true h_;omega)]
  have htl0:¬tl=0:=by have h_:=rW;simpa using h_
  rw[if_neg htl0]
  have hup_:=w8.upd
  have hpk_:=w8.pick [0,8] (by decide) rfl
  have hl1_:ln-1=lf.length:=by omega
  rw[hl1_,tT hnd] at hpk_
  exact⟨_,_,rfl,gh hpk_ hfp hbg hlt (by show lf.length<=lc-1;omega) (At.dropF (ts:=(te,tl,tk)::lf) i6 (hL _ hup_) 1 lc hlc) (fun ad e _=>by rw[mR e];exact hla)⟩
  have rT:=rS
  simp only[zB] at rT
  obtain⟨tm,NU⟩:=rT
  refine wp_skip (aa (wp_seq (wp_seq (sqr (sqp [.m 159 2,.k 160 (.bool (decide (fresh<0)))] ?_)))))
  refine aa (wds (fun LB Jx=>?_) fun LB Jx=>?_)
  refine wp_seq (sqr (sqp [.k 161 (.agg #[.slice none 0 0,.bool false,vi 23])] ?_))
  refine aF (n:=3) 1 #[.slice none 0 0,.bool false,vi 23] gM fun Qw B8=>?_
  refine aa (wp_ret (ai ?_))
  refine bpr (.agg #[.slice none 0 0,.bool false,vi 23]) (ba (n:=3) Try.results17 rfl (by kernel_rfl) (by kernel_rfl) (B8.blk 1 rfl) rfl) ?_
  rw[s7 hnd fY (by omega) (by omega) (by rw[hqa];exact tm) (by omega) (by omega)]
  have hn245:=bM B8 99 3
  simp only[List.cons_append,List.nil_append] at hn245
  have hup_:=hn245.upd
  have hpk_:=hn245.pick [0,7] (by decide) rfl
  subst hln
  exact⟨_,_,rfl,gh hpk_ hfp hbg hlt hlc (hL _ hup_) (fun ad e _=>by rw[<-Option.some.inj e];exact hla)⟩
  refine wp_skip (aa (wp_seq (wp_seq (bC [0,1,3,7,0,16,48,112,255] [[],[],[],[0],[],[],[],[0]] [.k 162 (vp b),.k 163 (vp b),.k 164 (.pointer (some ⟨b,1,none⟩)),.c 165 (vi pos),.k 166 (vp b),.k 167 (vp b),.k 168 (vp b),.c 169 (vi root),.k 170 (.bool (pos==root))] [0,1,2,3,4,5,6] [3,7] [(162,0,9,171)] gM ?_ fun Qx B9=>?_))))
  refine⟨?_,?_,trivial⟩
  exact xs4 rfl id fun cx=>ae rfl (by kernel_rfl) (cx.an 2) ((cx.bi 0 rfl).cell 1)
  exact xs4 rfl id fun cx=>ae rfl (by kernel_rfl) (cx.an 6) ((cx.bi 0 rfl).cell 0)
  refine aa (wbs (fun zz=>?_) fun zz=>?_)
  have Jy:=beq_iff_eq.1 zz
  refine wp_seq (aj [0,0,0,7,15] [[],[6],[],[0,3,4,5],[1]] [[],[],[],[7,8],[9]] [[],[],[],[0],[1]] [.k 171 (vp b),.c 172 (.agg #[.bool true,.bool nd.dead,vi nd.lv,vi nd.right,.string nd.high,.slice EA42_43 nd.es.length cEA42_43,.slice SA42_43 nd.es.length cSA42_43,.slice KA42_43 nd.es.length cKA42_43]),.k 173 (vi fresh),.a 174,.n] (fun ix j d X=>match ix with|0|1|2=>True|3=>j 174= .agg #[.slice (sA (tg (d 174) 0)) ((bT root nd fresh).length) (sC (tg (d 174) 0)),.bool true,vi 0]/\X 7=eB b 102 #[vi root,vi fresh,vi leaf,.slice ((some la)) ln lc,vi 0,vi 0,.bool false]/\X 8=eO 99 3 (.slice (sA (tg (d 174) 0)) ((bT root nd fresh).length) (sC (tg (d 174) 0))) ((bT root nd fresh).length) ((bT root nd fresh).flatMap edC)|4=>X 9=eB fX 39 #[.slice (sA (tg (d 174) 0)) ((bT root nd fresh).length) (sC (tg (d 174) 0)),.bool true,vi 0]|_=>True) [2,3,4,5,6,7,8,9] [1,3,4] [(171,0,4,175)] B9 ?_ ?_ ?_)
  exact fun ix _ _ _ _ _ _ hs hb hx h=>match ix,h with
  |3,h=>by dsimp only;rw[<-hs 174 rfl,<-hb 174 rfl,<-hx 7 rfl,<-hx 8 rfl];exact h
  |4,h=>by dsimp only;rw[<-hb 174 rfl,<-hx 9 rfl];exact h
  |0,_|1,_|2,_|_+5,_=>trivial
  refine⟨?_,?_,?_,trivial⟩
  exact xs4 rfl id fun cx=>aO (n:=8) rfl (by kernel_rfl) (by kernel_rfl) (cx.ou 8) (cx.bi 6 rfl) (nle rfl) rfl
  refine svA fun o d W X cx=>?_
  refine ax.call (av (args:=#[vp b,.agg #[.bool true,.bool nd.dead,vi nd.lv,vi nd.right,.string nd.high,.slice EA42_43 nd.es.length cEA42_43,.slice SA42_43 nd.es.length cSA42_43,.slice KA42_43 nd.es.length cKA42_43],vi fresh]) rfl cx.sees rfl (by kernel_rfl) (eC (cx.an 0) (cx.an 1) (cx.an 2))) ?_
  refine(z8 _ _ _ _ _ _ _ _ _ _ nd _ _ _ _ _ _ _ fresh _ (cx.bi 0 rfl) (CtxV.keepAt cx (cx.init 3 _ rfl) (cx.init 0 _ rfl) rfl rfl (by decide)) (CtxV.keepAt cx (cx.init 4 _ rfl) (cx.init 0 _ rfl) rfl rfl (by decide)) (CtxV.keepAt cx (cx.init 5 _ rfl) (cx.init 0 _ rfl) rfl rfl (by decide)) rfl hN.es6 (by omega) hN.lv (by omega)).mono ?_
  rintro e W1 ⟨A4,c4,rfl,aR⟩
  refine⟨_,rfl,bw (E:=eB b 102 #[vi root,vi pos,vi leaf,.slice ((some la)) ln lc,vi 0,vi 0,.bool false]) [eB b 102 #[vi root,vi fresh,vi leaf,.slice ((some la)) ln lc,vi 0,vi 0,.bool false],eO 99 3 (.slice A4 (bT root nd fresh).length c4) (bT root nd fresh).length ((bT root nd fresh).flatMap edC)] (cx.init 0 _ rfl) rfl rfl aR (fun j p X' hs hb hv hN=>?_)⟩
  have aZ:=(hv 174 rfl).1;have aJ:=(hv 174 rfl).2
  exact⟨aZ.trans (by rw[aJ];rfl),(List.cons.inj hN).1,(by rw[aJ];exact(List.cons.inj (List.cons.inj hN).2).1)⟩
  refine svA fun o d W X cx=>?_
  exact ar (n:=3) rfl (cx.ou 6) (dTn (cx.an 3)).1 (by kernel_rfl) (by kernel_rfl) (by kernel_rfl) cx (cx.init 1 _ rfl) rfl (nle rfl) (by kernel_rfl) rfl rfl rfl (fun j p X' hs hb hx=>by rw[hb 174];exact hx)
  intro j d X Qy hD oD fr af
  simp only[exq 7 ((dTn (hD 3 lq)).2.1),exq 8 ((dTn (hD 3 lq)).2.2),exq 9 ((dTn (hD 4 lq)))] at oD
  simp only[ed 174 ((dTn (hD 3 lq)).1)] at af
  generalize sA (tg (d 174) 0)=D3,sC (tg (d 174) 0)=D6 at oD af
  clear hD;subst af;clear j d X
  refine aa (wp_ret (ai ?_))
  refine bpr (.agg #[.slice D3 ((bT root nd fresh).length) D6,.bool true,vi 0]) (ba (n:=3) Try.results17 rfl (by kernel_rfl) (by kernel_rfl) (oD.blk 7 rfl) rfl) ?_
  rw[o7 hnd fY (by omega) (by omega) (by rw[hqa];exact tm) (by omega) (by omega) (by omega)]
  have hup_:=oD.upd
  have hpk_:=oD.pick [5,6] (by decide) rfl
  subst hln
  exact⟨_,_,rfl,gh hpk_ hfp hbg hlt hlc (hL _ hup_) (fun ad e _=>by rw[<-Option.some.inj e];exact hla)⟩
  have Jy:=beq_eq_false_iff_ne.1 zz
  refine wp_skip (aa (wp_seq (aj [0,0,0,0,15,31] [[],[6],[2],[],[0,3,4,5],[1]] [[],[],[],[],[7,8],[9]] [[],[],[],[],[0],[1]] [.k 175 (vp b),.c 176 (.agg #[.bool true,.bool nd.dead,vi nd.lv,vi nd.right,.string nd.high,.slice EA42_43 nd.es.length cEA42_43,.slice SA42_43 nd.es.length cSA42_43,.slice KA42_43 nd.es.length cKA42_43]),.c 177 (.agg #[.string te,vi tl,vi tk]),.k 178 (vi fresh),.a 179,.n] (fun ix j d X=>match ix with|0|1|2|3=>True|4=>j 179= .agg #[.slice (sA (tg (d 179) 0)) ((bR pos nd fresh).length) (sC (tg (d 179) 0)),.bool true,vi 0]/\X 7=ePu b ⟨root,pos,leaf,((te,tl,tk)::lf++[(bN nd,tl+1,fresh)]),if tl=0 then pos else 0,if tl=0 then fresh else 0,if tl=0 then true else false⟩ ((X 7).fp)/\X 8=eO 99 3 (.slice (sA (tg (d 179) 0)) ((bR pos nd fresh).length) (sC (tg (d 179) 0))) ((bR pos nd fresh).length) ((bR pos nd fresh).flatMap edC)|5=>X 9=eB fX 39 #[.slice (sA (tg (d 179) 0)) ((bR pos nd fresh).length) (sC (tg (d 179) 0)),.bool true,vi 0]|_=>True) [2,3,4,5,6,7,8,9] [1,2,4,5] [(175,0,5,180)] B9 ?_ ?_ ?_)))
  exact fun ix _ _ _ _ _ _ hs hb hx h=>match ix,h with
  |4,h=>by dsimp only;rw[<-hs 179 rfl,<-hb 179 rfl,<-hx 7 rfl,<-hx 8 rfl];exact h
  |5,h=>by dsimp only;rw[<-hb 179 rfl,<-hx 9 rfl];exact h
  |0,_|1,_|2,_|3,_|_+6,_=>trivial
  refine⟨?_,?_,?_,?_,trivial⟩
  exact xs4 rfl id fun cx=>aO (n:=8) rfl (by kernel_rfl) (by kernel_rfl) (cx.ou 8) (cx.bi 6 rfl) (nle rfl) rfl
  exact xs4 rfl id fun cx=>aO (n:=3) rfl (by kernel_rfl) (by kernel_rfl) (cx.ou 7) (cx.bi 2 rfl) (nle rfl) rfl
  refine svA fun o d W X cx=>?_
  refine ax.call (av (args:=#[vp b,.agg #[.bool true,.bool nd.dead,vi nd.lv,vi nd.right,.string nd.high,.slice EA42_43 nd.es.length cEA42_43,.slice SA42_43 nd.es.length cSA42_43,.slice KA42_43 nd.es.length cKA42_43],.agg #[.string te,vi tl,vi tk],vi fresh]) rfl cx.sees rfl (by kernel_rfl) (yW (cx.an 0) (cx.an 1) (cx.an 2) (cx.an 3))) ?_
  refine(GH _ _ _ _ _ _ _ nd _ _ _ _ _ _ fresh _ _ _ ((te,tl,tk)::lf) _ (cx.bi 0 rfl) (CtxV.keepAt cx (cx.init 3 _ rfl) (cx.init 0 _ rfl) rfl rfl (by decide)) (CtxV.keepAt cx (cx.init 4 _ rfl) (cx.init 0 _ rfl) rfl rfl (by decide)) (CtxV.keepAt cx (cx.init 5 _ rfl) (cx.init 0 _ rfl) rfl rfl (by decide)) hN.es6 (by omega) hN.lv (by omega) (fun W' hu=>hL W' (cx.upd.join hu (fun i hi=> .inl hi))) hln (by omega) (by omega) (by omega) (by omega) (by omega)).mono ?_
  rintro e W1 ⟨A4,c4,rfl,fp4,aR⟩
  refine⟨_,rfl,bw (E:=eB b 102 #[vi root,vi pos,vi leaf,.slice ((some la)) ln lc,vi 0,vi 0,.bool false]) [ePu b ⟨root,pos,leaf,((te,tl,tk)::lf++[(bN nd,tl+1,fresh)]),if tl=0 then pos else 0,if tl=0 then fresh else 0,if tl=0 then true else false⟩ fp4,eO 99 3 (.slice A4 (bR pos nd fresh).length c4) (bR pos nd fresh).length ((bR pos nd fresh).flatMap edC)] (cx.init 0 _ rfl) rfl rfl aR (fun j p X' hs hb hv hN=>?_)⟩
  have aZ:=(hv 179 rfl).1;have aJ:=(hv 179 rfl).2
  exact⟨aZ.trans (by rw[aJ];rfl),v7 ((List.cons.inj hN).1),(by rw[aJ];exact(List.cons.inj (List.cons.inj hN).2).1)⟩
  refine svA fun o d W X cx=>?_
  exact ar (n:=3) rfl (cx.ou 6) (dTn (cx.an 4)).1 (by kernel_rfl) (by kernel_rfl) (by kernel_rfl) cx (cx.init 1 _ rfl) rfl (nle rfl) (by kernel_rfl) rfl rfl rfl (fun j p X' hs hb hx=>by rw[hb 179];exact hx)
  intro j d X Qz hD w9 fr af
  obtain⟨D7,lZ⟩:∃z,sA (tg (d 179) 0)=z:=⟨_,rfl⟩
  obtain⟨D8,l5⟩:∃z,sC (tg (d 179) 0)=z:=⟨_,rfl⟩
  have kT:X 7= _:=(dTn (hD 4 lq)).2.1
  obtain⟨Ov,uo⟩:∃z,(X 7).fp=z:=⟨_,rfl⟩
  rw[uo] at kT
  clear uo
  simp only[kT,exq 8 ((dTn (hD 4 lq)).2.2),exq 9 ((dTn (hD 5 lq))),lZ,l5] at w9
  simp only[ed 179 ((dTn (hD 4 lq)).1),lZ,l5] at af
  clear hD kT lZ l5;subst af;clear j d X
  refine aa (wp_ret ?_)
  refine bpr (.agg #[.slice D7 ((bR pos nd fresh).length) D8,.bool true,vi 0]) (ba (n:=3) Try.results17 rfl (by kernel_rfl) (by kernel_rfl) (w9.blk 7 rfl) rfl) ?_
  rw[qX hnd fY (by omega) (by omega) (by rw[hqa];exact tm) (by omega) (by omega) (by omega)]
  exact⟨_,_,rfl,_,St.monoB (w9.pick [5,6] (by decide) rfl) (by rw[hfp];simp)⟩
end
end Go.Proofs.Ytjlcoglmjldjbaa
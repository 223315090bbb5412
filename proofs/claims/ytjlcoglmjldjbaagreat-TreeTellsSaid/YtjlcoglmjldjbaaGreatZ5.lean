import Derived.Test.YtjlcoglmjldjbaaGreatZ4
import Derived.RangeFuncBox
import Derived.RangeFuncBound
import Derived.RangeFuncCalls
import Derived.RangeFuncLeaves
import Derived.TacticsIn
import Derived.OrdersIn
import Derived.LoopNIn
import Derived.Shelf.Abstract
set_option linter.unusedVariables false
set_option linter.unusedSimpArgs false
set_option maxRecDepth 100000
set_option maxHeartbeats 16000000
namespace Go.Proofs.YtjlcoglmjldjbaaGreat
section
open Go.RowKit
def ov(w w':WkT):Prop:=w'.st=w.st/\w'.fm=w.fm/\w'.fin=w.fin/\(w.fin=false->w'.pos=w.pos)
theorem ov.refl(w:WkT):ov w w:=⟨rfl,rfl,rfl,fun _=>rfl⟩
theorem BJ{ps:List PgS}{w w':WkT}(h:ov w w'):(rwN ps w').2=(wkN ps w).2/\ov (wkN ps w).1 (rwN ps w').1/\∀n,(wkN ps w).2= .at n->w'.pos=w.pos:=by
 obtain⟨pos,st,fm,fin⟩:=w
 obtain⟨pos',st',fm',fin'⟩:=w'
 obtain⟨h1,h2,h3,h4⟩:=h
 dsimp only at h1 h2 h3 h4
 subst h1 h2 h3
 by_cases h0:fin'=true\/1000<=st'+1
 rw[og h0,jX h0];exact⟨rfl,⟨rfl,rfl,rfl,fun e=>by cases e⟩,fun n e=>by cases e⟩
 have h5:fin'=false:=by cases fin' with
  |false=>rfl
  |true=>exact absurd (.inl rfl) h0
 obtain rfl:=h4 h5
 rcases hn:av ps pos' with _|n
 rw[pN hn,jx hn];exact⟨rfl,⟨rfl,rfl,rfl,fun _=>rfl⟩,fun n e=>by cases e⟩
 rw[iJ h0 hn,fO h0 hn]
 by_cases hs:da n.dead n.high fm'=true
 rw[if_pos hs,if_pos hs]
 by_cases hr:n.right<0
 rw[if_pos hr,if_pos hr,decide_eq_true hr];exact⟨rfl,⟨rfl,rfl,rfl,fun e=>by cases e⟩,fun n e=>by cases e⟩
 rw[if_neg hr,if_neg hr,decide_eq_false hr];exact⟨rfl,⟨rfl,rfl,rfl,fun _=>rfl⟩,fun n e=>by cases e⟩
 rw[if_neg hs,if_neg hs]
 by_cases hl:0<n.lv
 rw[if_pos hl];exact⟨rfl,⟨rfl,rfl,rfl,fun _=>rfl⟩,fun n e=>by cases e⟩
 rw[if_neg hl];exact⟨rfl,⟨rfl,rfl,rfl,fun _=>rfl⟩,fun n e=>rfl⟩
theorem FN{w w':WkT}(n:NoD)(h:ov w w'):ov (wkL w n) (rwL w' n):=by
 obtain⟨h1,h2,h3,h4⟩:=h
 refine⟨h1,?_,rfl,fun e=>?_⟩
 show (if n.high.size=0 then w'.fm else n.high)=if n.high.size=0 then w.fm else n.high
 rw[h2]
 have e2:decide (n.right<0)=false:=e
 show (if n.right<0 then w'.pos else n.right)=n.right
 rw[if_neg (of_decide_eq_false e2)]
def rrG(ps:List PgS)(x:ByteArray):Nat->WkT->List EdT×Bool
 |0,_=>([],false)
 |k+1,w=>match rwN ps w with
  |(_,.off)=>([],false)
  |(w',.on)=>rrG ps x k w'
  |(_,.at n)=>(ba w.pos (bC x n.es),decide ((0:Int)<((bC x n.es).length:Int)))
theorem EP{ps:List PgS}{x:ByteArray}{k:Nat}{w w':WkT}(h:rwN ps w=(w',.on)):rrG ps x (k+1) w=rrG ps x k w':=by rw[rrG,h]
theorem AG{ps:List PgS}{x:ByteArray}{k:Nat}{w w':WkT}(h:rwN ps w=(w',.off)):rrG ps x k w=([],false):=by
 cases k with
 |zero=>rfl
 |succ k=>rw[rrG,h]
theorem EW{ps:List PgS}{x:ByteArray}{k:Nat}{w w':WkT}{n:NoD}(h:rwN ps w=(w',.at n)):rrG ps x (k+1) w=(ba w.pos (bC x n.es),decide ((0:Int)<((bC x n.es).length:Int))):=by rw[rrG,h]
theorem AM{ps:List PgS}{x:ByteArray}:∀(k:Nat){w w':WkT},ov w w'->rrG ps x k w'=rmG ps x k w
 |0,_,_,_=>rfl
 |k+1,w,w',h=>by
  obtain⟨h1,h2,h3⟩:=BJ (ps:=ps) h
  rcases hR:wkN ps w with ⟨w1,_|_|n⟩<;>rcases hR':rwN ps w' with ⟨w2,_|_|n'⟩<;>rw[hR,hR'] at h1 h2<;>dsimp only at h1 h2<;>(first|cases h1|skip)
  rw[AG hR',rL hR]
  rw[EP hR',q9 hR];exact AM k h2
  rw[EW hR',qZ hR,h3 n (by rw[hR])]
theorem KP(ps:List PgS)(root:Int)(x:ByteArray):rmF ps root x=rrG ps x 1000 ⟨root,0,x,false⟩:=(AM 1000 (ov.refl _)).symm
theorem Hw{ps:List PgS}{pos st:Int}{fm:ByteArray}{fin:Bool}{nd:NoD}{w1:WkT}(h:rwN ps ⟨pos,st,fm,fin⟩=(w1,.at nd)):av ps pos=some nd/\w1=⟨pos,st+1,fm,false⟩:=by
 by_cases h0:fin=true\/1000<=st+1
 rw[og h0] at h;cases h
 rcases hn:av ps pos with _|n
 rw[pN hn] at h;cases h
 rw[iJ h0 hn] at h
 split at h
 split at h<;>cases h
 split at h<;>cases h
 exact⟨rfl,rfl⟩
theorem HH{ps:List PgS}{w w':WkT}(h:rwN ps w=(w',.on)):w.st+1<1000/\w'.st=w.st+1/\w'.fm=w.fm:=by
 obtain⟨pos,st,fm,fin⟩:=w
 by_cases h0:fin=true\/1000<=st+1
 rw[og h0] at h;cases h
 rcases hn:av ps pos with _|n
 rw[pN hn] at h;cases h
 rw[iJ h0 hn] at h
 have h1:st+1<1000:=by omega
 split at h
 split at h<;>cases h
 exact⟨h1,rfl,rfl⟩
 split at h<;>cases h
 exact⟨h1,rfl,rfl⟩
theorem GV{x:ByteArray}{l:List EnD}{i:Nat}(h:i<l.length)(hq:((l.getD i en0).1.toList==x.toList)=false):bC x (l.take (i+1))=bC x (l.take i):=by
 rw[bC,lJ h,List.filter_append,List.filter_cons,hq];simp[bC]
theorem Eh{x:ByteArray}{l:List EnD}{i:Nat}(h:i<l.length)(hq:((l.getD i en0).1.toList==x.toList)=true):bC x (l.take (i+1))=bC x (l.take i)++[l.getD i en0]:=by
 rw[bC,lJ h,List.filter_append,List.filter_cons,hq];simp[bC]
theorem zF(pg:Int)(l:List EnD)(e:EnD):ba pg (l++[e])=ba pg l++[(pg,(e.2.1:Int),ByteArray.empty)]:=by rw[ba,List.map_append];rfl
def vQ(r:List EdT×Bool)(w:World)(e:Ending)(w':World):Prop:=∃A c,e= .returned (.agg #[.slice A r.1.length c,.bool r.2])/\St w [] [eO 67 3 (.slice A r.1.length c) r.1.length (r.1.flatMap edC)] w'
def wR(ty:Nat)(cs:Array Value)(w:World)(e:Ending)(w':World):Prop:=∃b,e= .returned (vp b)/\St w [] [eB b ty cs] w'
theorem sb{b:Nat}{pos:Int}{R R':WkT×WkR}{f:FuncId}{args:Array Value}{w:World}(hR:R=R')(hc:Calls Tryz.prog f args w (r8 b pos R w)):Calls Tryz.prog f args w (r8 b pos R' w):=hR ▸ hc
theorem GW(root:Int)(x:ByteArray)(w:World):
  Calls Tryz.prog 36 #[.int .i64 root,.string x] w (wR 157 (wkC ⟨root,0,x,false⟩) w):=by
 go_enter Tryz.func36,Tryz.ntmps36
 have ar:=St.start w
 refine wp_seq (sqr (sqp [.k 4 (.pointer none)] ?_))
 refine aa (wp_seq (sqr (sqp [.m 5 0,.m 6 1,.k 7 (.agg #[vi root,vi 0,.string x,.bool false])] ?_)))
 refine bZ #[vi root,vi 0,.string x,.bool false] ar fun Nf W5 bw=>?_
 refine sqp [.m 4 8] ?_
 refine aa (wp_ret ?_)
 refine bpr (vp Nf) (ai Tryz.results36 rpt) ?_
 exact⟨_,rfl,bw.pick [0] (by decide) rfl⟩
theorem x3(bk:Nat)(root:Int)(key:ByteArray)(pg sl:Int)(ps:List PgS)(w:World)(hB:fZ w bk ps)(hok:OkS ps)(hk:key.size<=800000):
  Calls Tryz.prog 12 #[.pointer (some ⟨bk,0,none⟩),.int .i64 root,.string key,.agg #[.int .i64 pg,.int .i64 sl]] w (vQ (rmF ps root (bz key pg sl)) w):=by
 go_enter Tryz.func12,Tryz.ntmps12
 have ar:=St.start w
 refine wp_seq (sqr ?_)
 refine bZ #[vi pg,vi sl] ar fun Ez W1 aE=>?_
 refine bF #[.slice none 0 0,.bool false] aE fun JQ W2 aN=>?_
 refine aa (wp_seq (sqr (sqp [.m 15 2] ?_)))
 refine dz 0 2 aN ?_
 refine sqk (.string ((bz key pg sl))) aN (fun cx=>⟨_,nk key pg sl _ (by omega),(aI (cx.ou 15) (cx.ou 16))⟩) fun W5 bw=>?_
 refine sqp [.m 9 17] ?_
 refine aa (wp_seq (sqr (sqp [.m 18 1,.m 19 9] ?_)))
 refine vF (fun dX=>vp dX) (fun dX=>eB dX 157 #[vi root,vi 0,.string ((bz key pg sl)),.bool false]) bw (fun cx=>⟨_,(GW root (bz key pg sl) _).mono (by rintro e W1 ⟨B4,rfl,aM⟩;exact⟨_,rfl,aM⟩),(aI (cx.ou 18) (cx.ou 19))⟩) fun dX W9 be=>?_
 refine sqp [.m 10 20] ?_
 refine aa (wp_seq (wp_seq (sqr (sqp [.k 11 (vi 0)] ?_))))
 refine aa (wp_block ?_)
 obtain⟨x,oP⟩:∃z,(bz key pg sl)=z:=⟨_,rfl⟩
 rw[oP] at be |-
 have hxz:x.size<=900000:=by rw[<-oP,dx];omega
 refine aL (fun t_ mz az W=>∃i:Nat,∃wk:WkT,i<=1000/\wk.st=i/\rmF ps root x=rrG ps x (1000-i) wk/\wk.fm.size<=900000/\mz=1000-i/\az=⟨(ovr (jv az) [(11,11,0,[vi ((i:Int))]),(0,12,3,[]),(6,21,45,[])] t_).toArray,[]⟩/\St w [] [eB Ez 33 #[vi pg,vi sl],eB JQ 36 #[.slice none 0 0,.bool false],eB dX 157 #[vi wk.pos,vi wk.st,.string wk.fm,.bool wk.fin]] W) (1000-0) ?_ ?_
 exact⟨0,⟨root,0,x,false⟩,by omega,rfl,KP _ _ _,hxz,rfl,(by kernel_rfl),be.pk [0,1,2]⟩
 rintro Rq a12 mH ⟨i,wk,hi,aP,hrun,hwf,rfl,hj_,bU⟩
 refine ovz hj_ fun QS=>?_
 refine wp_seq (wp_seq (sqr (sqp [.m 21 11,.k 22 (.bool (decide ((i:Int)<1000)))] ?_)))
 refine aa (wds (fun cH dB=>?_) fun cH dB=>?_)
 refine wp_skip (aa (wp_seq (wp_block (wp_seq ?_))))
 rcases hR:rwN ps wk with ⟨w1,_|_|nd⟩
 refine sqr (sqp [.m 25 10,.m 26 0] ?_)
 refine jh (.agg #[vi ((-1)),.slice none 0 0,.slice none 0 0,.bool false,.bool false,.bool false,vi 0,vi 0,.string ByteArray.empty,.slice none 0 0,.slice none 0 0,.slice none 0 0,.bool false]) (eB dX 157 #[vi w1.pos,vi w1.st,.string w1.fm,.bool w1.fin]) 2 bU (by
   refine svA fun f b W X cx=>?_
   refine aC.call (aB (args:=#[vp dX,vp bk]) rfl cx.sees rfl (by kernel_rfl) (aI (cx.ou 25) (cx.ou 26))) ?_
   refine(sb hR (iM _ bk wk.pos wk.st wk.fm wk.fin ps _ (cx.bi 2 rfl) (fun W hW=>hB.ext (CtxV.joinB cx (cx.init 2 _ rfl) rfl hW).to_ext) hok (by omega) (by omega))).mono ?_
   rintro e W1 ⟨rfl,aM⟩
   refine⟨_,rfl,bJ (E:=eB dX 157 #[vi wk.pos,vi wk.st,.string wk.fm,.bool wk.fin]) [eB dX 157 #[vi w1.pos,vi w1.st,.string w1.fm,.bool w1.fin]] (cx.init 2 _ rfl) rfl rfl aM (fun d g X' hs hb hv hN=>?_)⟩
   have aW:=(hv 27 rfl).1;have aG:=(hv 27 rfl).2
   exact⟨aW.trans rfl,(List.cons.inj hN).1⟩) fun qi b5=>?_
 refine bF #[vi 0,.slice none 0 0,.slice none 0 0,.bool false,.bool false,.bool false,vi 0,vi 0,.string ByteArray.empty,.slice none 0 0,.slice none 0 0,.slice none 0 0,.bool false] b5 fun JR w5 cU=>?_
 refine aD (n:=13) 3 #[vi ((-1)),.slice none 0 0,.slice none 0 0,.bool false,.bool false,.bool false,vi 0,vi 0,.string ByteArray.empty,.slice none 0 0,.slice none 0 0,.slice none 0 0,.bool false] cU fun qj cb=>?_
 refine aa (wp_seq (wp_seq (sqr (sqp [.k 28 (.pointer (some ⟨JR,3,none⟩))] ?_))))
 refine am 3 cb ?_
 refine sqp [.k 30 (.bool true)] ?_
 refine aa (wct rfl (wp_seq (sqr (sqp [.k 31 (.agg #[.slice none 0 0,.bool false])] ?_))))
 refine aD (n:=2) 1 #[.slice none 0 0,.bool false] cb fun Ch ej=>?_
 refine aa (wp_ret (af (aq (af (af (aq (af ?_)))))))
 refine bpr (.agg #[.slice none 0 0,.bool false]) (aJ (n:=2) Tryz.results12 rfl (by kernel_rfl) (by kernel_rfl) (ej.blk 1 rfl) rfl) ?_
 have hn26:=bT ej 67 3
 simp only[List.cons_append,List.nil_append] at hn26
 rw[hrun,AG hR]
 exact⟨_,_,rfl,hn26.pick [4] (by decide) rfl⟩
 have hon:=HH hR
 refine sqr (sqp [.m 25 10,.m 26 0] ?_)
 refine jh (.agg #[vi ((-1)),.slice none 0 0,.slice none 0 0,.bool true,.bool false,.bool false,vi 0,vi 0,.string ByteArray.empty,.slice none 0 0,.slice none 0 0,.slice none 0 0,.bool false]) (eB dX 157 #[vi w1.pos,vi w1.st,.string w1.fm,.bool w1.fin]) 2 bU (by
   refine svA fun f b W X cx=>?_
   refine aC.call (aB (args:=#[vp dX,vp bk]) rfl cx.sees rfl (by kernel_rfl) (aI (cx.ou 25) (cx.ou 26))) ?_
   refine(sb hR (iM _ bk wk.pos wk.st wk.fm wk.fin ps _ (cx.bi 2 rfl) (fun W hW=>hB.ext (CtxV.joinB cx (cx.init 2 _ rfl) rfl hW).to_ext) hok (by omega) (by omega))).mono ?_
   rintro e W1 ⟨rfl,aM⟩
   refine⟨_,rfl,bJ (E:=eB dX 157 #[vi wk.pos,vi wk.st,.string wk.fm,.bool wk.fin]) [eB dX 157 #[vi w1.pos,vi w1.st,.string w1.fm,.bool w1.fin]] (cx.init 2 _ rfl) rfl rfl aM (fun d g X' hs hb hv hN=>?_)⟩
   have aW:=(hv 27 rfl).1;have aG:=(hv 27 rfl).2
   exact⟨aW.trans rfl,(List.cons.inj hN).1⟩) fun Ci dO=>?_
 refine bF #[vi 0,.slice none 0 0,.slice none 0 0,.bool false,.bool false,.bool false,vi 0,vi 0,.string ByteArray.empty,.slice none 0 0,.slice none 0 0,.slice none 0 0,.bool false] dO fun CH LZ l7=>?_
 refine aD (n:=13) 3 #[vi ((-1)),.slice none 0 0,.slice none 0 0,.bool true,.bool false,.bool false,vi 0,vi 0,.string ByteArray.empty,.slice none 0 0,.slice none 0 0,.slice none 0 0,.bool false] l7 fun Fi gJ=>?_
 refine aa (wp_seq (wp_seq (sqr (sqp [.k 28 (.pointer (some ⟨CH,3,none⟩))] ?_))))
 refine am 3 gJ ?_
 refine sqp [.k 30 (.bool false)] ?_
 refine aa (wcf rfl (wp_skip (aa (wp_seq (sqr (sqp [.k 32 (.pointer (some ⟨CH,12,none⟩))] ?_))))))
 refine am 3 gJ ?_
 refine aa (wcf rfl (wp_skip (ax (aa (sqr (sqp [.m 23 11,sI 24 ((i:Int)+1) (by omega),.m 11 24] ?_))))))
 refine aa ?_
 refine⟨1000-((i+1)),by omega,?_⟩
 exact⟨(i+1),w1,by omega,by omega,by rw[hrun,show 1000-i=1000-(i+1)+1 by omega,EP hR],by rw[hon.2.2];exact hwf,rfl,(by kernel_rfl),gJ.pk [0,1,2]⟩
 have hat:=Hw (pos:=wk.pos) (st:=wk.st) (fm:=wk.fm) (fin:=wk.fin) hR
 have hN0:=cO hok hat.1
 have hN1:=hN0.len
 refine ak [0,0,3,0,15] [[],[],[2],[],[9]] [[],[],[3,4,5,6,7,8],[9],[10]] [[],[],[2],[],[9]] [.k 25 (vp dX),.k 26 (vp bk),.a 27,.a 12,.n] (fun ix d b X=>match ix with|0|1=>True|2=>d 27= .agg #[vi wk.pos,.slice (sA (tg (b 27) 1)) ((au w1.fm nd.es).length) (sC (tg (b 27) 1)),.slice (sA (tg (b 27) 2)) ((au w1.fm nd.es).length) (sC (tg (b 27) 2)),.bool true,.bool true,.bool nd.dead,vi nd.lv,vi nd.right,.string nd.high,.slice (sA (tg (b 27) 9)) nd.es.length (sC (tg (b 27) 9)),.slice (sA (tg (b 27) 10)) nd.es.length (sC (tg (b 27) 10)),.slice (sA (tg (b 27) 11)) nd.es.length (sC (tg (b 27) 11)),.bool true]/\X 3=eB dX 157 #[vi ((rwL w1 nd).pos),vi ((rwL w1 nd).st),.string ((rwL w1 nd).fm),.bool ((rwL w1 nd).fin)]/\X 4=eO 9 1 (.slice (sA (tg (b 27) 1)) ((au w1.fm nd.es).length) (sC (tg (b 27) 1))) ((au w1.fm nd.es).length) ((au w1.fm nd.es).map tqS)/\X 5=eO 33 2 (.slice (sA (tg (b 27) 2)) ((au w1.fm nd.es).length) (sC (tg (b 27) 2))) ((au w1.fm nd.es).length) ((au w1.fm nd.es).flatMap tqR)/\X 6=eO 9 1 (.slice (sA (tg (b 27) 9)) nd.es.length (sC (tg (b 27) 9))) nd.es.length (nd.es.map stv)/\X 7=eO 3 1 (.slice (sA (tg (b 27) 10)) nd.es.length (sC (tg (b 27) 10))) nd.es.length (nd.es.map slv)/\X 8=eO 3 1 (.slice (sA (tg (b 27) 11)) nd.es.length (sC (tg (b 27) 11))) nd.es.length (nd.es.map kdv)|3=>d 12=vp (pb (b 12))/\X 9=eB (pb (b 12)) 97 #[vi 0,.slice none 0 0,.slice none 0 0,.bool false,.bool false,.bool false,vi 0,vi 0,.string ByteArray.empty,.slice none 0 0,.slice none 0 0,.slice none 0 0,.bool false]|4=>X 10=eB (pb (b 12)) 97 #[vi wk.pos,.slice (sA (tg (b 27) 1)) ((au w1.fm nd.es).length) (sC (tg (b 27) 1)),.slice (sA (tg (b 27) 2)) ((au w1.fm nd.es).length) (sC (tg (b 27) 2)),.bool true,.bool true,.bool nd.dead,vi nd.lv,vi nd.right,.string nd.high,.slice (sA (tg (b 27) 9)) nd.es.length (sC (tg (b 27) 9)),.slice (sA (tg (b 27) 10)) nd.es.length (sC (tg (b 27) 10)),.slice (sA (tg (b 27) 11)) nd.es.length (sC (tg (b 27) 11)),.bool true]|_=>True) [0,1,3,4,5,6,7,8,10] [2,3,4] [(12,3,1,13),(12,0,3,15)] bU ?_ ?_ ?_
 exact fun ix _ _ _ _ _ _ hs hb hx h=>match ix,h with
 |2,h=>by dsimp only;rw[<-hs 27 rfl,<-hb 27 rfl,<-hx 3 rfl,<-hx 4 rfl,<-hx 5 rfl,<-hx 6 rfl,<-hx 7 rfl,<-hx 8 rfl];exact h
 |3,h=>by dsimp only;rw[<-hs 12 rfl,<-hb 12 rfl,<-hx 9 rfl];exact h
 |4,h=>by dsimp only;rw[<-hb 12 rfl,<-hb 27 rfl,<-hx 10 rfl];exact h
 |0,_|1,_|_+5,_=>trivial
 refine⟨?_,?_,?_,trivial⟩
 refine svA fun f b W X cx=>?_
 refine aC.call (aB (args:=#[vp dX,vp bk]) rfl cx.sees rfl (by kernel_rfl) (aI (cx.an 0) (cx.an 1))) ?_
 refine(sb hR (iM _ bk wk.pos wk.st wk.fm wk.fin ps _ (cx.bi 2 rfl) (fun W hW=>hB.ext (CtxV.joinB cx (cx.init 2 _ rfl) rfl hW).to_ext) hok (by omega) (by omega))).mono ?_
 rintro e W1 ⟨KA4,kc4,RA4,rc4,EA4,ec4,SA4,sc4,DA4,dc4,rfl,aM⟩
 refine⟨_,rfl,bJ (E:=eB dX 157 #[vi wk.pos,vi wk.st,.string wk.fm,.bool wk.fin]) [eB dX 157 #[vi ((rwL w1 nd).pos),vi ((rwL w1 nd).st),.string ((rwL w1 nd).fm),.bool ((rwL w1 nd).fin)],eO 9 1 (.slice KA4 (au w1.fm nd.es).length kc4) (au w1.fm nd.es).length ((au w1.fm nd.es).map tqS),eO 33 2 (.slice RA4 (au w1.fm nd.es).length rc4) (au w1.fm nd.es).length ((au w1.fm nd.es).flatMap tqR),eO 9 1 (.slice EA4 nd.es.length ec4) nd.es.length (nd.es.map stv),eO 3 1 (.slice SA4 nd.es.length sc4) nd.es.length (nd.es.map slv),eO 3 1 (.slice DA4 nd.es.length dc4) nd.es.length (nd.es.map kdv)] (cx.init 2 _ rfl) rfl rfl aM (fun d g X' hs hb hv hN=>?_)⟩
 have aW:=(hv 27 rfl).1;have aG:=(hv 27 rfl).2
 exact⟨aW.trans (by rw[aG];rfl),(List.cons.inj hN).1,(by rw[aG];exact(List.cons.inj (List.cons.inj hN).2).1),(by rw[aG];exact(List.cons.inj (List.cons.inj (List.cons.inj hN).2).2).1),(by rw[aG];exact(List.cons.inj (List.cons.inj (List.cons.inj (List.cons.inj hN).2).2).2).1),(by rw[aG];exact(List.cons.inj (List.cons.inj (List.cons.inj (List.cons.inj (List.cons.inj hN).2).2).2).2).1),(by rw[aG];exact(List.cons.inj (List.cons.inj (List.cons.inj (List.cons.inj (List.cons.inj (List.cons.inj hN).2).2).2).2).2).1)⟩
 refine svA fun f b W X cx=>?_
 exact aX (cs:=#[vi 0,.slice none 0 0,.slice none 0 0,.bool false,.bool false,.bool false,vi 0,vi 0,.string ByteArray.empty,.slice none 0 0,.slice none 0 0,.slice none 0 0,.bool false]) rfl (by kernel_rfl) rfl rfl (fun _ _ _ _ _=> .intro)
 refine svA fun f b W X cx=>?_
 exact aw (n:=13) rfl (dTn (cx.an 3)).1 (dTn (cx.an 2)).1 (by kernel_rfl) (by kernel_rfl) (by kernel_rfl) cx (dTn (cx.an 3)).2 rfl (nle rfl) (by kernel_rfl) rfl rfl rfl (fun d g X' hs hb hx=>by rw[hb 12,hb 27];exact hx)
 intro d b X Cd hD eL fr ag
 simp only[exq 3 ((dTn (hD 2 lq)).2.1),exq 4 ((dTn (hD 2 lq)).2.2.1),exq 5 ((dTn (hD 2 lq)).2.2.2.1),exq 6 ((dTn (hD 2 lq)).2.2.2.2.1),exq 7 ((dTn (hD 2 lq)).2.2.2.2.2.1),exq 8 ((dTn (hD 2 lq)).2.2.2.2.2.2),exq 10 ((dTn (hD 4 lq)))] at eL
 simp only[ed 27 ((dTn (hD 2 lq)).1),ed 12 ((dTn (hD 3 lq)).1)] at ag
 generalize sA (tg (b 27) 1)=GA27_40,sC (tg (b 27) 1)=cGA27_40,sA (tg (b 27) 2)=HA27_40,sC (tg (b 27) 2)=cHA27_40,sA (tg (b 27) 9)=EA27_40,sC (tg (b 27) 9)=cEA27_40,sA (tg (b 27) 10)=SA27_40,sC (tg (b 27) 10)=cSA27_40,sA (tg (b 27) 11)=DA27_40,sC (tg (b 27) 11)=cDA27_40,pb (b 12)=g8 at eL ag
 clear hD;subst ag;clear d b X
 refine aa (wp_seq (wp_seq (sqr (sqp [.k 28 (.pointer (some ⟨g8,3,none⟩))] ?_))))
 refine am 8 eL ?_
 refine sqp [.k 30 (.bool false)] ?_
 refine aa (wcf rfl (wp_skip (aa (wp_seq (sqr (sqp [.k 32 (.pointer (some ⟨g8,12,none⟩))] ?_))))))
 refine am 8 eL ?_
 refine aa (wct rfl (wp_seq (sqr (bF #[.slice none 0 0,.bool false] eL fun o7 LN fA=>?_))))
 refine aa (wp_seq (wp_seq (sqr (sqp [.k 14 (vi 0)] ?_))))
 refine aa (wp_block ?_)
 have hn48:=bT fA 67 3
 simp only[List.cons_append,List.nil_append] at hn48
 refine aL (fun t_ mz az W=>∃j:Nat,∃nn:Nat,∃O:List EdT,∃OA:Option Addr,∃OC:Nat,∃bb:Bool,j<=nd.es.length/\O=ba wk.pos (bC x (nd.es.take j))/\O.length=nn/\nn<=j/\bb=decide ((0:Int)<(O.length:Int))/\mz=nd.es.length-j/\az=⟨(ovr (jv az) [(14,14,0,[vi ((j:Int))]),(19,34,31,[])] t_).toArray,[]⟩/\St w [] [eB Ez 33 #[vi pg,vi sl],eB JQ 36 #[.slice none 0 0,.bool false],eB dX 157 #[vi ((rwL w1 nd).pos),vi ((rwL w1 nd).st),.string ((rwL w1 nd).fm),.bool ((rwL w1 nd).fin)],eO 9 1 (.slice GA27_40 ((au w1.fm nd.es).length) cGA27_40) ((au w1.fm nd.es).length) ((au w1.fm nd.es).map tqS),eO 33 2 (.slice HA27_40 ((au w1.fm nd.es).length) cHA27_40) ((au w1.fm nd.es).length) ((au w1.fm nd.es).flatMap tqR),eO 9 1 (.slice EA27_40 nd.es.length cEA27_40) nd.es.length (nd.es.map stv),eO 3 1 (.slice SA27_40 nd.es.length cSA27_40) nd.es.length (nd.es.map slv),eO 3 1 (.slice DA27_40 nd.es.length cDA27_40) nd.es.length (nd.es.map kdv),eB g8 97 #[vi wk.pos,.slice GA27_40 ((au w1.fm nd.es).length) cGA27_40,.slice HA27_40 ((au w1.fm nd.es).length) cHA27_40,.bool true,.bool true,.bool nd.dead,vi nd.lv,vi nd.right,.string nd.high,.slice EA27_40 nd.es.length cEA27_40,.slice SA27_40 nd.es.length cSA27_40,.slice DA27_40 nd.es.length cDA27_40,.bool true],eB o7 36 #[.slice OA nn OC,.bool bb],eO 67 3 (.slice OA nn OC) nn (O.flatMap edC)] W) (nd.es.length-0) ?_ ?_
 exact⟨0,0,[],none,0,false,Nat.zero_le _,rfl,rfl,Nat.le_refl _,rfl,rfl,(by kernel_rfl),hn48.pk [0,1,2,3,4,5,6,7,8,9,10]⟩
 rintro Rr a49 JS ⟨j,nn,O,OA,OC,bb,hj,hO,hOl,hnn,hbb,rfl,hj_,eR⟩
 refine ovz hj_ fun QT=>?_
 refine wp_seq (wp_seq (sqr (sqp [.m 34 14,.k 35 (.pointer (some ⟨g8,4,none⟩)),.k 36 (.pointer (some ⟨g8,9,none⟩))] ?_)))
 refine am 8 eR ?_
 refine sqp [.k 38 (vi ((nd.es.length:Int))),.k 39 (.bool (decide ((j:Int)<(nd.es.length:Int))))] ?_
 refine aa (wds (fun lm p7=>?_) fun lm p7=>?_)
 refine wp_skip (aa (wp_seq (wp_block (wp_seq (sqr (sqp [.k 42 (.pointer (some ⟨g8,4,none⟩)),.k 43 (.pointer (some ⟨g8,9,none⟩))] ?_))))))
 refine am 8 eR ?_
 refine sqp [.m 45 14] ?_
 refine sql (.pointer (some ((ad EA27_40).add j))) eR (fun cx=>ay (e:=9) (m:=j) rfl (by kernel_rfl) (by kernel_rfl) (cx.ou 44) (cx.ou 45) (by omega) (by omega) (At.of_own (cx.ri 5 rfl)) (by simp)) ?_
 refine sql (.string ((nd.es.getD j en0).1)) eR (fun cx=>ae rfl (by kernel_rfl) (cx.ou 46) (At.cellAd (At.of_own (cx.ri 5 rfl)) (eD (by omega)))) ?_
 refine sqp [.m 48 9,.k 49 (.bool (((nd.es.getD j en0).1).toList==x.toList))] ?_
 refine aa (wbs (fun EC=>?_) fun EC=>?_)
 refine wp_seq (sqr (sqp [.k 50 (.pointer (some ⟨o7,1,none⟩))] ?_))
 refine aD (n:=1) 9 #[.slice OA nn OC,.bool true] eR fun OT Am=>?_
 refine aa (ak [0,1,0,4,0,16,48,0,240,496,1020,2044,4095,8191,16383] [[],[9],[],[8],[],[],[8],[],[6],[6],[],[],[11,10],[],[9]] [[],[],[],[],[],[],[],[],[],[],[],[11],[12],[],[13]] [[],[],[],[],[],[],[],[],[],[],[],[],[10],[],[9]] [.k 51 (vp o7),.c 52 (.slice OA nn OC),.k 53 (vp g8),.c 54 (vi wk.pos),.k 55 (.pointer (some ⟨g8,4,none⟩)),.k 56 (.pointer (some ⟨g8,10,none⟩)),.c 57 (.slice SA27_40 nd.es.length cSA27_40),.k 58 (vi ((j:Int))),.c 59 (.pointer (some ((ad SA27_40).add j))),.c 60 (vi (((nd.es.getD j en0).2.1:Int))),.k 61 (.agg #[vi wk.pos,vi (((nd.es.getD j en0).2.1:Int)),.string ByteArray.empty]),.a 62,.a 63,.k 64 (vp o7),.n] (fun ix d b X=>match ix with|0|1|2|3|4|5|6|7|8|9|10=>True|11=>d 62= .slice ((some ⟨(pb' (b 62)),0,none⟩)) 1 1/\X 11=eO 67 3 (.slice ((some ⟨(pb' (b 62)),0,none⟩)) 1 1) 1 (edC (wk.pos,((nd.es.getD j en0).2.1:Int),ByteArray.empty))|12=>d 63= .slice (sA (b 63)) (nn+1) (sC (b 63))/\X 12=eO 67 3 (.slice (sA (b 63)) (nn+1) (sC (b 63))) (nn+1) ((O++[(wk.pos,((nd.es.getD j en0).2.1:Int),ByteArray.empty)]).flatMap edC)|13=>True|14=>X 13=eB o7 36 #[.slice (sA (b 63)) (nn+1) (sC (b 63)),.bool true]|_=>True) [0,1,2,3,4,5,6,7,8,11,12,13] [1,3,6,8,9,11,12,14] [(51,0,14,65)] Am ?_ ?_ ?_)
 exact fun ix _ _ _ _ _ _ hs hb hx h=>match ix,h with
 |11,h=>by dsimp only;rw[<-hs 62 rfl,<-hb 62 rfl,<-hx 11 rfl];exact h
 |12,h=>by dsimp only;rw[<-hs 63 rfl,<-hb 63 rfl,<-hx 12 rfl];exact h
 |14,h=>by dsimp only;rw[<-hb 63 rfl,<-hx 13 rfl];exact h
 |0,_|1,_|2,_|3,_|4,_|5,_|6,_|7,_|8,_|9,_|10,_|13,_|_+15,_=>trivial
 refine⟨?_,?_,?_,?_,?_,?_,?_,?_,trivial⟩
 exact xs4 rfl id fun cx=>ae rfl (by kernel_rfl) (cx.an 0) ((cx.bi 9 rfl).cell 0)
 exact xs4 rfl id fun cx=>ae rfl (by kernel_rfl) (cx.an 2) ((cx.bi 8 rfl).cell 0)
 exact xs4 rfl id fun cx=>ae rfl (by kernel_rfl) (cx.an 5) ((cx.bi 8 rfl).cell 10)
 exact xs4 rfl id fun cx=>ay (e:=3) (m:=j) rfl (by kernel_rfl) (by kernel_rfl) (cx.an 6) (cx.an 7) (by omega) (by omega) (At.of_own (cx.ri 6 rfl)) (by simp)
 exact xs4 rfl id fun cx=>ae rfl (by kernel_rfl) (cx.an 8) (At.cellAd (At.of_own (cx.ri 6 rfl)) (oo (by omega)))
 refine svA fun f b W X cx=>?_
 have ED:f (.tmp 61)= .agg #[vi wk.pos,vi (((nd.es.getD j en0).2.1:Int)),.string ByteArray.empty]:=(cx.an 10)
 exact bS (e:=67) (sz:=3) (xs:=[vi wk.pos,vi (((nd.es.getD j en0).2.1:Int)),.string ByteArray.empty]) rfl (by simp[go_sem,ED]) rfl (by decide) rfl rfl (fun _ _ _ _ _=> .intro)
 refine svA fun f b W X cx=>?_
 obtain⟨i0,hi0,hz0,hz1,hz2⟩:=info_parts Tryz.infoEdit
 refine bN (n:=nn) (m:=1) (nm:=nn+1) (sz:=3) (xs:=O.flatMap edC) (news:=edC (wk.pos,((nd.es.getD j en0).2.1:Int),ByteArray.empty)) (xs':=(O++[(wk.pos,((nd.es.getD j en0).2.1:Int),ByteArray.empty)]).flatMap edC) rfl (ty:=28) rfl (by kernel_rfl) hi0 hz0 hz1 hz2 rfl (by decide) (cx.an 1) cx (cx.init 10 _ rfl) rfl (dTn (cx.an 11)).1 (by rfl) (At.of_ownN (cx.row (dTn (cx.an 11)).2 rfl)) (by simp[edC,Value.oneCell']) (by simp only[maxLen];omega) (by omega) rfl rfl rfl (by omega) (dw _ _) (fun d g X' hs hb hv hx=>?_)
 exact⟨hv,hx⟩
 refine svA fun f b W X cx=>?_
 exact aw (n:=1) rfl (cx.an 13) (dTn (cx.an 12)).1 (by kernel_rfl) (by kernel_rfl) (by kernel_rfl) cx (cx.init 9 _ rfl) rfl (nle rfl) (by kernel_rfl) rfl rfl rfl (fun d g X' hs hb hx=>by rw[hb 63];exact hx)
 intro d b X LU hD jb fr ag
 simp only[exq 11 ((dTn (hD 11 lq)).2),exq 12 ((dTn (hD 12 lq)).2),exq 13 ((dTn (hD 14 lq)))] at jb
 simp only[ed 62 ((dTn (hD 11 lq)).1),ed 63 ((dTn (hD 12 lq)).1)] at ag
 generalize pb' (b 62)=OU,sA (b 63)=JT,sC (b 63)=JU at jb ag
 clear hD;subst ag;clear d b X
 refine ax (aa (sqr (sqp [.m 40 14,sI 41 ((j:Int)+1) (by omega),.m 14 41] ?_)))
 refine aa ?_
 refine⟨nd.es.length-((j+1)),by omega,?_⟩
 exact⟨(j+1),(nn+1),(O++[(wk.pos,((nd.es.getD j en0).2.1:Int),ByteArray.empty)]),JT,JU,true,by omega,by rw[Eh (by omega) EC,zF,<-hO],by rw[List.length_append,hOl];rfl,by omega,by rw[List.length_append,hOl];exact(decide_eq_true (by simp only[List.length_cons,List.length_nil];omega)).symm,rfl,(by kernel_rfl),jb.pk [0,1,2,3,4,5,6,7,8,11,10]⟩
 refine wp_skip (ax (aa (sqr (sqp [.m 40 14,sI 41 ((j:Int)+1) (by omega),.m 14 41] ?_))))
 refine aa ?_
 refine⟨nd.es.length-((j+1)),by omega,?_⟩
 exact⟨(j+1),nn,O,OA,OC,bb,by omega,by rw[GV (by omega) EC];exact hO,hOl,by omega,hbb,rfl,(by kernel_rfl),eR.pk [0,1,2,3,4,5,6,7,8,9,10]⟩
 refine wp_exit (aj (aj (aO (aa (wp_seq ?_)))))
 have hfin:O=ba wk.pos (bC x nd.es):=by rw[hO,List.take_of_length_le (by omega)]
 subst hOl
 refine sqr ?_
 refine dz 9 2 eR ?_
 refine aD (n:=2) 1 #[.slice OA O.length OC,.bool bb] eR fun y3 dN=>?_
 refine aa (wp_ret (aq (af (af (aq (af ?_))))))
 refine bpr (.agg #[.slice OA O.length OC,.bool bb]) (aJ (n:=2) Tryz.results12 rfl (by kernel_rfl) (by kernel_rfl) (dN.blk 1 rfl) rfl) ?_
 have zZ:bb=decide ((0:Int)<((bC x nd.es).length:Int)):=by rw[hbb,hfin,qY]
 rw[hrun,show 1000-i=(999-i)+1 by omega,EW hR,<-zZ,<-hfin]
 exact⟨_,_,rfl,dN.pick [10] (by decide) rfl⟩
 refine wp_exit (aj (aj (aO (aa (wp_seq (sqr (sqp [.k 66 (.agg #[.slice none 0 0,.bool false])] ?_)))))))
 refine aD (n:=2) 1 #[.slice none 0 0,.bool false] bU fun E9 gF=>?_
 refine aa (wp_ret ?_)
 refine bpr (.agg #[.slice none 0 0,.bool false]) (aJ (n:=2) Tryz.results12 rfl (by kernel_rfl) (by kernel_rfl) (gF.blk 1 rfl) rfl) ?_
 have hn79:=bT gF 67 3
 simp only[List.cons_append,List.nil_append] at hn79
 rw[hrun,show 1000-i=0 by omega,rrG]
 exact⟨_,_,rfl,hn79.pick [3] (by decide) rfl⟩
end
section
open Go.RowKit
def nz(s:ByteArray):Bool:=decide (s.size≠0)
def cnt(l:List ByteArray):Nat:=l.tail.countP nz
theorem wH:nz ByteArray.empty=false:=rfl
theorem k9:∀(l:List ByteArray) (i:Nat),(bu i l).length=l.countP nz
 | [],_=>rfl
 |x::l,i=>by
  rw[bu]
  by_cases h:x.size=0
  rw[if_pos h,k9 l,List.countP_cons_of_neg (by simp[nz,h])]
  rw[if_neg h,List.length_cons,k9 l,List.countP_cons_of_pos (by simp[nz,h])]
theorem th:∀{l:List ByteArray}{k s:Nat}{y:ByteArray},(s,y)∈bu k l->k<=s/\l[s-k]? =some y/\y.size≠0
 | [],_,_,_,h=>nomatch h
 |x::l,k,s,y,h=>by
  rw[bu] at h
  have hr:(s,y)∈bu (k+1) l->k<=s/\(x::l)[s-k]? =some y/\y.size≠0:=fun h=>by
   obtain⟨h1,h2,h3⟩:=th h
   refine⟨by omega,?_,h3⟩
   rw[show s-k=(s-(k+1))+1 by omega,List.getElem?_cons_succ];exact h2
  by_cases hx:x.size=0
  rw[if_pos hx] at h;exact hr h
  rw[if_neg hx] at h
  rcases List.mem_cons.1 h with h|h
  cases h
  exact⟨Nat.le_refl _,by rw[Nat.sub_self];rfl,hx⟩
  exact hr h
theorem yt(r:Nat):(List.replicate r ByteArray.empty).countP nz=0:=by rw[List.countP_replicate,wH];rfl
theorem yH(l:List ByteArray)(r:Nat):cnt (l++List.replicate r ByteArray.empty)=cnt l:=by
 cases l with
 |nil=>
  cases r with
  |zero=>rfl
  |succ r=>rw[List.nil_append,List.replicate_succ];show (List.replicate r ByteArray.empty).countP nz=0;exact yt r
 |cons x l=>show (l++List.replicate r ByteArray.empty).countP nz=l.countP nz;rw[List.countP_append,yt];rfl
theorem yq{l:List ByteArray}{k:Nat}(x:ByteArray)(hk:k<l.length):cnt (l.set k x)=if k=0 then cnt l else cnt l-(if nz (l.getD k ByteArray.empty) then 1 else 0)+(if nz x then 1 else 0):=by
 cases l with
 |nil=>cases hk
 |cons y l=>
  cases k with
  |zero=>rfl
  |succ k=>
   rw[List.length_cons] at hk
   rw[List.set_cons_succ,if_neg (by omega)]
   show (l.set k x).countP nz= _
   rw[List.countP_set (by omega),List.getD_cons_succ,List.getD_eq_getElem?_getD,List.getElem?_eq_getElem (by omega)];rfl
theorem td(l:List ByteArray)(k:Nat):k<(l++List.replicate (k+1-l.length) ByteArray.empty).length:=by rw[List.length_append,List.length_replicate];omega
theorem CZ(l:List ByteArray)(k:Nat)(x:ByteArray):cnt (bO l k x)<=cnt l+(if 1<=k/\x.size≠0 then 1 else 0):=by
 rw[bO,yq x (td l k),yH]
 by_cases h0:k=0
 rw[if_pos h0];omega
 rw[if_neg h0]
 by_cases hx:x.size=0
 rw[show nz x=false by simp[nz,hx],if_neg (c:=1<=k/\x.size≠0) (by omega)];split<;>simp
 rw[show nz x=true by simp[nz,hx],if_pos (c:=1<=k/\x.size≠0) (by omega)];split<;>simp
theorem Gh{l:List ByteArray}{k:Nat}{y:ByteArray}(h1:1<=k)(hy:l[k]? =some y)(hz:y.size≠0):cnt (bO l k ByteArray.empty)+1<=cnt l:=by
 obtain⟨hk,rfl⟩:=List.getElem?_eq_some_iff.1 hy
 have hpos:0<cnt l:=by
  cases l with
  |nil=>cases hk
  |cons x l=>
   rw[List.length_cons] at hk
   refine List.countP_pos_iff.2 ⟨l[k-1]'(by omega),List.getElem_mem _,?_⟩
   obtain⟨k,rfl⟩:∃m,k=m+1:=⟨k-1,by omega⟩
   simpa[nz] using hz
 rw[bO,yq _ (td l k),yH,if_neg (by omega),wH,List.getD_eq_getElem?_getD,List.getElem?_append_left hk,hy,Option.getD_some,show nz l[k]=true by simp[nz,hz],if_pos rfl,if_neg (by decide)]
 omega
def cw(ps:List PgS)(i:Nat):Nat:=cnt (ps.getD i aT).2.2
theorem uA{ps:List PgS}{e:EdT}{i:Nat}(h:e.1≠(i:Int)):(bP ps e).getD i aT=ps.getD i aT:=by
 unfold bP
 split
 rename_i hok
 have hok:=of_decide_eq_true hok
 rw[List.getD_eq_getElem?_getD,List.getElem?_set_ne (by omega),<-List.getD_eq_getElem?_getD]
 rfl
theorem iG{i:Nat}:∀{L:List EdT}{ps:List PgS},(∀e∈L,e.1≠(i:Int))->(doB ps L).getD i aT=ps.getD i aT
 | [],_,_=>rfl
 |e::L,ps,h=>by
  show (doB (bP ps e) L).getD i aT= _
  rw[iG (L:=L) fun x hx=>h x (by simp[hx]),uA (h e (by simp))]
theorem j8{ps:List PgS}{e:EdT}{i:Nat}(hok:oH ps.length e=true)(h:e.1=(i:Int)):(bP ps e).getD i aT=edP (ps.getD i aT) e:=by
 have hb:=of_decide_eq_true hok
 rw[bP,if_pos hok,h,Int.toNat_natCast,List.getD_eq_getElem?_getD,List.getElem?_set_self (by omega)];rfl
theorem Fy{ps:List PgS}{e:EdT}(hok:oH ps.length e=false):bP ps e=ps:=by rw[bP,hok];rfl
theorem lK(ps:List PgS)(e:EdT)(i:Nat):cw (bP ps e) i<=cw ps i+(if e.1=(i:Int)/\1<=e.2.1/\e.2.2.size≠0 then 1 else 0):=by
 by_cases h:e.1=(i:Int)
 cases hok:oH ps.length e with
 |false=>rw[Fy hok];omega
 |true=>
  rw[cw,j8 hok h,edP]
  by_cases hs:e.2.1<0
  rw[if_pos hs];exact Nat.zero_le _
  rw[if_neg hs]
  refine Nat.le_trans (CZ _ _ _) ?_
  show cw ps i+ _<= _
  by_cases hc:1<=e.2.1/\e.2.2.size≠0
  rw[if_pos (c:=e.1=(i:Int)/\1<=e.2.1/\e.2.2.size≠0) ⟨h,hc⟩];split<;>omega
  rw[if_neg (c:=1<=e.2.1.toNat/\e.2.2.size≠0) (fun hh=>hc ⟨by omega,hh.2⟩)];omega
 rw[cw,uA h];exact Nat.le_add_right _ _
theorem ly{ps:List PgS}{e:EdT}{i:Nat}(h:¬(e.1=(i:Int)/\1<=e.2.1/\e.2.2.size≠0)):cw (bP ps e) i<=cw ps i:=by
 have:=lK ps e i
 rwa [if_neg h] at this
theorem iH{i:Nat}:∀{L:List EdT}{ps:List PgS},(∀e∈L,¬(e.1=(i:Int)/\1<=e.2.1/\e.2.2.size≠0))->cw (doB ps L) i<=cw ps i
 | [],_,_=>Nat.le_refl _
 |e::L,ps,h=>Nat.le_trans (iH (L:=L) (ps:=bP ps e) fun x hx=>h x (by simp[hx])) (ly (h e (by simp)))
theorem lz(pg:Int)(es:List EnD)(i:Nat):∀e∈ba pg es,¬(e.1=(i:Int)/\1<=e.2.1/\e.2.2.size≠0):=fun e he h=>by
 obtain⟨x,_,rfl⟩:=List.mem_map.1 he
 exact h.2.2 rfl
theorem yG{pg lv:Int}:∀{es:List EnD}{k:Nat},∀e∈dS pg lv k es,e.1=pg
 | [],_,e,h=>nomatch h
 |x::l,k,e,h=>by
  rw[dS] at h
  rcases List.mem_cons.1 h with rfl|h
  rfl
  exact yG e h
theorem ga{pg lv rt:Int}{hi:ByteArray}{es:List EnD}:∀e∈cD pg lv rt hi es,e.1=pg:=fun e he=>by
 rcases List.mem_append.1 he with h|h
 simp only[List.mem_cons,List.not_mem_nil,or_false] at h
 rcases h with rfl|rfl<;>rfl
 exact yG e h
theorem uI{pg lv:Int}{i:Nat}:∀{es:List EnD}{k:Nat}{ps:List PgS},cw (doB ps (dS pg lv k es)) i<=cw ps i+es.length
 | [],_,_=>Nat.le_refl _
 |x::l,k,ps=>by
  rw[dS]
  have h1:=uI (pg:=pg) (lv:=lv) (i:=i) (es:=l) (k:=k+1) (ps:=bP ps (pg,(k:Int),itB lv x.2.2 x.1))
  have h2:=lK ps (pg,(k:Int),itB lv x.2.2 x.1) i
  show cw (doB (bP ps _) _) i<= _
  rw[List.length_cons]
  split at h2<;>omega
theorem eA(ps:List PgS)(a b:List EdT):doB ps (a++b)=doB (doB ps a) b:=List.foldl_append
theorem Bz{ps:List PgS}{i:Nat}(h:ps.length<=i):cw ps i=0:=by
 rw[cw,List.getD_eq_getElem?_getD,List.getElem?_eq_none h];rfl
theorem qd(pg lv rt:Int)(hi:ByteArray)(es:List EnD)(ps:List PgS)(i:Nat):cw (doB ps (cD pg lv rt hi es)) i<=if pg=(i:Int) then es.length else cw ps i:=by
 by_cases h:pg=(i:Int)
 rw[if_pos h]
 by_cases hl:ps.length<=i
 rw[Bz (by rw[ct];exact hl)];exact Nat.zero_le _
 rw[cD,eA]
 refine Nat.le_trans uI ?_
 have h1:cw (bP ps (pg,-1,strOfNums [2])) i=0:=by
  rw[cw,j8 (decide_eq_true (by dsimp only;omega)) h];rfl
 have h2:=ly (ps:=bP ps (pg,-1,strOfNums [2])) (e:=(pg,0,hdB lv rt false hi)) (i:=i) (fun hh=>by have:=hh.2.1;dsimp only at this;omega)
 show cw (bP (bP ps (pg,-1,strOfNums [2])) (pg,0,hdB lv rt false hi)) i+es.length<= _
 omega
 rw[if_neg h,cw,iG fun e he=>by rw[ga e he];exact h];exact Nat.le_refl _
def C8(ps:List PgS):Prop:=∀i,cw ps i<=8
theorem C8.okc{ps:List PgS}(h:C8 ps):OkC ps:=fun p hp=>by
 obtain⟨i,hi,rfl⟩:=List.getElem_of_mem hp
 have h1:=h i
 rw[cw,List.getD_eq_getElem?_getD,List.getElem?_eq_getElem hi,Option.getD_some,cnt] at h1
 rw[k9];omega
theorem rM{ps:List PgS}{x:Int}{n:NoD}(h:av ps x=some n):0<=x/\x<ps.length/\n.es.length=cw ps x.toNat/\(∀e∈n.es,1<=e.2.1/\∃y,(ps.getD x.toNat aT).2.2[e.2.1]? =some y/\y.size≠0):=by
 unfold av at h
 split at h
 rename_i hx
 obtain⟨y,l,h1,h2,h3,rfl⟩:=d8 h
 refine⟨hx.1,hx.2,?_,fun e he=>?_⟩
 show (srt _ (bu 1 l)).length= _
 rw[mv,k9,cw,h1];rfl
 have hm:∃p∈bu 1 l,e=b8 (aK y 0 1) p:=by
  obtain⟨p,hp,rfl⟩:=List.mem_map.1 (List.mem_reverse.1 (j3 (List.mem_reverse.1 he)))
  exact⟨p,hp,rfl⟩
 obtain⟨⟨s,z⟩,hp,rfl⟩:=hm
 obtain⟨h4,h5,h6⟩:=th hp
 have h7:(b8 (aK y 0 1) (s,z)).2.1=s:=by unfold b8;split<;>rfl
 rw[h7,h1]
 refine⟨h4,z,?_,h6⟩
 rw[show s=(s-1)+1 by omega,List.getElem?_cons_succ];exact h5
 cases h
theorem FH{ps:List PgS}{pos fresh:Int}{n:NoD}(h:C8 ps)(hok:OkS ps)(hn:av ps pos=some n)(hl8:¬n.es.length<8)(hf:fresh≠pos):C8 (doB ps (dj pos n fresh)):=by
  intro i
  obtain⟨hx0,hx1,hlen,hsl⟩:=rM hn
  rw[dj,eA,eA,eA]
  obtain⟨ps1,g7⟩:∃z,doB ps (cD fresh n.lv (-1) ByteArray.empty n.es)=z:=⟨_,rfl⟩
  have h1:=qd fresh n.lv (-1) ByteArray.empty n.es ps i
  rw[g7] at h1 |-
  have h2:=ly (ps:=ps1) (e:=(pos,0,hdB (n.lv+1) (-1) false ByteArray.empty)) (i:=i) (fun hh=>by have:=hh.2.1;dsimp only at this;omega)
  obtain⟨ps2,mM⟩:∃z,bP ps1 (pos,0,hdB (n.lv+1) (-1) false ByteArray.empty)=z:=⟨_,rfl⟩
  rw[mM] at h2
  show cw (bP (doB (bP ps1 (pos,0,hdB (n.lv+1) (-1) false ByteArray.empty)) (ba pos n.es)) (pos,1,itB 1 fresh aF)) i<=8
  rw[mM]
  have h3:=iH (ps:=ps2) (lz pos n.es i)
  have h4:=lK (doB ps2 (ba pos n.es)) (pos,1,itB 1 fresh aF) i
  by_cases hi:(pos:Int)=(i:Int)
  rw[if_neg (by omega)] at h1
  have hpi:pos.toNat=i:=by omega
  rw[hpi] at hsl hlen
  have h8:=h i
  match hes:n.es with
  | []=>rw[hes] at hl8;exact absurd hl8 (by decide)
  |e0::er=>
   obtain⟨lj,y,hy,hyz⟩:=hsl e0 (by rw[hes];simp)
   have hg1:ps1.getD i aT=ps.getD i aT:=by rw[<-g7];exact iG fun e he=>by rw[ga e he];omega
   have hl1:ps1.length=ps.length:=by rw[<-g7,ct]
   have hg2:(ps2.getD i aT).2.2=bO (ps.getD i aT).2.2 0 (hdB (n.lv+1) (-1) false ByteArray.empty):=by
    rw[<-mM,j8 (decide_eq_true (by dsimp only;omega)) hi,hg1];rfl
   have hl2:ps2.length=ps.length:=by rw[<-mM,gg,hl1]
   have hsy:(bO (ps.getD i aT).2.2 0 (hdB (n.lv+1) (-1) false ByteArray.empty))[e0.2.1]? =some y:=by
    rw[bO,List.getElem?_set_ne (by omega)]
    obtain⟨hk,_⟩:=List.getElem?_eq_some_iff.1 hy
    rw[List.getElem?_append_left hk];exact hy
   have h100:(e0.2.1:Int)<=100:=by
    obtain⟨hk,_⟩:=List.getElem?_eq_some_iff.1 hy
    have h101:=hok.its _ (cz (l:=ps) (n:=i) (d:=aT) (by omega)).2
    omega
   have h5:cw (bP ps2 (pos,(e0.2.1:Int),ByteArray.empty)) i+1<=cw ps2 i:=by
    rw[cw,j8 (decide_eq_true (by dsimp only;omega)) hi,cw,edP,if_neg (by dsimp only;omega),hg2]
    exact Gh lj hsy hyz
   have h6:=iH (ps:=bP ps2 (pos,(e0.2.1:Int),ByteArray.empty)) (lz pos er i)
   have h7:doB ps2 (ba pos (e0::er))=doB (bP ps2 (pos,(e0.2.1:Int),ByteArray.empty)) (ba pos er):=rfl
   rw[hes] at h4
   rw[h7] at h4 |-
   split at h4<;>omega
  rw[if_neg (by dsimp only;omega)] at h4
  have h8:=h i
  have h9:=h pos.toNat
  split at h1<;>omega
theorem Hk{ps:List PgS}{pos fresh:Int}{n:NoD}(h:C8 ps)(hn:av ps pos=some n):C8 (doB ps (db pos n fresh)):=by
  intro i
  obtain⟨hx0,hx1,hlen,hsl⟩:=rM hn
  rw[db,eA,eA]
  have h1:=qd fresh n.lv n.right n.high (eG n) ps i
  have h2:=ly (ps:=doB ps (cD fresh n.lv n.right n.high (eG n))) (e:=(pos,0,hdB n.lv fresh false (cf n))) (i:=i) (fun hh=>by have:=hh.2.1;dsimp only at this;omega)
  have h3:=iH (ps:=bP (doB ps (cD fresh n.lv n.right n.high (eG n))) (pos,0,hdB n.lv fresh false (cf n))) (lz pos (eG n) i)
  have hh:(eG n).length<=n.es.length:=by rw[eG,List.length_drop];omega
  have h8:=h i
  have h9:=h pos.toNat
  refine Nat.le_trans h3 (Nat.le_trans h2 ?_)
  split at h1<;>omega
theorem H7{ps:List PgS}{pos s:Int}{x:ByteArray}{n:NoD}(h:C8 ps)(hn:av ps pos=some n)(hl8:n.es.length<8):C8 (doB ps [(pos,s,x)]):=by
 intro i
 obtain⟨hx0,hx1,hlen,hsl⟩:=rM hn
 refine Nat.le_trans (lK ps _ i) ?_
 dsimp only
 have h8:=h i
 split
 rename_i hc
 have:i=pos.toNat:=by omega
 subst this;omega
 exact h8
theorem FK{ps:List PgS}{p:PuT}{fresh:Int}(h:C8 ps)(hok:OkS ps)(hf:fresh≠p.root):C8 (doB ps (bg ps p fresh).2.eds):=by
 obtain⟨root,pos,leaf,left,fro,to,spl⟩:=p
 have hnil:C8 (doB ps []):=h
 cases left with
 |nil=>exact hnil
 |cons t lf=>
  obtain⟨te,tl,tk⟩:=t
  rcases hnd:av ps pos with _|n
  rw[tn hnd];exact hnil
  cases hs:da n.dead n.high te with
  |true=>
   by_cases hr:n.right<0
   rw[tq hnd hs hr];exact hnil
   rw[m6 hnd hs hr];exact hnil
  |false=>
   by_cases hl:tl<n.lv
   rw[pG hnd hs hl];exact hnil
   by_cases hm:n.lv<tl
   rw[tF hnd hs hl hm];exact hnil
   cases ht:dU n.es te with
   |true=>rw[kS hnd hs hl hm ht];exact hnil
   |false=>
    by_cases h8:n.es.length<8
    rw[nY hnd hs hl hm ht h8];exact H7 h hnd h8
    by_cases ag:fresh<0
    rw[yL hnd hs hl hm ht h8 ag];exact hnil
    by_cases hr:pos=root
    rw[tw hnd hs hl hm ht h8 ag hr];subst hr;exact FH h hok hnd h8 hf
    rw[vq hnd hs hl hm ht h8 ag hr];exact Hk h hnd
theorem AO(ps:List PgS)(p:PuT)(fresh:Int):(bg ps p fresh).1.root=p.root:=by
 unfold bg
 dsimp only
 split
 rfl
 split
 rfl
 ·repeat' split
  all_goals rfl
theorem BR:∀(j:Nat){M k:Nat}{ps:List PgS}{nx:Int}{p:PuT},BdM M ps->ps.length=60->C8 ps->1<=nx->p.root=0->PuM M k p->M+10*j<=900000->BdM (M+10*j) (gv j ps nx p).1/\(gv j ps nx p).1.length=60/\C8 (gv j ps nx p).1/\1<=(gv j ps nx p).2
 |0,M,k,ps,nx,p,h1,h2,h3,h4,h5,h6,h7=>⟨h1,h2,h3,h4⟩
 |j+1,M,k,ps,nx,p,h1,h2,h3,h4,h5,h6,h7=>by
  by_cases hl:p.left=[]
  rw[mZ _ _ _ hl];exact⟨h1.mono (by omega),h2,h3,h4⟩
  rw[ka hl]
  have hs:=yl (fresh:=nx) h1 h6
  have hok:=h1.ok (by omega) (by omega)
  have h8:=BR j (M:=M+10) (k:=k+1) (ps:=doB ps (bg ps p nx).2.eds) (nx:=if (bg ps p nx).2.used then nx+1 else nx) (p:=(bg ps p nx).1) ((h1.mono (by omega)).do hs.1) (by rw[ct];exact h2) (FK h3 hok (by omega)) (by split<;>omega) (by rw[AO];exact h5) hs.2 (by omega)
  rw[show M+10*(j+1)=M+10+10*j by omega];exact h8
theorem D7(n:Nat):C8 (dE n):=fun i=>by
 refine Nat.le_trans (iH fun e he h=>?_) ?_
 simp only[dW,List.mem_cons,List.not_mem_nil,or_false] at he
 rcases he with rfl|rfl<;>(have:=h.2.1;dsimp only at this;omega)
 rw[cw,List.getD_eq_getElem?_getD]
 by_cases hi:i<n
 rw[List.getElem?_eq_getElem (by rw[List.length_replicate];exact hi),List.getElem_replicate];decide
 rw[List.getElem?_eq_none (by rw[List.length_replicate];omega)];decide
theorem HX(x:Int)(pg sl:Int)(M:Nat)(hM:16<=M):PuM M 1 (gR 0 (d9 x) pg sl):=⟨fun t ht=>by
 rw[gR,List.mem_singleton] at ht
 subst ht
 have:=fo x
 exact⟨by rw[dx];omega,Int.le_refl 0,by show (0:Int)<= _;omega⟩,Nat.le_refl _⟩
theorem AK(l:List Int):∀(i:Nat),i<=90->BdM (16+600*i) (fh l i).1/\(fh l i).1.length=60/\C8 (fh l i).1/\1<=(fh l i).2
 |0,_=>⟨(iq 60).1,(iq 60).2,D7 60,Int.le_refl 1⟩
 |i+1,h=>by
  obtain⟨h1,h2,h3,h4⟩:=AK l i (by omega)
  rw[fh]
  have h5:=BR 60 h1 h2 h3 h4 (p:=gR 0 (d9 (l.getD i 0)) (1+(i:Int) / 8) (1+(i:Int) % 8)) rfl (HX _ _ _ _ (by omega)) (by omega)
  rw[show 16+600*(i+1)=16+600*i+10*60 by omega];exact h5
theorem CX(l:List Int):BdM 54016 (gY l)/\(gY l).length=60/\C8 (gY l):=by
 obtain⟨h1,h2,h3,_⟩:=AK l (min l.length 90) (by omega)
 exact⟨h1.mono (by omega),h2,h3⟩
end
section
open Go.RowKit
def dA(ps:List PgS)(lv:Int):Nat->Int->Option (Int×NoD)
 |0,_=>none
 |k+1,x=>match av ps x with
  |none=>none
  |some n=>if n.lv=lv then some (x,n) else if n.lv<lv\/n.es.length=0 then none else dA ps lv k (n.es.getD 0 en0).2.2
def dG(ps:List PgS)(lv:Int):Nat->Int->List (Int×NoD)
 |0,_=>[]
 |k+1,x=>match av ps x with
  |none=>[]
  |some n=>if n.lv=lv then (x,n)::dG ps lv k n.right else []
def bo(ps:List PgS)(root lv:Int):List (Int×NoD):=match dA ps lv 1000 root with
 |none=>[]
 |some (x,_)=>dG ps lv 1000 x
def cu(ps:List PgS)(root:Int):List EnD:=(bo ps root 0).flatMap fun x=>x.2.es
theorem wZ{ps:List PgS}{lv x:Int}{k:Nat}(h:av ps x=none):dA ps lv k x=none:=by
 cases k with
 |zero=>rfl
 |succ k=>rw[dA,h]
theorem tj{ps:List PgS}{lv x:Int}{k:Nat}{n:NoD}(h:av ps x=some n)(hl:n.lv=lv):dA ps lv (k+1) x=some (x,n):=by rw[dA,h];exact if_pos hl
theorem vN{ps:List PgS}{lv x:Int}{k:Nat}{n:NoD}(h:av ps x=some n)(hl:n.lv≠lv)(h2:n.lv<lv\/n.es.length=0):dA ps lv k x=none:=by
 cases k with
 |zero=>rfl
 |succ k=>rw[dA,h];dsimp only;rw[if_neg hl,if_pos h2]
theorem mY{ps:List PgS}{lv x:Int}{k:Nat}{n:NoD}(h:av ps x=some n)(hl:lv<n.lv)(h2:n.es.length≠0):dA ps lv (k+1) x=dA ps lv k (n.es.getD 0 en0).2.2:=by rw[dA,h];dsimp only;rw[if_neg (by omega),if_neg (by omega)]
theorem qF{ps:List PgS}{lv x:Int}{k:Nat}(h:av ps x=none):dG ps lv k x=[]:=by
 cases k with
 |zero=>rfl
 |succ k=>rw[dG,h]
theorem pR{ps:List PgS}{lv x:Int}{k:Nat}{n:NoD}(h:av ps x=some n)(hl:n.lv=lv):dG ps lv (k+1) x=(x,n)::dG ps lv k n.right:=by rw[dG,h];exact if_pos hl
theorem vZ{ps:List PgS}{lv x:Int}{k:Nat}{n:NoD}(h:av ps x=some n)(hl:n.lv≠lv):dG ps lv k x=[]:=by
 cases k with
 |zero=>rfl
 |succ k=>rw[dG,h];exact if_neg hl
theorem BB{ps:List PgS}{lv:Int}:∀{k:Nat}{x:Int},∀y∈dG ps lv k x,av ps y.1=some y.2/\y.2.lv=lv
 |k+1,x,y,h=>by
  rw[dG] at h
  split at h
  cases h
  rename_i m hm
  split at h
  rename_i hl
  rcases List.mem_cons.1 h with rfl|h
  exact⟨hm,hl⟩
  exact BB y h
  cases h
theorem yQ(ps:List PgS)(lv:Int):∀(k:Nat) (x:Int),(dG ps lv k x).length<=k
 |0,_=>Nat.le_refl _
 |k+1,x=>by
  rw[dG]
  split
  exact Nat.zero_le _
  split
  rw[List.length_cons];have:=yQ ps lv k (by assumption:NoD).right;omega
  exact Nat.zero_le _
theorem jz(ps:List PgS)(root lv:Int):(bo ps root lv).length<=1000:=by
 unfold bo
 split
 exact Nat.zero_le _
 exact yQ _ _ _ _
end
section
open Go.RowKit
abbrev Rnd(l:Nat):Fence:=Fence.wide.inRound l
def gC(ops:Array Oper):Bool:=ops.all fun o=>match o.op with| .defer _=>false|_=>true
theorem zv{ops:Array Oper}(h:gC ops=true){i:Nat}{o:Oper}(ho:ops[i]? =some o):∀c,o.op≠ .defer c:=by
 intro c hc
 obtain⟨hi,he⟩:=Array.getElem?_eq_some_iff.1 ho
 have h2:=(Array.all_eq_true.1 h) i hi
 rw[he,hc] at h2
 cases h2
theorem L6{P:Program}{l n:Nat}{o:Oper}{a:Act}{w:World}{K:Act->World->Prop}{Q:Exit->Act->World->Prop}(hd:∀c,o.op≠ .defer c)(h:o.wp P a w K Q):o.wpIn (Rnd l) n P a w K Q:=by
 unfold Oper.wp at h
 refine⟨fun _ _=>trivial,?_⟩
 show o.uponIn (Rnd l) n P a K Q ((o.semAt (some l) a.eval).run P w)
 rw[Oper.semAt_eq (some l) a.eval o hd]
 generalize (execOp a.eval o).run P w=r at h |-
 cases r with
 |ok x w'=>
  cases x<;>simp only[Oper.upon,Oper.uponIn] at h |- <;>first
   |exact h
   |exact⟨fun hh=>by simp[Rnd,Fence.wide] at hh,CallsIn.inRound l (callsIn_wide.2 h)⟩
   |exact⟨fun hh=>by simp[Rnd,Fence.wide] at hh,fun c cs _=>let ⟨v,w',r,s⟩:=h c cs;⟨v,w',r,stepsIn_wide.2 s⟩⟩
 |halt x w'=>cases x<;>simp only[Oper.upon,Oper.uponIn] at h |- <;>exact h
section
variable{P:Program}{l n:Nat}{ops:Array Oper}{Q:Exit->Act->World->Prop}
theorem uc(hnd:gC ops=true)(hLo:¬LetsOut Q){i:Nat}{K:Act->World->Prop}{a:Act}{w:World}(h:wpOp P ops Q i K a w):wpOpIn (Rnd l) n P ops Q i K a w:=by
 unfold wpOp at h
 unfold wpOpIn
 cases ho:ops[i]? with
 |none=>simp only[ho] at h |-;exact h
 |some o=>
  simp only[ho] at h |-
  split
  rename_i hw
  rw[if_pos hw] at h
  exact L6 (zv hnd ho) (h.resolve_right fun hh=>hLo hh.2)
  rename_i hw
  rw[if_neg hw] at h
  exact⟨fun _ _=>trivial,h⟩
theorem rG(hnd:gC ops=true)(hLo:¬LetsOut Q):∀(m:Nat) (listed:Array Bool) (a:Act) (w:World),wpAny P .any ops Q m listed a w->wpAnyIn (Rnd l) n P .any ops Q m listed a w
 |0,listed,a,w,h=>h
 |m+1,listed,a,w,h=>⟨h.1,fun i hi=>wpOpIn_mono (fun a w hh=>rG hnd hLo m _ a w hh) (uc hnd hLo (h.2 i hi))⟩
theorem rU(hnd:gC ops=true)(hLo:¬LetsOut Q):∀(is:List Nat) (a:Act) (w:World),wpOps P ops Q is a w->wpOpsIn (Rnd l) n P ops Q is a w
 | [],a,w,h=>h
 |i::is,a,w,h=>by
  rw[wpOps_cons] at h
  rw[wpOpsIn_cons]
  exact wpOpIn_mono (fun a w hh=>rU hnd hLo is a w hh) (uc hnd hLo h)
end
section
variable{P:Program}{ops:Array Oper}{L:List Nat}{w0:World}{bor:List Nat}{X0:List Ent}{us cr kl:List (List Nat)}{Q:Exit->Act->World->Prop}{l n:Nat}
theorem kj{id:Nat}{dr:Bool}{w:World}{t0:Array Value}{d0:List Deferred}(hnd:gC ops=true)(hm:P.follows .mixedOrders=true)(L:List Nat)(us cr kl:List (List Nat))(D:Nat->(Tmp->Value)->(Tmp->Value)->(Nat->Ent)->Prop)(fin:List Nat)
  (hL:ef ops L=true) (hd:dM ops t0.size=true) (hflow:eh ops.size X0.length L us cr kl=true) (hfin:ip ops.size X0.length cr kl fin=true)
  (hloc:g5 ops X0.length L cr D) (aP:St w0 bor X0 w) (dt:fv (bI P ops L ⟨t0,d0⟩ w0 bor X0 us cr kl D) ops.size)
  (hrest:∀(b c:Tmp->Value) (X:Nat->Ent) (w':World),(∀i,i<ops.size->D i b c X)->(∀q e,X0[q]? =some e->X q=e)->St w0 bor (fin.map X) w'->
   ∀fr,fr=cC (bL ops) ((bL ops).map b) t0->Q .normal ⟨fr,d0⟩ w'):(Code.region id ops dr).wpIn (Rnd l) n P Q ⟨t0,d0⟩ w:=by
 have hs:∀i,i<ops.size->bI P ops L ⟨t0,d0⟩ w0 bor X0 us cr kl D i:=fun i hi=>dt.get i hi
 obtain⟨Q',hQ'⟩:∃Q':Exit->Act->World->Prop,Q'=fun e a w=>e= .normal/\Q .normal a w:=⟨_,rfl⟩
 have hr:∀(a:Act) (w:World) (listed:Array Bool),(∀i,i<ops.size->listed.getD i false=true)->VInv ops L ⟨t0,d0⟩ w0 bor X0 cr kl D listed a w->Q' .normal a w:=fun a w listed hall inv=>by
  rw[hQ'];exact⟨rfl,vD (a0:=⟨t0,d0⟩) hd hfin (fun b c X w' h1 h2 h3=>hrest b c X w' h1 h2 h3 _ rfl) hall inv⟩
 have hLo:¬LetsOut Q':=by rw[hQ'];rintro⟨a,w,h,_⟩;cases h
 refine wpIn_mono (Q:=Q') ?_ fun e a w h=>by rw[hQ'] at h;obtain⟨rfl,h⟩:=h;exact h
 cases dr with
 |true=>
  refine wpIn_region_any hm (rG hnd hLo _ _ _ _ (yx hL hd hflow hloc hs hr ops.size (Array.replicate ops.size false) ⟨t0,d0⟩ w.drew ?_ (kD aP.drew)))
  rw[List.countP_eq_length.2]
  simp
  intro i _
  rw[getD_replicate_false]
  rfl
 |false=>
  refine wpIn_region ?_
  rw[List.range_eq_range']
  exact rU hnd hLo _ _ _ (yU hL hd hflow hloc hs hr ops.size 0 (Array.replicate ops.size false) ⟨t0,d0⟩ w (by omega) (fun j=>by rw[getD_replicate_false];simp) (kD aP))
end
theorem uO{l n:Nat}{P:Program}{ops:Array Oper}{Q:Exit->Act->World->Prop}{w0:World}{bor:List Nat}{X0:List Ent}{id:Nat}{dr:Bool}{w:World}{t0:List Value}{d0:List Deferred}(L:List Nat)(us cr kl:List (List Nat))(tb:List TE)
  (A:Nat->(Tmp->Value)->(Tmp->Value)->(Nat->Ent)->Prop) (fin sp:List Nat) (rs:List (Nat×Nat×Nat×Nat)) (aP:St w0 bor X0 w) (hloc:g5 ops X0.length L cr A)
  (dt:lw (bI P ops L ⟨t0.toArray,d0⟩ w0 bor X0 us cr kl (fun ix b c X=>dT tb ix b (A ix b c X))) sp)
  (hrest:∀(b c:Tmp->Value) (X:Nat->Ent) (w':World),(∀i,i<ops.size->dT tb i b (A i b c X))->(∀q e,X0[q]? =some e->X q=e)->St w0 bor (fin.map X) w'->∀fr,fr=mgT tb b rs t0->Q .normal ⟨fr.toArray,d0⟩ w')
  (ht:km P ops L t0.toArray tb 0 tb=tb.map fS:=by kernel_rfl) (hl:fG ops L cr kl sp 0 tb=true:=by kernel_rfl) (hn:tb.length=ops.size:=by kernel_rfl)
  (ag:∀b,cC (bL ops) ((eT ops).map (eu ops tb b)) t0.toArray=(mgT tb b rs t0).toArray:=by intro b;kernel_rfl)
  (hm:P.follows .mixedOrders=true:=by kernel_rfl) (hnd:gC ops=true:=by kernel_rfl) (hL:ef ops L=true:=by kernel_rfl) (hd:dM ops t0.toArray.size=true:=by kernel_rfl) (hflow:eh ops.size X0.length L us cr kl=true:=by kernel_rfl) (hfin:ip ops.size X0.length cr kl fin=true:=by kernel_rfl):
  (Code.region id ops dr).wpIn (Rnd l) n P Q ⟨t0.toArray,d0⟩ w:=by
 refine kj hnd hm L us cr kl (fun ix b c X=>dT tb ix b (A ix b c X)) fin hL hd hflow hfin (fun i b g c f X X' h1 h2 h3 h=>?_) aP (fv.of fun i hi=>?_) fun b c X w' hD hX hst' fr hfr'=>?_
 dsimp only at h |-
 rw[dR] at h |-
 cases hdd:(tb.getD i .n).dst with
 |some d=>
  rw[hdd] at h
  dsimp only at h |-
  have hi:i<tb.length:=fK (by rw[hdd];simp)
  have:=(dh ht hi hdd).1
  rw[<-h1 d (by unfold jI;simp[this])]
  exact h
 |none=>
  rw[hdd] at h
  exact hloc i b g c f X X' h1 h2 h3 h
 have hi':i<tb.length:=by rw[hn];exact hi
 have h:=eE (i:=i) hl hi'
 rw[Nat.zero_add] at h
 rcases h with ⟨_,h⟩|⟨h,_⟩
 exact j7 dt i h
 exact iC hd ht hl hi' h
 subst hfr'
 have e:(bL ops).map b=(eT ops).map (eu ops tb b):=by
  unfold bL
  rw[List.map_map]
  refine List.map_congr_left fun i hi=>?_
  have him:=List.mem_filter.1 hi
  have hlt:i<ops.size:=List.mem_range.1 him.1
  have h:=hD i hlt
  rw[dR] at h
  unfold eu
  cases hdd:(tb.getD i .n).dst with
  |none=>rfl
  |some d=>
   rw[hdd] at h
   dsimp only at h |-
   have:=(dh ht (i:=i) (by rw[hn];exact hlt) hdd).1
   simp only[Function.comp,this,Option.getD_some]
   exact h
 rw[e,ag b]
 exact hrest b c X w' hD hX hst' _ rfl
theorem nO{l n:Nat}{P:Program}{ops:Array Oper}{Q:Exit->Act->World->Prop}{w0:World}{bor:List Nat}{X0:List Ent}{id:Nat}{dr:Bool}{w:World}{t0 t1:List Value}{d0:List Deferred}(L:List Nat)(tb:List TE)
  (rs:List (Nat×Nat×Nat×Nat)) (aP:St w0 bor X0 w) (hrest:∀w',St w0 bor X0 w'->Q .normal ⟨t1.toArray,d0⟩ w')
  (h1:mgT tb (fun _=>undef) rs t0=t1:=by dsimp only[mgT,gk,List.take,List.drop,List.cons_append,List.nil_append])
  (ht:km P ops L t0.toArray tb 0 tb=tb.map fS:=by kernel_rfl) (hl:fG ops L [] [] [] 0 tb=true:=by kernel_rfl) (hn:tb.length=ops.size:=by kernel_rfl)
  (ag:∀a,cC (bL ops) ((eT ops).map (eu ops tb a)) t0.toArray=(mgT tb (fun _=>undef) rs t0).toArray:=by intro a;kernel_rfl)
  (hm:P.follows .mixedOrders=true:=by kernel_rfl) (hnd:gC ops=true:=by kernel_rfl) (hL:ef ops L=true:=by kernel_rfl) (hd:dM ops t0.toArray.size=true:=by kernel_rfl):
  (Code.region id ops dr).wpIn (Rnd l) n P Q ⟨t0.toArray,d0⟩ w:=by
 have hat:∀i,atV ([]:List (List Nat)) i=[]:=fun i=>by simp[atV]
 refine kj hnd hm L [] [] [] (fun ix a b X=>dT tb ix a True) (List.range X0.length) hL hd ?_ ?_ (fun i a f b c X X' h1 h2 h3 h=>?_) aP (fv.of fun i hi=>?_) fun a b X w' hD hX hst' fr hfr'=>?_
 unfold eh;simp[hat]
 unfold ip;simp[hat,List.nodup_range]
 dsimp only at h |-
 rw[dR] at h |-
 cases hdd:(tb.getD i .n).dst with
 |some d=>
  rw[hdd] at h
  dsimp only at h |-
  have hi:i<tb.length:=fK (by rw[hdd];simp)
  have:=(dh ht hi hdd).1
  rw[<-h1 d (by unfold jI;simp[this])]
  exact h
 |none=>trivial
 have hi':i<tb.length:=by rw[hn];exact hi
 have h:=eE (i:=i) hl hi'
 rw[Nat.zero_add] at h
 rcases h with ⟨_,h⟩|⟨h,_⟩
 cases h
 exact iC (A:=fun _ _ _ _=>True) hd ht hl hi' h
 subst hfr'
 have e:(bL ops).map a=(eT ops).map (eu ops tb a):=by
  unfold bL
  rw[List.map_map]
  refine List.map_congr_left fun i hi=>?_
  have him:=List.mem_filter.1 hi
  have hlt:i<ops.size:=List.mem_range.1 him.1
  have h:=hD i hlt
  rw[dR] at h
  unfold eu
  cases hdd:(tb.getD i .n).dst with
  |none=>rfl
  |some d=>
   rw[hdd] at h
   dsimp only at h |-
   have:=(dh ht (i:=i) (by rw[hn];exact hlt) hdd).1
   simp only[Function.comp,this,Option.getD_some]
   exact h
 rw[e,ag a,h1]
 refine hrest w' ?_
 have:(List.range X0.length).map X=X0:=by
  apply List.ext_getElem (by simp)
  intro q h1 h2
  rw[List.getElem_map,List.getElem_range]
  exact hX q _ (List.getElem?_eq_getElem h2)
 rw[this] at hst'
 exact hst'
theorem bh{l n:Nat}{P:Program}{ops:Array Oper}{Q:Exit->Act->World->Prop}{w0:World}{bor:List Nat}{X0:List Ent}{id:Nat}{dr:Bool}{w:World}{t0:List Value}{t1:(Tmp->Value)->List Value}{E:(Nat->Ent)->List Ent}{d0:List Deferred}(L:List Nat)(us cr kl:List (List Nat))(tb:List TE)
  (A:Nat->(Tmp->Value)->(Tmp->Value)->(Nat->Ent)->Prop) (fin sp:List Nat) (rs:List (Nat×Nat×Nat×Nat)) (aP:St w0 bor X0 w) (hloc:g5 ops X0.length L cr A)
  (dt:lw (bI P ops L ⟨t0.toArray,d0⟩ w0 bor X0 us cr kl (fun ix a b X=>dT tb ix a (A ix a b X))) sp)
  (hrest:∀(a b:Tmp->Value) (X:Nat->Ent) (w':World),(∀i,i<ops.size->dT tb i a (A i a b X))->St w0 bor (E X) w'->∀fr,fr=t1 a->Q .normal ⟨fr.toArray,d0⟩ w')
  (h1:∀a,mgT tb a rs t0=t1 a:=by intro a;dsimp only[mgT,gk,List.take,List.drop,List.cons_append,List.nil_append]) (hE:∀X,f8 X0 X fin=E X:=by intro X;dsimp only[f8,mU])
  (ht:km P ops L t0.toArray tb 0 tb=tb.map fS:=by kernel_rfl) (hl:fG ops L cr kl sp 0 tb=true:=by kernel_rfl) (hn:tb.length=ops.size:=by kernel_rfl)
  (ag:∀a,cC (bL ops) ((eT ops).map (eu ops tb a)) t0.toArray=(mgT tb a rs t0).toArray:=by intro a;kernel_rfl)
  (hm:P.follows .mixedOrders=true:=by kernel_rfl) (hnd:gC ops=true:=by kernel_rfl) (hL:ef ops L=true:=by kernel_rfl) (hd:dM ops t0.toArray.size=true:=by kernel_rfl) (hflow:eh ops.size X0.length L us cr kl=true:=by kernel_rfl) (hfin:ip ops.size X0.length cr kl fin=true:=by kernel_rfl):
  (Code.region id ops dr).wpIn (Rnd l) n P Q ⟨t0.toArray,d0⟩ w:=
 uO L us cr kl tb A fin sp rs aP hloc dt (fun a b X w' hD hX hs fr hf=>hrest a b X w' hD (by rw[<-hE X,mt hX];exact hs) fr (hf.trans (h1 a))) ht hl hn ag hm hnd hL hd hflow hfin
theorem g9{l n:Nat}{P:Program}{ops:Array Oper}{Q:Exit->Act->World->Prop}{w0:World}{bor:List Nat}{X0 E:List Ent}{id:Nat}{dr:Bool}{w:World}{t0 t1:List Value}{d0:List Deferred}(L:List Nat)(us:List (List Nat))(tb:List TE)
  (fin sp:List Nat) (rs:List (Nat×Nat×Nat×Nat)) (aP:St w0 bor X0 w)
  (dt:lw (bI P ops L ⟨t0.toArray,d0⟩ w0 bor X0 us [] [] (fun ix a b X=>dT tb ix a True)) sp)
  (hrest:∀(w':World),St w0 bor E w'->Q .normal ⟨t1.toArray,d0⟩ w')
  (h1:mgT tb (fun _=>undef) rs t0=t1:=by dsimp only[mgT,gk,List.take,List.drop,List.cons_append,List.nil_append]) (hE:f8 X0 (fun _=>⟨[],fun _=>True⟩) fin=E:=by dsimp only[f8,mU])
  (hfz:fin.all (fun q=>Nat.blt q X0.length)=true:=by kernel_rfl)
  (ht:km P ops L t0.toArray tb 0 tb=tb.map fS:=by kernel_rfl) (hl:fG ops L [] [] sp 0 tb=true:=by kernel_rfl) (hn:tb.length=ops.size:=by kernel_rfl)
  (ag:∀a,cC (bL ops) ((eT ops).map (eu ops tb a)) t0.toArray=(mgT tb (fun _=>undef) rs t0).toArray:=by intro a;kernel_rfl)
  (hm:P.follows .mixedOrders=true:=by kernel_rfl) (hnd:gC ops=true:=by kernel_rfl) (hL:ef ops L=true:=by kernel_rfl) (hd:dM ops t0.toArray.size=true:=by kernel_rfl) (hflow:eh ops.size X0.length L us [] []=true:=by kernel_rfl) (hfin:ip ops.size X0.length [] [] fin=true:=by kernel_rfl):
  (Code.region id ops dr).wpIn (Rnd l) n P Q ⟨t0.toArray,d0⟩ w:=by
 have hfr2:∀a,cC (bL ops) ((eT ops).map (eu ops tb a)) t0.toArray=t1.toArray:=fun a=>by rw[ag a,h1]
 refine kj hnd hm L us [] [] (fun ix a b X=>dT tb ix a True) fin hL hd hflow hfin (fun i a f b c X X' h1 h2 h3 h=>?_) aP (fv.of fun i hi=>?_) fun a b X w' hD hX hst' fr hfr'=>?_
 dsimp only at h |-
 rw[dR] at h |-
 cases hdd:(tb.getD i .n).dst with
 |some d=>
  rw[hdd] at h
  dsimp only at h |-
  have hi:i<tb.length:=fK (by rw[hdd];simp)
  have:=(dh ht hi hdd).1
  rw[<-h1 d (by unfold jI;simp[this])]
  exact h
 |none=>trivial
 have hi':i<tb.length:=by rw[hn];exact hi
 have h:=eE (i:=i) hl hi'
 rw[Nat.zero_add] at h
 rcases h with ⟨_,h⟩|⟨h,_⟩
 exact j7 dt i h
 exact iC (A:=fun _ _ _ _=>True) hd ht hl hi' h
 subst hfr'
 have e:(bL ops).map a=(eT ops).map (eu ops tb a):=by
  unfold bL
  rw[List.map_map]
  refine List.map_congr_left fun i hi=>?_
  have him:=List.mem_filter.1 hi
  have hlt:i<ops.size:=List.mem_range.1 him.1
  have h:=hD i hlt
  rw[dR] at h
  unfold eu
  cases hdd:(tb.getD i .n).dst with
  |none=>rfl
  |some d=>
   rw[hdd] at h
   dsimp only at h |-
   have:=(dh ht (i:=i) (by rw[hn];exact hlt) hdd).1
   simp only[Function.comp,this,Option.getD_some]
   exact h
 rw[e,hfr2 a]
 refine hrest w' ?_
 have h2:f8 X0 X fin=E:=by rw[<-hE];exact m7 hfz
 rw[<-h2,mt hX]
 exact hst'
abbrev fps(L:List Ent):List Nat:=L.flatMap (·.fp)
theorem cV{L:List Ent}{k:Nat}:k∈fps L<->∃e∈L,k∈e.fp:=by simp[fps]
theorem St.fps_own{w0 w:World}{bor:List Nat}{L:List Ent}(h:St w0 bor L w){k:Nat}(hk:k∈fps L):(k∈bor\/w0.heap.size<=k)/\k<w.heap.size:=by
 obtain⟨e,he,hk⟩:=cV.1 hk
 exact(h.ok e he).own k hk
def fg(D:Nat):Ent:=⟨[D],fun W=>W.heap[D]? =some (.deferred (some []))⟩
theorem HY(D:Nat):(fg D).loc:=fun W W' h hb=>(h D (by simp[fg])).trans hb
theorem St.takeD{w0 W:World}{bor:List Nat}{L:List Ent}{D:Nat}(h:St w0 bor (L++[fg D]) W):St w0 bor L (W.putObj D (.deferred none)):=by
 have hd:=h.ok (fg D) (by simp)
 have hown:=hd.own D (by simp[fg])
 have hap:∀e∈L,D∉e.fp:=fun e he hk=>by
  have:=(List.pairwise_append.1 h.apart).2.2 e he (fg D) (by simp)
  exact this D hk (by simp[fg])
 have hg:=grownBy_putObj' W D (.deferred none)
 refine⟨⟨hg.os.trans h.upd.os,hg.tape.trans h.upd.tape,hg.output.trans h.upd.output,Nat.le_trans h.upd.size hg.size,fun k hk hb=>?_⟩,fun e he=>?_,(List.pairwise_append.1 h.apart).1⟩
 rw[hg.block k (Nat.lt_of_lt_of_le hk h.upd.size) fun e'=>?_]
 exact h.upd.block k hk hb
 cases e'
 rcases hown.1 with h1|h1
 exact hb h1
 omega
 have h2:=h.ok e (by simp[he])
 refine⟨h2.loc W _ (fun k hk=>hg.block k (h2.own k hk).2 fun e'=>?_) h2.holds,h2.loc,fun k hk=>⟨(h2.own k hk).1,Nat.lt_of_lt_of_le (h2.own k hk).2 hg.size⟩⟩
 cases e'
 exact hap e he hk
theorem lg{P:Program}{n:Nat}{fn:Func}{R:Ending->World->Prop}{t0:Array Value}{w0 w:World}{bor:List Nat}{L:List Ent}{D:Nat}(aP:St w0 bor (L++[fg D]) w)
  (h:∀W,St w0 bor L W->∃v,(results fn t0).run P W= .ok v W/\R (.returned v) W):bodyPostM Fence.wide n P fn R .ret ⟨t0,[{target:= .collected D,args:=#[]}]⟩ w:=by
 have hK:w.heap[D]? =some (.deferred (some [])):=(aP.ok (fg D) (by simp)).holds
 show LeavesInM Fence.wide n P fn t0 R [{target:= .collected D,args:=#[]}] .returning w
 exact⟨by simp,.inl ⟨_,_,rfl,run_takeDeferred hK,h _ aP.takeD⟩⟩
end
section
open Go.RowKit
def eJ{α:Type}(J:List Nat->List α->World->Prop)(C:List Nat)(pre:List α):Ent:=⟨C,J C pre⟩
theorem Upd.putObj{S:List Nat}{A B:World}{l:Nat}{o:Obj}(h:Upd S A B)(hl:l∈S\/A.heap.size<=l):Upd S A (B.putObj l o):=by
 have hg:=grownBy_putObj' B l o
 refine⟨hg.os.trans h.os,hg.tape.trans h.tape,hg.output.trans h.output,Nat.le_trans h.size hg.size,fun k hk hn=>?_⟩
 rw[hg.block k (Nat.lt_of_lt_of_le hk h.size) fun e=>?_]
 exact h.block k hk hn
 cases e
 rcases hl with h1|h1
 exact hn h1
 omega
theorem fN(W:World)(l:Nat)(o:Obj):(W.putObj l o).heap.size=W.heap.size:=by simp
end
section
open Go.RowKit
section
variable{P:Program}{o:Oper}{ρ:Operand->Value}{W:World}
theorem BY{c:Call}{x:Operand}{l:Nat}{args:Array Value}(h:o.op= .call c)(hcal:c.callee= .value x)(hx:ρ x= .func (.yield l) #[] #[])(ha:c.args.map ρ=args){r:Result Next}(hr:(Instr.yield l args).run P W=r):(execOp ρ o).run P W=r:=by
 subst hr
 unfold execOp;rw[h]
 simp only[resolve,hcal,hx,Deferred.ofValue,ha,Sem.run_bind,Sem.run_pure,Result.andThen_ok,invoke]
 simp
end
theorem ml{P:Program}{ops:Array Oper}{Q:Exit->Act->World->Prop}{i:Nat}{rest:List Nat}{o:Oper}{t:List Value}{d0:List Deferred}{W:World}{v:Value}{d:Tmp}{t':List Value}(ho:ops[i]? =some o)(hg:o.guard=none)(hd:o.dst=some d)(hr:(execOp (Act.eval ⟨t.toArray,d0⟩) o).run P W= .ok (.value v) W)(ht:t.set d v=t')(h:wpOpsIn Fence.wide 2 P ops Q rest ⟨t'.toArray,d0⟩ W):wpOpsIn Fence.wide 2 P ops Q (i::rest) ⟨t.toArray,d0⟩ W:=by
 unfold wpOpsIn
 simp only[ho]
 rw[if_pos (show Region.wanted o _=true by unfold Region.wanted;rw[hg])]
 refine⟨fun _ _=>trivial,?_⟩
 show o.uponIn Fence.wide 2 P _ _ Q ((execOp (Act.eval ⟨t.toArray,d0⟩) o).run P W)
 rw[hr,Oper.uponIn_value,hd]
 show wpOpsIn Fence.wide 2 P ops Q rest ⟨t.toArray.setIfInBounds d v,d0⟩ W
 rw[List.setIfInBounds_toArray,ht]
 exact h
theorem vU{P:Program}{id:Nat}{o0 o1 o2 o3:Oper}{Q:Exit->Act->World->Prop}{a:Act}{W:World}(h:wpOpsIn Fence.wide 2 P #[o0,o1,o2,o3] Q [0,1,2,3] a W):(Code.region id #[o0,o1,o2,o3] false).wp P Q a W:=
 (wpIn_wide (n:=2)).1 (wpIn_region h)
abbrev YnD:=NoD×Int×Option Addr×Nat
def ynE(x:YnD):Array Value:=#[knV x.2.1 x.1 x.2.2.1 x.2.2.2]
def ynC(x:YnD):List Value:=[.int .i64 x.2.1,.int .i64 x.1.lv,.int .i64 x.1.right,.string x.1.high,.bool x.1.dead,.slice x.2.2.1 x.1.es.length x.2.2.2,.int .i64 (x.1.free:Int)]
def ynR(x:YnD):Ent:=eO 89 3 (.slice x.2.2.1 x.1.es.length x.2.2.2) x.1.es.length (x.1.es.flatMap enC)
end
section
open Go.RowKit
theorem zK{F:Fence}{nf:Nat}{P:Program}{Q:Exit->Act->World->Prop}{a:Act}{w:World}{c:Code}(I:Nat->Act->World->Prop)(n0:Nat)(h₀:I n0 a w)
  (round:∀n a w,I n a w->c.wpIn F nf P (Exit.then (fun a' w'=>∃m,m<n/\I m a' w') Q) a w):(Code.loop c).wpIn F nf P Q a w:=by
 intro b k cs hro hb hr
 have key:∀m a w,I m a w->∃e a' w',Q e a' w'/\ArrivesIn (Machine.fenced P F) P (lone (b.atR a (.code c:: .inLoop c::k)) cs w) b k cs e a' w':=by
  intro m
  induction m using Nat.strongRecOn with
  |_ m ih=>
   intro a w h
   obtain⟨e,a₁,w₁,hq,harr⟩:=round m a w h b (.inLoop c::k) cs hro hb hr
   cases e with
   |normal=>
    obtain⟨m',hlt,hI₁⟩:=hq
    obtain⟨e₂,a₂,w₂,hq₂,harr₂⟩:=ih m' hlt a₁ w₁ hI₁
    exact⟨e₂,a₂,w₂,hq₂,.of_steps (StepsIn.trans harr (.one (fenced_calm hb hr rfl) stepR_inLoop)) harr₂⟩
   |exit id=>exact⟨_,a₁,w₁,hq,.pass (x:= .inLoop c) rfl (fun _ _=> .inl (by simp)) harr⟩
   |goto l=>exact⟨_,a₁,w₁,hq,.pass (x:= .inLoop c) rfl (fun _ _=> .inl (by simp)) harr⟩
   |ret=>exact⟨_,a₁,w₁,hq,.pass (x:= .inLoop c) rfl (fun _ _=> .inl (by simp)) harr⟩
   |panic ch=>exact⟨_,a₁,w₁,hq,.pass (x:= .inLoop c) rfl (fun _ _=> .inl (by simp)) harr⟩
   |outgrown=>exact⟨_,a₁,w₁,hq,.pass (x:= .inLoop c) rfl (fun _ _=> .inl (by simp)) harr⟩
 obtain⟨e,a',w',hq,harr⟩:=key n0 a w h₀
 exact⟨e,a',w',hq,.of_steps (.one (fenced_calm hb hr rfl) stepR_loop) harr⟩
def zH{α:Type}(P:Program)(gf:Nat)(lb:Array Value)(encs:α->Array Value)(Ex:α->Ent)(Px:α->Prop)(N:Nat)(Z:Bool->List α->Ent->Prop)(Rd:World->Prop):Prop:=
 ∀(l:Nat) (J:Bool->List Nat->List α->World->Prop) (W:World) (C0:List Nat),(∀A,Upd C0 W A->Rd A)->(∀b C pre,(eJ (J b) C pre).loc)->(∀k∈C0,k<W.heap.size)->J true C0 [] W->
  (∀C pre x A,Px x->St A (C++(Ex x).fp) [eJ (J true) C pre,Ex x] A->pre.length<N->YieldAt Fence.wide 1 P l (encs x) A fun e B=>∃b,e= .returned (.bool b)/\∃C',St A (C++(Ex x).fp) [eJ (J b) C' (pre++[x]),Ex x] B)->
  CallsIn Fence.wide 2 P gf (#[.func (.yield l) #[] #[]]++lb) W fun e B=>(∃v,e= .returned v)/\∃b C xs E,St W C0 [eJ (J b) C xs,E] B/\Z b xs E
theorem kw{α:Type}{P:Program}{g:Operand}{ps:Array Tmp}{assign body:Code}{Q:Exit->Act->World->Prop}{t0:Array Value}{w0 w:World}{L0:List Ent}(aP:St w0 [] L0 w)
  {gf:Nat}{lb:Array Value}(hg:Act.eval ⟨t0,[]⟩ g= .func (.func gf) #[] lb) (eg:∀args w,(callFunc gf args).run P w= .ok (.enter gf args) w)
  {encs:α->Array Value}{Ex:α->Ent}{Px:α->Prop}{N:Nat}{Z:Bool->List α->Ent->Prop}{Rd:World->Prop}(hseq:zH P gf lb encs Ex Px N Z Rd) (hRd:∀A,Upd (fps L0) w A->Rd A) (hps:∀x,(encs x).size=ps.size) (I:Bool->List α->List Ent->Prop) (h0:I true [] L0) (Ax:α->Act->Ent->Prop) (t1:α->List Value) (ht1:∀x,(ps.zip (encs x)).foldl (fun t (p,v)=>t.setIfInBounds p v) t0=(t1 x).toArray)
  (hassign:∀(l:Nat) (x:α) (W:World) (K:Act->World->Prop),(∀a' W' E,Ax x a' E->St W [] [E] W'->K a' W')->assign.wpIn (Rnd l) 1 P (Exit.then K (fun _ _ _=>False)) ⟨(t1 x).toArray,[]⟩ W)
  (hbody:∀(l:Nat) (pre:List α) (x:α) (W:World) (L:List Ent) (a':Act) (E:Ent),I true pre L->pre.length<N->Px x->Ax x a' E->St W (fps (L++[Ex x,E])) (L++[Ex x,E]) W->body.wpIn (Rnd l) 1 P (fun e _ W'=>∃b,((b=true/\e= .normal)\/(b=false/\e= .ret))/\∃L',I b (pre++[x]) L'/\St W (fps (L++[Ex x,E])) (L'++[Ex x]) W') a' W)
  (hdone:∀(D:Nat) (W:World) (L:List Ent) (xs:List α) (E:Ent),I true xs L->Z true xs E->St w0 [] (L++[E,fg D]) W->Q .normal ⟨t0,[{target:= .collected D,args:=#[]}]⟩ W)
  (hret:∀(D:Nat) (W:World) (L:List Ent) (xs:List α) (E:Ent),I false xs L->Z false xs E->St w0 [] (L++[E,fg D]) W->Q .ret ⟨t0,[{target:= .collected D,args:=#[]}]⟩ W):
  (Code.rangeFunc g ps assign body).wp P Q ⟨t0,[]⟩ w:=by
 refine(wpIn_wide (n:=3)).1 (wpIn_rangeFunc fun fn hfn=>?_)
 obtain⟨D,hD⟩:∃D,w.heap.size=D:=⟨_,rfl⟩
 obtain⟨rec,hrec⟩:∃rec:LoopState->Option Code->Loop,rec=fun s p=>{state:=s,pending:=p,fn,tmps:=t0,params:=ps,assign,body,defers:=D}:=⟨_,rfl⟩
 obtain⟨rb,hrb⟩:∃rb:Bool->Loop,rb=fun b=>if b then rec .ready none else rec .done (some .ret):=⟨_,rfl⟩
 obtain⟨W1,hW1⟩:∃W1,(w.alloc (.deferred (some []))).alloc (.loop (rec .ready none))=W1:=⟨_,rfl⟩
 have hL1:W1.heap[D+1]? =some (.loop (rec .ready none)):=by
  rw[<-hW1,<-hD];have:=World.alloc_heap_new (w.alloc (.deferred (some []))) (.loop (rec .ready none));rwa [World.size_alloc] at this
 have hK1:W1.heap[D]? =some (.deferred (some [])):=by
  rw[<-hW1,<-hD];exact(Below.heap_alloc _ _ _ (by simp)).trans (World.alloc_heap_new w _)
 have hx1:Ext w W1:=by rw[<-hW1];exact((Below.refl _ w).alloc (Nat.le_refl _) _).alloc (by simp) _
 have lj:W1.heap.size=D+2:=by rw[<-hW1,World.size_alloc,World.size_alloc,hD]
 have h0w:=aP.upd.size
 obtain⟨J,hJ⟩:∃J:Bool->List Nat->List α->World->Prop,J=fun b C pre A=>∃L,I b pre L/\C=(D+1)::D::fps L/\(∀e∈L,e.holds A/\e.loc)/\L.Pairwise Ent.apart/\(∀k∈fps L,k≠D+1/\k≠D)/\A.heap[D+1]? =some (.loop (rb b))/\A.heap[D]? =some (.deferred (some [])):=⟨_,rfl⟩
 have hloc:∀b C pre,(eJ (J b) C pre).loc:=fun b C pre A B hk h=>by
  subst hJ
  obtain⟨L,h1,rfl,h2,h3,h4,h5,h6⟩:=h
  refine⟨L,h1,rfl,fun e he=>⟨(h2 e he).2 A B (fun k hk'=>hk k ?_) (h2 e he).1,(h2 e he).2⟩,h3,h4,(hk (D+1) (by simp[eJ])).trans h5,(hk D (by simp[eJ])).trans h6⟩
  exact List.mem_cons_of_mem _ (List.mem_cons_of_mem _ (cV.2 ⟨e,he,hk'⟩))
 have hC0:∀k∈(D+1)::D::fps L0,w0.heap.size<=k/\k<W1.heap.size:=fun k hk=>by
  rcases List.mem_cons.1 hk with rfl|hk
  exact⟨by omega,by omega⟩
  rcases List.mem_cons.1 hk with rfl|hk
  exact⟨by omega,by omega⟩
  have:=aP.fps_own hk
  have h5:=this.1.resolve_left (by simp)
  exact⟨h5,by omega⟩
 have hrbt:rb true=rec .ready none:=by rw[hrb];rfl
 have hrbf:rb false=rec .done (some .ret):=by rw[hrb];rfl
 have hJ0:J true ((D+1)::D::fps L0) [] W1:=by
  subst hJ
  refine⟨L0,h0,rfl,fun e he=>⟨(aP.ok e he).loc w W1 (fun k hk=>hx1.block ((aP.ok e he).own k hk).2) (aP.ok e he).holds,(aP.ok e he).loc⟩,aP.apart,fun k hk=>?_,by rw[hrbt];exact hL1,hK1⟩
  have:=(aP.fps_own hk).2
  exact⟨by omega,by omega⟩
 refine⟨D+1,[{target:= .collected D,args:=#[]}],W1,{target:= .fn (.func gf) lb,args:=#[.func (.yield (D+1)) #[] #[]]},W1,gf,#[.func (.yield (D+1)) #[] #[]]++lb,W1,?_,?_,?_,?_,fun _=>by omega,?_⟩
 rw[<-hW1,hrec,<-hD];exact run_enterLoop_outer _ _ _ _ _
 simp only[resolve,hg]
 simp[go_sem]
 intro f' hf';trivial
 simp[invoke,go_sem,eg]
 refine(hseq (D+1) J W1 _ (fun A hA=>hRd A ((Upd.mono (S:=[]) (Upd.of_ext hx1) (fun k _ hk'=>by simp at hk')).join hA fun i hi=>?_)) hloc (fun k hk=>(hC0 k hk).2) hJ0 ?_).mono ?_
 rcases List.mem_cons.1 hi with rfl|hi
 exact .inr (by omega)
 rcases List.mem_cons.1 hi with rfl|hi
 exact .inr (by omega)
 exact .inl hi
 intro C pre x A hPx hsA hlen
 have hjo:=hsA.ok (eJ (J true) C pre) (by simp)
 have hxo:=hsA.ok (Ex x) (by simp)
 have hapx:=List.pairwise_pair.1 hsA.apart
 have hlt:∀k∈C,k<A.heap.size:=fun k hk=>(hjo.own k hk).2
 have hj:J true C pre A:=hjo.holds
 clear hjo hsA
 subst hJ
 obtain⟨L,hi,rfl,hall,hap,hne,hl,hk⟩:=hj
 rw[hrbt] at hl
 have hlA:D+1<A.heap.size:=hlt _ (by simp)
 have hDA:D<A.heap.size:=hlt _ (by simp)
 have hxne:∀k∈(Ex x).fp,k≠D+1/\k≠D/\k∉fps L:=fun k hk'=>by
  refine⟨fun e=>?_,fun e=>?_,fun e=>?_⟩
  subst e;exact hapx (D+1) (by simp[eJ]) hk'
  subst e;exact hapx k (by simp[eJ]) hk'
  exact hapx k (by simp[eJ,e]) hk'
 have hxlt:∀k∈(Ex x).fp,k<A.heap.size:=fun k hk'=>(hxo.own k hk').2
 have hy:=run_yield (P:=P) (args:=encs x) hl (by rw[hrec];exact hps x)
 rw[hrec] at hy
 refine⟨fn,_,assign,body,hy,roundIn_of_wpIn hfn ?_⟩
 rw[ht1 x]
 refine hassign _ x A _ fun a' A1 E1 hAx hE1=>?_
 have hxA:=hE1.ext
 have hl1:A1.heap[D+1]? =some (.loop (rec .ready none)):=(hxA.block hlA).trans hl
 have hk1:A1.heap[D]? =some (.deferred (some [])):=(hxA.block hDA).trans hk
 have hEo:=hE1.ok E1 (by simp)
 have hEn:∀k∈E1.fp,A.heap.size<=k/\k<A1.heap.size:=fun k hk'=>⟨(hEo.own k hk').1.resolve_left (by simp),(hEo.own k hk').2⟩
 have hsA1:=hxA.size
 refine⟨_,run_beginRound hl1 (by rw[hrec]),?_⟩
 obtain⟨A2,hA2⟩:∃A2,A1.putObj (D+1) (.loop {rec .ready none with state:= .busy})=A2:=⟨_,rfl⟩
 have hsz:A2.heap.size=A1.heap.size:=by rw[<-hA2];exact fN _ _ _
 have hoth:∀k,k≠D+1->A2.heap[k]? =A1.heap[k]? :=fun k hk'=>by rw[<-hA2];exact World.putObj_heap_other hk'
 have hbusy:A2.heap[D+1]? =some (.loop {rec .ready none with state:= .busy}):=by rw[<-hA2];exact World.putObj_heap_same (by omega)
 have hLlt:∀k∈fps L,k<A.heap.size:=fun k hk'=>hlt k (List.mem_cons_of_mem _ (List.mem_cons_of_mem _ hk'))
 have aN:St A2 (fps (L++[Ex x,E1])) (L++[Ex x,E1]) A2:=by
  refine⟨Upd.refl _ _,fun e he=>?_,?_⟩
  have hin:∀k∈e.fp,k∈fps (L++[Ex x,E1]):=fun k hk'=>cV.2 ⟨e,he,hk'⟩
  rcases List.mem_append.1 he with he|he
  refine⟨(hall e he).2 A A2 (fun k hk'=>?_) (hall e he).1,(hall e he).2,fun k hk'=>⟨.inl (hin k hk'),?_⟩⟩
  have h1:=cV.2 ⟨e,he,hk'⟩
  exact(hoth k (hne k h1).1).trans (hxA.block (hLlt k h1))
  have:=hLlt k (cV.2 ⟨e,he,hk'⟩);omega
  simp only[List.mem_cons,List.not_mem_nil,or_false] at he
  rcases he with rfl|rfl
  refine⟨hxo.loc A A2 (fun k hk'=>(hoth k (hxne k hk').1).trans (hxA.block (hxlt k hk'))) hxo.holds,hxo.loc,fun k hk'=>⟨.inl (hin k hk'),?_⟩⟩
  have:=hxlt k hk';omega
  exact⟨hEo.loc A1 A2 (fun k hk'=>hoth k (by have:=(hEn k hk').1;omega)) hEo.holds,hEo.loc,fun k hk'=>⟨.inl (hin k hk'),by have:=(hEn k hk').2;omega⟩⟩
  rw[List.pairwise_append,List.pairwise_pair]
  refine⟨hap,fun k hk' hkb=>?_,fun a ha b hb k hk' hkb=>?_⟩
  have h1:=hxlt k hk'
  have h2:=(hEn k hkb).1
  omega
  simp only[List.mem_cons,List.not_mem_nil,or_false] at hb
  have hkf:k∈fps L:=cV.2 ⟨a,ha,hk'⟩
  rcases hb with rfl|rfl
  exact(hxne k hkb).2.2 hkf
  have h1:=hLlt k hkf
  have h2:=(hEn k hkb).1
  omega
 rw[hA2]
 have hfin:∀k∈fps (L++[Ex x,E1]),k∈fps L\/k∈(Ex x).fp\/A.heap.size<=k:=fun k hk'=>by
  obtain⟨e,he,hke⟩:=cV.1 hk'
  rcases List.mem_append.1 he with he|he
  exact .inl (cV.2 ⟨e,he,hke⟩)
  simp only[List.mem_cons,List.not_mem_nil,or_false] at he
  rcases he with rfl|rfl
  exact .inr (.inl hke)
  exact .inr (.inr (hEn k hke).1)
 refine wpIn_mono (hbody _ pre x A2 L a' E1 hi hlen hPx hAx aN) ?_
 rintro e a W3 ⟨b,hbe,L',hi',hs'⟩
 have hno:∀m,m=D+1\/m=D->m∉fps (L++[Ex x,E1]):=fun m hm hmm=>by
  rcases hfin m hmm with h1|h1|h1
  have:=hne m h1;rcases hm with rfl|rfl<;>simp at this
  have:=hxne m h1;rcases hm with rfl|rfl<;>simp at this
  omega
 have hl3:W3.heap[D+1]? =some (.loop {rec .ready none with state:= .busy}):=(hs'.upd.block _ (by omega) (hno _ (.inl rfl))).trans hbusy
 have hk3:W3.heap[D]? =some (.deferred (some [])):=(hs'.upd.block _ (by omega) (hno _ (.inr rfl))).trans ((hoth D (by omega)).trans hk1)
 have hsz3:=hs'.upd.size
 have hne':∀k∈fps (L'++[Ex x]),k≠D+1/\k≠D:=fun k hk'=>by
  rcases(hs'.fps_own hk').1 with h1|h1
  rcases hfin k h1 with h2|h2|h2
  exact hne k h2
  exact⟨(hxne k h2).1,(hxne k h2).2.1⟩
  exact⟨by omega,by omega⟩
  exact⟨by omega,by omega⟩
 have hupA:Upd (((D+1)::D::fps L)++(Ex x).fp) A A2:=by rw[<-hA2];exact(Upd.mono (S:=[]) (Upd.of_ext hxA) (fun k _ hk'=>by simp at hk')).putObj (.inl (by simp))
 have hup:Upd (((D+1)::D::fps L)++(Ex x).fp) A W3:=hupA.join hs'.upd (fun i hi=>by
  rcases hfin i hi with h1|h1|h1
  exact Or.inl (List.mem_append_left _ (List.mem_cons_of_mem _ (List.mem_cons_of_mem _ h1)))
  exact Or.inl (List.mem_append_right _ h1)
  exact .inr h1)
 have h3l:D+1<W3.heap.size:=by omega
 have hapL:=List.pairwise_append.1 hs'.apart
 have fin:∀(ob:Loop),rb b=ob->St A (((D+1)::D::fps L)++(Ex x).fp) [eJ (fun C pre A=>∃L,I b pre L/\C=(D+1)::D::fps L/\(∀e∈L,e.holds A/\e.loc)/\L.Pairwise Ent.apart/\(∀k∈fps L,k≠D+1/\k≠D)/\A.heap[D+1]? =some (.loop (rb b))/\A.heap[D]? =some (.deferred (some []))) ((D+1)::D::fps L') (pre++[x]),Ex x] (W3.putObj (D+1) (.loop ob)):=by
  intro ob hob
  have own3:∀k,k∈fps (L'++[Ex x])->(k∈((D+1)::D::fps L)++(Ex x).fp\/A.heap.size<=k)/\k<W3.heap.size:=fun k hk'=>by
   have h6:=hs'.fps_own hk'
   refine⟨?_,h6.2⟩
   rcases h6.1 with h7|h7
   rcases hfin k h7 with h8|h8|h8
   exact .inl (List.mem_append_left _ (List.mem_cons_of_mem _ (List.mem_cons_of_mem _ h8)))
   exact .inl (List.mem_append_right _ h8)
   exact .inr h8
   exact .inr (by omega)
  have inL:∀k∈fps L',k∈fps (L'++[Ex x]):=fun k hk'=>by
   obtain⟨e,he,hke⟩:=cV.1 hk'
   exact cV.2 ⟨e,List.mem_append_left _ he,hke⟩
  have inX:∀k∈(Ex x).fp,k∈fps (L'++[Ex x]):=fun k hk'=>cV.2 ⟨Ex x,by simp,hk'⟩
  have hxo3:=hs'.ok (Ex x) (by simp)
  refine⟨hup.putObj (.inl (by simp)),fun e he=>?_,List.pairwise_pair.2 fun k hk' hkx=>?_⟩
  simp only[List.mem_cons,List.not_mem_nil,or_false] at he
  rcases he with rfl|rfl
  refine⟨⟨L',hi',rfl,fun e he=>⟨(hs'.ok e (List.mem_append_left _ he)).loc W3 _ (fun k hk'=>World.putObj_heap_other (hne' k (inL k (cV.2 ⟨e,he,hk'⟩))).1) (hs'.ok e (List.mem_append_left _ he)).holds,(hs'.ok e (List.mem_append_left _ he)).loc⟩,hapL.1,fun k hk'=>hne' k (inL k hk'),?_,?_⟩,hloc b _ _,fun k hk'=>?_⟩
  rw[hob];exact World.putObj_heap_same h3l
  exact(World.putObj_heap_other (by omega)).trans hk3
  rw[fN]
  have hk':k∈(D+1)::D::fps L':=hk'
  rcases List.mem_cons.1 hk' with rfl|hk'
  exact⟨.inl (by simp),h3l⟩
  rcases List.mem_cons.1 hk' with rfl|hk'
  exact⟨.inl (by simp),by omega⟩
  exact own3 k (inL k hk')
  refine⟨hxo3.loc W3 _ (fun k hk'=>World.putObj_heap_other (hne' k (inX k hk')).1) hxo3.holds,hxo3.loc,fun k hk'=>?_⟩
  rw[fN]
  exact own3 k (inX k hk')
  have hk':k∈(D+1)::D::fps L':=hk'
  rcases List.mem_cons.1 hk' with rfl|hk'
  exact(hne' _ (inX _ hkx)).1 rfl
  rcases List.mem_cons.1 hk' with rfl|hk'
  exact(hne' _ (inX _ hkx)).2 rfl
  obtain⟨e,he,hke⟩:=cV.1 hk'
  exact hapL.2.2 e he (Ex x) (by simp) k hke hkx
 rcases hbe with ⟨rfl,rfl⟩|⟨rfl,rfl⟩
 refine⟨_,_,run_endRound none hl3,true,rfl,(D+1)::D::fps L',?_⟩
 exact fin _ (by rw[hrbt,hrec];rfl)
 refine⟨_,_,run_endRound (some .ret) hl3,false,rfl,(D+1)::D::fps L',?_⟩
 exact fin _ (by rw[hrbf,hrec];rfl)
 rintro e W2 ⟨⟨v,rfl⟩,b,C,xs,E,hs,hz⟩
 have hE:=hs.ok E (by simp)
 have hjo:=hs.ok (eJ (J b) C xs) (by simp)
 have hap2:=List.pairwise_pair.1 hs.apart
 have hj:J b C xs W2:=hjo.holds
 have hjown:∀k∈C,(k∈(D+1)::D::fps L0\/W1.heap.size<=k)/\k<W2.heap.size:=fun k hk'=>hjo.own k hk'
 have hsupd:=hs.upd
 clear hjo hs
 subst hJ
 obtain⟨L,hi,rfl,hall,hap,hne,hl,hk⟩:=hj
 have hap2:∀k∈(D+1)::D::fps L,k∉E.fp:=hap2
 have hend:=run_endLoop (P:=P) hl (by rw[hrb,hrec];cases b<;>simp)
 have hCo:∀k∈(D+1)::D::fps L,(w0.heap.size<=k/\k<W2.heap.size):=fun k hk'=>by
  have h5:=hjown k hk'
  refine⟨?_,h5.2⟩
  rcases h5.1 with h6|h6
  exact(hC0 k h6).1
  omega
 have hup:Upd [] w0 W2:=(Upd.of_ext (aP.ext.trans hx1)).join hsupd (fun i hi=> .inr (hC0 i hi).1)
 have hlA:=(hCo (D+1) (by simp)).2
 have hw0D:w0.heap.size<=D+1:=by omega
 have fin:∀ob:Obj,St w0 [] (L++[E,fg D]) (W2.putObj (D+1) ob):=by
  intro ob
  refine⟨hup.putObj (.inr hw0D),fun e he=>?_,?_⟩
  rcases List.mem_append.1 he with he|he
  refine⟨(hall e he).2 W2 _ (fun k hk'=>World.putObj_heap_other (hne k (cV.2 ⟨e,he,hk'⟩)).1) (hall e he).1,(hall e he).2,fun k hk'=>?_⟩
  rw[fN]
  have:=hCo k (List.mem_cons_of_mem _ (List.mem_cons_of_mem _ (cV.2 ⟨e,he,hk'⟩)))
  exact⟨.inr this.1,this.2⟩
  simp only[List.mem_cons,List.not_mem_nil,or_false] at he
  rcases he with rfl|rfl
  refine⟨hE.loc W2 _ (fun k hk'=>World.putObj_heap_other fun e=>?_) hE.holds,hE.loc,fun k hk'=>?_⟩
  subst e;exact hap2 (D+1) (by simp) hk'
  rw[fN]
  have h5:=hE.own k hk'
  refine⟨.inr ?_,h5.2⟩
  rcases h5.1 with h6|h6
  exact(hC0 k h6).1
  omega
  refine⟨(World.putObj_heap_other (by omega)).trans hk,HY D,fun k hk'=>?_⟩
  have:k=D:=by simpa[fg] using hk'
  subst this
  rw[fN]
  exact⟨.inr (by omega),by omega⟩
  rw[List.pairwise_append,List.pairwise_pair]
  refine⟨hap,fun k hk' hkD=>?_,fun a ha b hb k hk' hkb=>?_⟩
  have:k=D:=by simpa[fg] using hkD
  subst this
  exact hap2 k (by simp) hk'
  simp only[List.mem_cons,List.not_mem_nil,or_false] at hb
  have hkf:k∈fps L:=cV.2 ⟨a,ha,hk'⟩
  rcases hb with rfl|rfl
  exact hap2 k (List.mem_cons_of_mem _ (List.mem_cons_of_mem _ hkf)) hkb
  have:k=D:=by simpa[fg] using hkb
  exact(hne k hkf).2 this
 cases b with
 |true=>
  have hpend:(rb true).pending=none:=by rw[hrb,hrec];rfl
  rw[hpend] at hend
  exact⟨none,_,hend,hdone D _ L xs E hi hz (fin _)⟩
 |false=>
  have hpend:(rb false).pending=some .ret:=by rw[hrb,hrec];rfl
  rw[hpend] at hend
  exact⟨some .ret,_,hend,wpIn_ret (hret D _ L xs E hi hz (fin _))⟩
end
section
open Go.RowKit
def cg:NoD:=⟨0,0,⟨#[]⟩,false,[],0⟩
def ndZ(ps:List PgS)(x:Int):NoD:=(av ps x).getD cg
def pgN(y:YnD):Int×NoD:=(y.2.1,y.1)
def eFt(a:Prop):Ent:=⟨[],fun _=>a⟩
theorem AH{c:Prop}{w W:World}{bor:List Nat}{L:List Ent}(h:St w bor L W)(hp:c):St w bor (L++[eFt c]) W:=by
 refine⟨h.upd,fun e he=>?_,List.pairwise_append.2 ⟨h.apart,List.pairwise_singleton _ _,fun a ha b hb k hk hkb=>?_⟩⟩
 rcases List.mem_append.1 he with he|he
 exact h.ok e he
 rw[List.mem_singleton] at he;subst he
 exact⟨hp,fun W W' _ h=>h,fun k hk=>by simp[eFt] at hk⟩
 rw[List.mem_singleton] at hb;subst hb;simp[eFt] at hkb
def eYs(xs:List YnD)(fp:List Nat):Ent:=⟨fp,fun W=>∀y∈xs,(∀ad,y.2.2.1=some ad->ad.block∈fp)/\At W y.2.2.1 (y.1.es.flatMap enC)⟩
theorem yf(xs:List YnD)(fp:List Nat):(eYs xs fp).loc:=fun W W' hk h y hy=>⟨(h y hy).1,eC (h y hy).2 fun ad e _=>hk _ ((h y hy).1 ad e)⟩
theorem St.yn0{w W:World}{bor:List Nat}{L:List Ent}(h:St w bor L W):St w bor (L++[eYs [] []]) W:=by
 refine⟨h.upd,fun e he=>?_,List.pairwise_append.2 ⟨h.apart,List.pairwise_singleton _ _,fun a ha b hb k hk hkb=>?_⟩⟩
 rcases List.mem_append.1 he with he|he
 exact h.ok e he
 rw[List.mem_singleton] at he;subst he
 exact⟨fun y hy=>absurd hy (by simp),yf _ _,fun k hk=>by simp[eYs] at hk⟩
 rw[List.mem_singleton] at hb;subst hb;simp[eYs] at hkb
theorem yu{W:World}{t sz m lc:Nat}{LA:Option Addr}{xs:List Value}(h:W.ownsRow 0 t sz (.slice LA m lc) m xs):∀ad,LA=some ad->ad.block∈(Value.ownBlock (.slice LA m lc)).toList:=fun ad e=>by
 rcases h.2 with ⟨hv,_⟩|⟨g,cap,cur,hv,_⟩
 injection hv with h2;rw[e] at h2;cases h2
 subst e;injection hv with h5;injection h5 with h5;subst h5;simp[Value.ownBlock]
theorem St.yn1{w W:World}{bor:List Nat}{L:List Ent}{xs:List YnD}{fp:List Nat}{y:YnD}(h:St w bor (eYs xs fp::ynR y::L) W):St w bor (eYs (xs++[y]) (fp++(ynR y).fp)::L) W:=by
 have h1:=h.ok (eYs xs fp) (by simp)
 have h2:=h.ok (ynR y) (by simp)
 have hp:=List.pairwise_cons.1 h.apart
 have mM:=List.pairwise_cons.1 hp.2
 have hR:W.ownsRow 0 89 3 (.slice y.2.2.1 y.1.es.length y.2.2.2) y.1.es.length (y.1.es.flatMap enC):=h2.holds
 refine⟨h.upd,fun e he=>?_,List.pairwise_cons.2 ⟨fun e he k hk hke=>?_,mM.2⟩⟩
 rcases List.mem_cons.1 he with rfl|he
 refine⟨fun z hz=>?_,yf _ _,fun k hk=>?_⟩
 rcases List.mem_append.1 hz with hz|hz
 exact⟨fun ad e=>List.mem_append_left _ ((h1.holds z hz).1 ad e),(h1.holds z hz).2⟩
 rw[List.mem_singleton] at hz;subst hz
 exact⟨fun ad e=>List.mem_append_right _ (yu hR ad e),At.of_ownN hR⟩
 rcases List.mem_append.1 hk with hk|hk
 exact h1.own k hk
 exact h2.own k hk
 exact h.ok e (by simp[he])
 rcases List.mem_append.1 hk with hk|hk
 exact hp.1 e (by simp[he]) k hk hke
 exact mM.1 e he k hk hke
theorem St.borrow{w W:World}{bor:List Nat}{a b:Ent}{L:List Ent}(h:St w bor (a::b::L) W):St W (a.fp++b.fp) [a,b] W:=by
 have ha:=h.ok a (by simp)
 have hb:=h.ok b (by simp)
 refine⟨Upd.refl _ _,fun e he=>?_,List.pairwise_pair.2 ((List.pairwise_cons.1 h.apart).1 b (by simp))⟩
 simp only[List.mem_cons,List.not_mem_nil,or_false] at he
 rcases he with rfl|rfl
 exact⟨ha.holds,ha.loc,fun k hk=>⟨.inl (List.mem_append_left _ hk),(ha.own k hk).2⟩⟩
 exact⟨hb.holds,hb.loc,fun k hk=>⟨.inl (List.mem_append_right _ hk),(hb.own k hk).2⟩⟩
theorem St.back{w A B:World}{bor:List Nat}{a b a' b':Ent}{L:List Ent}(h:St w bor (a::b::L) A)(hj:St A (a.fp++b.fp) [a',b'] B):St w bor (a'::b'::L) B:=by
 have hp:=List.pairwise_cons.1 h.apart
 have mM:=List.pairwise_cons.1 hp.2
 have hab:∀k∈a.fp++b.fp,(k∈bor\/w.heap.size<=k)/\k<A.heap.size:=fun k hk=>by
  rcases List.mem_append.1 hk with hk|hk
  exact(h.ok a (by simp)).own k hk
  exact(h.ok b (by simp)).own k hk
 have hL:∀e∈L,∀k∈e.fp,k∉a.fp++b.fp:=fun e he k hke hk=>by
  rcases List.mem_append.1 hk with hk|hk
  exact hp.1 e (by simp[he]) k hk hke
  exact mM.1 e he k hk hke
 have hnew:∀e∈[a',b'],∀k∈e.fp,(k∈a.fp++b.fp\/A.heap.size<=k):=fun e he k hk=>((hj.ok e he).own k hk).1
 have hapart:∀e∈[a',b'],∀x∈L,e.apart x:=fun e he x hx k hk hkx=>by
  rcases hnew e he k hk with h1|h1
  exact hL x hx k hkx h1
  have:=((h.ok x (by simp[hx])).own k hkx).2;omega
 refine⟨h.upd.join hj.upd (fun i hi=>(hab i hi).1),fun e he=>?_,List.pairwise_cons.2 ⟨fun e he=>?_,List.pairwise_cons.2 ⟨fun e he=>hapart b' (by simp) e he,mM.2⟩⟩⟩
 have key:∀e∈[a',b'],e.ok w bor B:=fun e he=>by
  have h2:=hj.ok e he
  refine⟨h2.holds,h2.loc,fun k hk=>⟨?_,(h2.own k hk).2⟩⟩
  rcases(h2.own k hk).1 with h1|h1
  exact(hab k h1).1
  exact .inr (Nat.le_trans h.upd.size h1)
 rcases List.mem_cons.1 he with rfl|he
 exact key _ (by simp)
 rcases List.mem_cons.1 he with rfl|he
 exact key _ (by simp)
 exact(h.ok e (by simp[he])).keep hj.upd (fun k hk hkC=>hL e he k hk hkC)
 rcases List.mem_cons.1 he with rfl|he
 exact(List.pairwise_pair.1 hj.apart)
 exact hapart a' (by simp) e he
def YnZ(L:List (Int×NoD))(b:Bool)(xs:List YnD)(E:Ent):Prop:=E=eYs xs E.fp/\(b=true->xs.map pgN=L)/\∃r,xs.map pgN++r=L
theorem YnZ.all{L:List (Int×NoD)}{xs:List YnD}{fp:List Nat}(h:xs.map pgN=L):YnZ L true xs (eYs xs fp):=⟨rfl,fun _=>h,[],by rw[h,List.append_nil]⟩
theorem YnZ.some{L r:List (Int×NoD)}{xs:List YnD}{fp:List Nat}(h:xs.map pgN++r=L):YnZ L false xs (eYs xs fp):=⟨rfl,fun h=>(nomatch h),r,h⟩
structure RdR (b1 b2 b3:Nat) (tt:TypeId) (tv:Value) (root lv:Int) (ps:List PgS) (A:World):Prop where
 b1:Blk A b1 78 #[.iface tt tv]
 b2:Blk A b2 3 #[.int .i64 root]
 b3:Blk A b3 3 #[.int .i64 lv]
 pgs:PgsOk A tt tv ps
def HE(o:Option NoD)(x:Int)(w:World)(e:Ending)(w':World):Prop:=∃px EA ec,e= .returned (.tuple #[knV px (o.getD cg) EA ec,.bool o.isSome])/\St w [] [eO 89 3 (.slice EA (o.getD cg).es.length ec) (o.getD cg).es.length ((o.getD cg).es.flatMap enC),eFt (o.isSome=true->px=x)] w'
theorem zM(tt:TypeId)(tv:Value)(ps:List PgS)(x:Int)(w:World)(hS:PgsOk w tt tv ps)(hok:OkS ps)(hoc:OkC ps):Calls Tryz.prog 50 #[.iface tt tv,.int .i64 x] w (HE (av ps x) x w):=by
 refine(js tt tv ps x w hS hok hoc).mono fun e w' h=>?_
 cases ho:av ps x with
 |none=>
  rw[ho] at h
  obtain⟨p,rfl,hx⟩:=h
  exact⟨p,none,0,rfl,AH (L:=[_]) (by have h1:=bT (⟨Upd.of_ext hx,(fun e he=>absurd he (by simp)),List.Pairwise.nil⟩:St w [] [] w') 89 3;exact h1) fun h=>(nomatch h)⟩
 |some n=>
  rw[ho] at h
  obtain⟨EA,ec,rfl,hs⟩:=h
  exact⟨x,EA,ec,rfl,AH hs fun _=>rfl⟩
theorem Ik{ps:List PgS}(hok:OkS ps)(x:Int):NdOk (ndZ ps x):=by
 unfold ndZ
 cases h:av ps x with
 |none=>exact⟨by decide,by decide,by decide,by decide,(fun e he=>nomatch he),by decide⟩
 |some n=>exact cO hok h
theorem x9{P:Program}{ops:Array Oper}{Q:Exit->Act->World->Prop}{i:Nat}{rest:List Nat}{o:Oper}{t:List Value}{d0:List Deferred}{W:World}{d l:Nat}{args:Array Value}{R:Bool->World->Prop}(t':Bool->List Value)(ho:ops[i]? =some o)(hg:o.guard=none)(hd:o.dst=some d)
  (hr:∀r,(Instr.yield l args).run P W=r->(execOp (Act.eval ⟨t.toArray,d0⟩) o).run P W=r) (hy:YieldAt Fence.wide 1 P l args W fun e B=>∃b,e= .returned (.bool b)/\R b B) (ht:∀b,t.set d (.bool b)=t' b) (h:∀b B,R b B->∀tt,tt=t' b->wpOpsIn Fence.wide 2 P ops Q rest ⟨tt.toArray,d0⟩ B):wpOpsIn Fence.wide 2 P ops Q (i::rest) ⟨t.toArray,d0⟩ W:=by
 obtain⟨fn,tmps,assign,body,h1,h2⟩:=hy
 unfold wpOpsIn
 simp only[ho]
 rw[if_pos (show Region.wanted o _=true by unfold Region.wanted;rw[hg])]
 refine⟨fun _ _=>trivial,?_⟩
 show o.uponIn Fence.wide 2 P _ _ Q ((execOp (Act.eval ⟨t.toArray,d0⟩) o).run P W)
 rw[hr _ h1,Oper.uponIn_round]
 refine⟨fun hh=>by simp[Fence.wide] at hh,h2.mono ?_⟩
 rintro e B ⟨b,rfl,hB⟩
 show wpOpsIn Fence.wide 2 P ops Q rest (Act.put ⟨t.toArray,d0⟩ o.dst (.bool b)) B
 rw[hd]
 show wpOpsIn Fence.wide 2 P ops Q rest ⟨t.toArray.setIfInBounds d (.bool b),d0⟩ B
 rw[List.setIfInBounds_toArray,ht]
 exact h b B hB _ rfl
theorem CV{ps:List PgS}{root lv x:Int}{nd:NoD}{s:Nat}(hd:dA ps lv 1000 root=dA ps lv (1001-s) x)(hs:1<=s/\s<1000)(hn:av ps x=some nd)(hl:lv<nd.lv)(h2:0<nd.es.length):dA ps lv 1000 root=dA ps lv (1001-(s+1)) (nd.es.getD 0 en0).2.2:=by
 rw[hd,show 1001-s=(1001-(s+1))+1 by omega];exact mY hn hl (by omega)
theorem CS{ps:List PgS}{root lv:Int}(h:dA ps lv 1000 root=none):bo ps root lv=[]:=by rw[bo,h]
theorem B3{ps:List PgS}{root lv x:Int}{nd:NoD}(h:dA ps lv 1000 root=some (x,nd)):bo ps root lv=dG ps lv 1000 x:=by rw[bo,h]
theorem Fz{ps:List PgS}{lv x:Int}{nd:NoD}{s:Nat}(hn:av ps x=some nd)(hl:nd.lv≠lv)(h:¬(lv<nd.lv/\0<nd.es.length/\s<1000))(hs:1<=s/\s<=1000):dA ps lv (1001-s) x=none:=by
 by_cases h1:nd.lv<lv\/nd.es.length=0
 exact vN hn hl h1
 have:s=1000:=by omega
 subst this
 rw[show 1001-1000=0+1 by omega,mY hn (by omega) (by omega)];rfl
theorem F2{ps:List PgS}{root lv x:Int}{s:Bool}{nd:NoD}{k:Nat}(his:s=(av ps x).isSome)(hnz:nd=ndZ ps x)(hds:dA ps lv 1000 root=dA ps lv (1001-k) x)(hs:1<=k/\k<=1000)(h1:s=true->¬(lv<nd.lv/\0<nd.es.length/\k<1000))(h2:s=true->nd.lv≠lv):bo ps root lv=[]:=by
 refine CS (hds.trans ?_)
 cases ho:av ps x with
 |none=>exact wZ ho
 |some n=>
  have e:s=true:=by rw[his,ho];rfl
  have hn:nd=n:=by rw[hnz,ndZ,ho];rfl
  subst hn
  exact Fz ho (h2 e) (h1 e) hs
theorem GI{ps:List PgS}{lv x:Int}{k:Nat}(h:(av ps x).isSome=true->(ndZ ps x).lv≠lv):dG ps lv k x=[]:=by
 cases ho:av ps x with
 |none=>exact qF ho
 |some n=>exact vZ ho (by have:=h (by rw[ho];rfl);rwa [ndZ,ho] at this)
theorem A8{ps:List PgS}{root lv x:Int}{nd:NoD}{k:Nat}(hds:dA ps lv 1000 root=dA ps lv (1001-k) x)(hs:1<=k/\k<=1000)(hn:av ps x=some nd)(hl:nd.lv=lv):([]:List YnD).map pgN++dG ps lv (1000-0) x=bo ps root lv:=by
 rw[B3 (hds.trans (by rw[show 1001-k=(1000-k)+1 by omega];exact tj hn hl))];rfl
theorem Gy{L:List (Int×NoD)}{ps:List PgS}{lv x:Int}{i:Nat}{pre:List YnD}(h:pre.map pgN++dG ps lv (1000-i) x=L)(hi:¬i<1000):pre.map pgN=L:=by
 rw[show 1000-i=0 by omega] at h
 rw[<-h,dG,List.append_nil]
theorem CU{ps:List PgS}{root lv x:Int}{nd:NoD}{i:Nat}{pre:List YnD}{EA:Option Addr}{ec:Nat}(hrow:pre.map pgN++dG ps lv (1000-i) x=bo ps root lv)(hn:av ps x=some nd)(hl:nd.lv=lv)(hi:i<1000)(h:(av ps nd.right).isSome=true->(ndZ ps nd.right).lv≠lv):(pre++[(nd,x,EA,ec)]).map pgN=bo ps root lv:=by
 rw[<-hrow,show 1000-i=(1000-(i+1))+1 by omega,pR hn hl,GI h,List.map_append];rfl
theorem ER{ps:List PgS}{x:Int}{s:Bool}{nd:NoD}(his:s=(av ps x).isSome)(hnz:nd=ndZ ps x)(h:s=true):av ps x=some nd:=by
 subst h
 cases ho:av ps x with
 |none=>rw[ho] at his;cases his
 |some n=>rw[hnz,ndZ,ho];rfl
def HW(w:World)(root lv:Int)(ps:List PgS)(J:Bool->List Nat->List YnD->World->Prop)(C0:List Nat)(e:Ending)(B:World):Prop:=(∃v,e= .returned v)/\∃b C xs E,St w C0 [eJ (J b) C xs,E] B/\YnZ (bo ps root lv) b xs E
theorem wL{ps:List PgS}{root lv x:Int}{nd:NoD}{i:Nat}{pre:List YnD}{EA:Option Addr}{ec:Nat}(hrow:pre.map pgN++dG ps lv (1000-i) x=bo ps root lv)(hn:av ps x=some nd)(hl:nd.lv=lv)(hi:i<1000):(pre++[(nd,x,EA,ec)]).map pgN++dG ps lv (1000-(i+1)) nd.right=bo ps root lv:=by
 rw[<-hrow,show 1000-i=(1000-(i+1))+1 by omega,pR hn hl,List.map_append,List.append_assoc];rfl
theorem Dl(l:Nat)(b1 b2 b3:Nat)(tt:TypeId)(tv:Value)(root lv:Int)(ps:List PgS)(J:Bool->List Nat->List YnD->World->Prop)(C0:List Nat)(w:World)(hRd:∀A,Upd C0 w A->RdR b1 b2 b3 tt tv root lv ps A)(hok:OkS ps)(hoc:OkC ps)(hloc:∀b C pre,(eJ (J b) C pre).loc)(hlt:∀k∈C0,k<w.heap.size)(hJ0:J true C0 [] w)(hY:∀C pre x A,av ps x.2.1=some x.1->St A (C++(ynR x).fp) [eJ (J true) C pre,ynR x] A->pre.length<1000->YieldAt Fence.wide 1 Tryz.prog l (ynE x) A fun e B=>∃b,e= .returned (.bool b)/\∃C',St A (C++(ynR x).fp) [eJ (J b) C' (pre++[x]),ynR x] B):
  Calls Tryz.prog 101 #[.func (.yield l) #[] #[],.pointer (some ⟨b1,0,none⟩),.pointer (some ⟨b2,0,none⟩),.pointer (some ⟨b3,0,none⟩)] w (HW w root lv ps J C0):=by
 have st0:St w C0 [eJ (J true) C0 [],eYs [] []] w:=(St.lend (E:=eJ (J true) C0 []) hJ0 (hloc _ _ _) hlt).yn0
 go_enter Tryz.func101,Tryz.ntmps101
 have ar:=st0
 refine wp_seq (ak [0,0,3,7,15,15,0,95,255] [[],[],[],[],[],[],[],[4]] [[],[],[2,3],[],[],[],[4],[5]] [[],[],[],[],[],[],[],[4]] [.c 9 (.iface tt (tv)),.c 10 (vi root),.a 11,.a 8,.a 12,.c 13 (.bool ((av ps root).isSome)),.a 5,.n,.k 6 (.bool ((av ps root).isSome))] (fun ix g d X=>match ix with|0|1=>True|2=>g 11= .tuple #[.agg #[vi (iv (tg (tg (d 11) 0) 0)),vi ((ndZ ps root).lv),vi ((ndZ ps root).right),.string ((ndZ ps root).high),.bool ((ndZ ps root).dead),.slice (sA (tg (tg (d 11) 0) 5)) ((ndZ ps root).es.length) (sC (tg (tg (d 11) 0) 5)),vi (((ndZ ps root).free:Int))],.bool ((av ps root).isSome)]/\X 2=eO 89 3 (.slice (sA (tg (tg (d 11) 0) 5)) ((ndZ ps root).es.length) (sC (tg (tg (d 11) 0) 5))) ((ndZ ps root).es.length) ((ndZ ps root).es.flatMap enC)/\X 3=eFt ((av ps root).isSome=true->(iv (tg (tg (d 11) 0) 0))=root)|3=>g 8= .tuple #[.agg #[vi (iv (tg (tg (d 11) 0) 0)),vi ((ndZ ps root).lv),vi ((ndZ ps root).right),.string ((ndZ ps root).high),.bool ((ndZ ps root).dead),.slice (sA (tg (tg (d 11) 0) 5)) ((ndZ ps root).es.length) (sC (tg (tg (d 11) 0) 5)),vi (((ndZ ps root).free:Int))],.bool ((av ps root).isSome)]|4=>g 12= .agg #[vi (iv (tg (tg (d 11) 0) 0)),vi ((ndZ ps root).lv),vi ((ndZ ps root).right),.string ((ndZ ps root).high),.bool ((ndZ ps root).dead),.slice (sA (tg (tg (d 11) 0) 5)) ((ndZ ps root).es.length) (sC (tg (tg (d 11) 0) 5)),vi (((ndZ ps root).free:Int))]|5=>True|6=>g 5=vp (pb (d 5))/\X 4=eB (pb (d 5)) 84 #[vi 0,vi 0,vi 0,.string ByteArray.empty,.bool false,.slice none 0 0,vi 0]|7=>X 5=eB (pb (d 5)) 84 #[vi (iv (tg (tg (d 11) 0) 0)),vi ((ndZ ps root).lv),vi ((ndZ ps root).right),.string ((ndZ ps root).high),.bool ((ndZ ps root).dead),.slice (sA (tg (tg (d 11) 0) 5)) ((ndZ ps root).es.length) (sC (tg (tg (d 11) 0) 5)),vi (((ndZ ps root).free:Int))]|_=>True) [0,1,2,3,5] [0,1,2,3,4,5,6,7] [(5,6,3,7),(1,3,1,2),(0,0,3,3),(0,4,2,2)] ar ?_ ?_ ?_)
 exact fun ix _ _ _ _ _ _ hs hb hx h=>match ix,h with
 |2,h=>by dsimp only;rw[<-hs 11 rfl,<-hb 11 rfl,<-hx 2 rfl,<-hx 3 rfl];exact h
 |3,h=>by dsimp only;rw[<-hs 8 rfl,<-hb 11 rfl];exact h
 |4,h=>by dsimp only;rw[<-hs 12 rfl,<-hb 11 rfl];exact h
 |6,h=>by dsimp only;rw[<-hs 5 rfl,<-hb 5 rfl,<-hx 4 rfl];exact h
 |7,h=>by dsimp only;rw[<-hb 5 rfl,<-hb 11 rfl,<-hx 5 rfl];exact h
 |0,_|1,_|5,_|_+8,_=>trivial
 refine⟨?_,?_,?_,?_,?_,?_,?_,?_,trivial⟩
 exact xs4 rfl id fun cx=>ae rfl (by kernel_rfl) (cx.ou 1) ((Blk.ext (hRd _ cx.upd).b1 (Ext.refl _)).cell 0)
 exact xs4 rfl id fun cx=>ae rfl (by kernel_rfl) (cx.ou 2) ((Blk.ext (hRd _ cx.upd).b2 (Ext.refl _)).cell 0)
 refine svA fun j d W X cx=>?_
 refine aC.call (aB (args:=#[.iface tt (tv),vi root]) rfl cx.sees rfl (by kernel_rfl) (aI (cx.an 0) (cx.an 1))) ?_
 refine(zM _ _ ps root _ (hRd _ cx.upd).pgs hok hoc).mono ?_
 rintro e W1 ⟨px4,EA4,ec4,rfl,aM⟩
 refine⟨_,rfl,cl [eO 89 3 (.slice EA4 (ndZ ps root).es.length ec4) (ndZ ps root).es.length ((ndZ ps root).es.flatMap enC),eFt ((av ps root).isSome=true->px4=root)] rfl rfl aM (fun g o X' hs hb hv hN=>?_)⟩
 have aW:=(hv 11 rfl).1;have aG:=(hv 11 rfl).2
 exact⟨aW.trans (by rw[aG];rfl),(by rw[aG];exact(List.cons.inj hN).1),(by rw[aG];exact(List.cons.inj (List.cons.inj hN).2).1)⟩
 exact sv rfl rfl rfl rfl rfl _ (fun _ _ _ h=>h) (fun d o h=>by rw[h 11 (by decide)]) fun j d W X cx=>cL rfl (dTn (cx.an 2)).1
 exact sv rfl rfl rfl rfl rfl _ (fun _ _ _ h=>h) (fun d o h=>by rw[h 11 (by decide)]) fun j d W X cx=>aU rfl (dTn (cx.an 3)) rfl
 exact xs4 rfl id fun cx=>aU rfl (dTn (cx.an 3)) rfl
 refine svA fun j d W X cx=>?_
 exact aX (cs:=#[vi 0,vi 0,vi 0,.string ByteArray.empty,.bool false,.slice none 0 0,vi 0]) rfl (by kernel_rfl) rfl rfl (fun _ _ _ _ _=> .intro)
 refine svA fun j d W X cx=>?_
 exact aw (n:=7) rfl (dTn (cx.an 6)).1 (dTn (cx.an 4)) (by kernel_rfl) (by kernel_rfl) (by kernel_rfl) cx (dTn (cx.an 6)).2 rfl (nle rfl) (by kernel_rfl) rfl rfl rfl (fun g o X' hs hb hx=>by rw[hb 5,hb 11];exact hx)
 intro g d X W1 hD aE fr ag
 simp only[exq 2 ((dTn (hD 2 lq)).2.1),exq 3 ((dTn (hD 2 lq)).2.2),exq 5 ((dTn (hD 7 lq)))] at aE
 simp only[ed 11 ((dTn (hD 2 lq)).1),ed 8 ((dTn (hD 3 lq))),ed 12 ((dTn (hD 4 lq))),ed 5 ((dTn (hD 6 lq)).1)] at ag
 generalize iv (tg (tg (d 11) 0) 0)=px11_1,sA (tg (tg (d 11) 0) 5)=EA11_1,sC (tg (tg (d 11) 0) 5)=ec11_1,pb (d 5)=bv at aE ag
 clear hD;subst ag;clear g d X
 refine aa (wp_seq (sqr (sqp [.k 7 (vi 1)] ?_)))
 refine aa (wp_seq (wp_block ?_))
 refine aL (fun t_ mz az W=>∃x:Int,∃px:Int,∃nd:NoD,∃is:Bool,∃EA:Option Addr,∃ec:Nat,∃s:Nat,(1<=s/\s<=1000)/\is=(av ps x).isSome/\nd=ndZ ps x/\(is=true->px=x)/\dA ps lv 1000 root=dA ps lv (1001-s) x/\mz=1000-s/\az=⟨(ovr (jv az) [(6,6,0,[.bool is,vi ((s:Int))]),(6,14,29,[])] t_).toArray,[]⟩/\St w C0 [eJ (J true) C0 [],eB bv 84 #[vi px,vi nd.lv,vi nd.right,.string nd.high,.bool nd.dead,.slice EA nd.es.length ec,vi ((nd.free:Int))],eO 89 3 (.slice EA nd.es.length ec) nd.es.length (nd.es.flatMap enC),eYs [] []] W) (1000-1) ?_ ?_
 exact⟨root,px11_1,(ndZ ps root),(av ps root).isSome,EA11_1,ec11_1,1,⟨Nat.le_refl _,by decide⟩,rfl,rfl,fun h=>(aE.get 3 rfl).holds h,rfl,rfl,(by kernel_rfl),aE.pk [0,4,2,1]⟩
 rintro n3 a3 W3 ⟨x,px,nd,is,EA,ec,s,hs,his,hnz,hpx,hds,rfl,hj_,bB⟩
 refine ovz hj_ fun fI=>?_
 have hN:=Ik hok x
 rw[<-hnz] at hN
 have hN1:=hN.len
 refine wp_seq (wp_seq (sqr (sqp [.m 14 6,.m 15 14] ?_)))
 refine cv 15 [16,17,18,19] ?_ rfl (fun hq=>?_) ?_
 rotate_left
 refine sqp [.k 16 (.pointer (some ⟨bv,1,none⟩))] ?_
 refine am 1 bB ?_
 refine sql (vi lv) bB (fun cx=>ae rfl (by kernel_rfl) (cx.ou 3) ((Blk.ext (hRd _ cx.upd).b3 (Ext.refl _)).cell 0)) ?_
 refine sqp [.k 19 (.bool (decide (lv<nd.lv)))] ?_
 exact sqe
 refine bQ ?_
 refine sqp [sPa 20 is (decide (lv<nd.lv)),.m 21 20] ?_
 refine cv 21 [22,23,24,25] ?_ rfl (fun hq=>?_) ?_
 rotate_left
 refine sqp [.k 22 (.pointer (some ⟨bv,5,none⟩))] ?_
 refine am 1 bB ?_
 refine sqp [.k 24 (vi ((nd.es.length:Int))),.k 25 (.bool (decide (0<(nd.es.length:Int))))] ?_
 exact sqe
 refine bQ ?_
 refine sqp [sPa 26 (is&&(decide (lv<nd.lv))) (decide (0<(nd.es.length:Int))),.m 27 26] ?_
 refine sqw 27 [28,29] rfl (fun _=>sqp [.m 28 7,.k 29 (.bool (decide ((s:Int)<1000)))] sqe) ?_
 refine sqp [sPa 30 ((is&&(decide (lv<nd.lv)))&&(decide (0<(nd.es.length:Int)))) (decide ((s:Int)<1000))] ?_
 refine aa (wbs (fun kr=>?_) fun kr=>?_)
 have l6:=kr
 simp only[zB] at l6
 obtain⟨⟨⟨JV,OV⟩,OW⟩,OX⟩:=l6
 refine wp_skip (aa (wp_seq (wp_block ?_)))
 have hno_:av ps x=some nd:=ER his hnz JV
 refine ak [0,0,2,6,14,30,63,127,255,255,511,2047] [[],[],[1],[2],[],[2],[],[],[],[],[1]] [[],[],[],[],[],[],[4,5],[],[],[],[6]] [[],[],[],[],[],[],[],[],[],[],[1]] [.c 34 (.iface tt (tv)),.k 35 (.pointer (some ⟨bv,5,none⟩)),.c 36 (.slice EA nd.es.length ec),.c 37 (.pointer (some ((ad EA).add (0*3)))),.c 38 (.pointer (some ((ad EA).add (0*3+2)))),.c 39 (vi ((nd.es.getD 0 en0).2.2)),.a 40,.a 33,.a 41,.c 42 (.bool ((av ps ((nd.es.getD 0 en0).2.2)).isSome)),.n,.k 6 (.bool ((av ps ((nd.es.getD 0 en0).2.2)).isSome))] (fun ix g d X=>match ix with|0|1|2|3|4|5=>True|6=>g 40= .tuple #[.agg #[vi (iv (tg (tg (d 40) 0) 0)),vi ((ndZ ps ((nd.es.getD 0 en0).2.2)).lv),vi ((ndZ ps ((nd.es.getD 0 en0).2.2)).right),.string ((ndZ ps ((nd.es.getD 0 en0).2.2)).high),.bool ((ndZ ps ((nd.es.getD 0 en0).2.2)).dead),.slice (sA (tg (tg (d 40) 0) 5)) ((ndZ ps ((nd.es.getD 0 en0).2.2)).es.length) (sC (tg (tg (d 40) 0) 5)),vi (((ndZ ps ((nd.es.getD 0 en0).2.2)).free:Int))],.bool ((av ps ((nd.es.getD 0 en0).2.2)).isSome)]/\X 4=eO 89 3 (.slice (sA (tg (tg (d 40) 0) 5)) ((ndZ ps ((nd.es.getD 0 en0).2.2)).es.length) (sC (tg (tg (d 40) 0) 5))) ((ndZ ps ((nd.es.getD 0 en0).2.2)).es.length) ((ndZ ps ((nd.es.getD 0 en0).2.2)).es.flatMap enC)/\X 5=eFt ((av ps ((nd.es.getD 0 en0).2.2)).isSome=true->(iv (tg (tg (d 40) 0) 0))=((nd.es.getD 0 en0).2.2))|7=>g 33= .tuple #[.agg #[vi (iv (tg (tg (d 40) 0) 0)),vi ((ndZ ps ((nd.es.getD 0 en0).2.2)).lv),vi ((ndZ ps ((nd.es.getD 0 en0).2.2)).right),.string ((ndZ ps ((nd.es.getD 0 en0).2.2)).high),.bool ((ndZ ps ((nd.es.getD 0 en0).2.2)).dead),.slice (sA (tg (tg (d 40) 0) 5)) ((ndZ ps ((nd.es.getD 0 en0).2.2)).es.length) (sC (tg (tg (d 40) 0) 5)),vi (((ndZ ps ((nd.es.getD 0 en0).2.2)).free:Int))],.bool ((av ps ((nd.es.getD 0 en0).2.2)).isSome)]|8=>g 41= .agg #[vi (iv (tg (tg (d 40) 0) 0)),vi ((ndZ ps ((nd.es.getD 0 en0).2.2)).lv),vi ((ndZ ps ((nd.es.getD 0 en0).2.2)).right),.string ((ndZ ps ((nd.es.getD 0 en0).2.2)).high),.bool ((ndZ ps ((nd.es.getD 0 en0).2.2)).dead),.slice (sA (tg (tg (d 40) 0) 5)) ((ndZ ps ((nd.es.getD 0 en0).2.2)).es.length) (sC (tg (tg (d 40) 0) 5)),vi (((ndZ ps ((nd.es.getD 0 en0).2.2)).free:Int))]|9=>True|10=>X 6=eB bv 84 #[vi (iv (tg (tg (d 40) 0) 0)),vi ((ndZ ps ((nd.es.getD 0 en0).2.2)).lv),vi ((ndZ ps ((nd.es.getD 0 en0).2.2)).right),.string ((ndZ ps ((nd.es.getD 0 en0).2.2)).high),.bool ((ndZ ps ((nd.es.getD 0 en0).2.2)).dead),.slice (sA (tg (tg (d 40) 0) 5)) ((ndZ ps ((nd.es.getD 0 en0).2.2)).es.length) (sC (tg (tg (d 40) 0) 5)),vi (((ndZ ps ((nd.es.getD 0 en0).2.2)).free:Int))]|_=>True) [0,2,3,4,5,6] [0,2,3,4,5,6,7,8,9,10] [(6,11,1,7),(26,7,1,27),(0,0,7,7),(0,8,2,2)] bB ?_ ?_ ?_
 exact fun ix _ _ _ _ _ _ hs hb hx h=>match ix,h with
 |6,h=>by dsimp only;rw[<-hs 40 rfl,<-hb 40 rfl,<-hx 4 rfl,<-hx 5 rfl];exact h
 |7,h=>by dsimp only;rw[<-hs 33 rfl,<-hb 40 rfl];exact h
 |8,h=>by dsimp only;rw[<-hs 41 rfl,<-hb 40 rfl];exact h
 |10,h=>by dsimp only;rw[<-hb 40 rfl,<-hx 6 rfl];exact h
 |0,_|1,_|2,_|3,_|4,_|5,_|9,_|_+11,_=>trivial
 refine⟨?_,?_,?_,?_,?_,?_,?_,?_,?_,?_,trivial⟩
 exact xs4 rfl id fun cx=>ae rfl (by kernel_rfl) (cx.ou 1) ((Blk.ext (hRd _ cx.upd).b1 (Ext.refl _)).cell 0)
 exact xs4 rfl id fun cx=>ae rfl (by kernel_rfl) (cx.an 1) ((cx.bi 1 rfl).cell 5)
 exact xs4 rfl id fun cx=>aH (e:=89) (m:=0) (sz:=3) rfl (by kernel_rfl) (by kernel_rfl) (cx.an 2) (cx.co _) (by omega) (by omega) (At.of_ownN (cx.ri 2 rfl)) (bq (sz:=3) aQ (by decide) (by omega))
 exact xs4 rfl id fun cx=>dZ rfl (by kernel_rfl) (cx.an 3)
 exact xs4 rfl id fun cx=>ae rfl (by kernel_rfl) (cx.an 4) (At.eltc (f:=enC) (k:=2) aQ (At.of_ownN (cx.ri 2 rfl)) (cR (by omega)) rfl)
 refine svA fun j d W X cx=>?_
 refine aC.call (aB (args:=#[.iface tt (tv),vi ((nd.es.getD 0 en0).2.2)]) rfl cx.sees rfl (by kernel_rfl) (aI (cx.an 0) (cx.an 5))) ?_
 refine(zM _ _ ps ((nd.es.getD 0 en0).2.2) _ (hRd _ cx.upd).pgs hok hoc).mono ?_
 rintro e W1 ⟨px4,EA4,ec4,rfl,aM⟩
 refine⟨_,rfl,cl [eO 89 3 (.slice EA4 (ndZ ps ((nd.es.getD 0 en0).2.2)).es.length ec4) (ndZ ps ((nd.es.getD 0 en0).2.2)).es.length ((ndZ ps ((nd.es.getD 0 en0).2.2)).es.flatMap enC),eFt ((av ps ((nd.es.getD 0 en0).2.2)).isSome=true->px4=((nd.es.getD 0 en0).2.2))] rfl rfl aM (fun g o X' hs hb hv hN=>?_)⟩
 have aW:=(hv 40 rfl).1;have aG:=(hv 40 rfl).2
 exact⟨aW.trans (by rw[aG];rfl),(by rw[aG];exact(List.cons.inj hN).1),(by rw[aG];exact(List.cons.inj (List.cons.inj hN).2).1)⟩
 exact sv rfl rfl rfl rfl rfl _ (fun _ _ _ h=>h) (fun d o h=>by rw[h 40 (by decide)]) fun j d W X cx=>cL rfl (dTn (cx.an 6)).1
 exact sv rfl rfl rfl rfl rfl _ (fun _ _ _ h=>h) (fun d o h=>by rw[h 40 (by decide)]) fun j d W X cx=>aU rfl (dTn (cx.an 7)) rfl
 exact xs4 rfl id fun cx=>aU rfl (dTn (cx.an 7)) rfl
 refine svA fun j d W X cx=>?_
 exact aw (n:=7) rfl (cx.ou 5) (dTn (cx.an 8)) (by kernel_rfl) (by kernel_rfl) (by kernel_rfl) cx (cx.init 1 _ rfl) rfl (nle rfl) (by kernel_rfl) rfl rfl rfl (fun g o X' hs hb hx=>by rw[hb 40];exact hx)
 intro g d X Fl hD fX fr ag
 simp only[exq 4 ((dTn (hD 6 lq)).2.1),exq 5 ((dTn (hD 6 lq)).2.2),exq 6 ((dTn (hD 10 lq)))] at fX
 simp only[ed 40 ((dTn (hD 6 lq)).1),ed 33 ((dTn (hD 7 lq))),ed 41 ((dTn (hD 8 lq)))] at ag
 generalize iv (tg (tg (d 40) 0) 0)=px40_22,sA (tg (tg (d 40) 0) 5)=EA40_22,sC (tg (tg (d 40) 0) 5)=ec40_22 at fX ag
 clear hD;subst ag;clear g d X
 refine ax (aa (sqr (sqp [.m 31 7,sI 32 ((s:Int)+1) (by omega),.m 7 32] ?_)))
 refine aa ?_
 have hft_:=(fX.get 4 rfl).holds
 refine⟨1000-((s+1)),by omega,?_⟩
 exact⟨(nd.es.getD 0 en0).2.2,px40_22,(ndZ ps (nd.es.getD 0 en0).2.2),(av ps (nd.es.getD 0 en0).2.2).isSome,EA40_22,ec40_22,(s+1),by omega,rfl,rfl,hft_,CV hds ⟨by omega,by omega⟩ hno_ (by omega) (by omega),rfl,(by kernel_rfl),fX.pk [0,5,3,2]⟩
 have l6:=kr
 simp only[zB] at l6
 refine wp_exit (aj (aj (aO (aa (wp_seq (wp_seq (sqr (sqp [.m 43 6,.k 44 (.bool (!(is))),.m 45 44] ?_))))))))
 refine cv 45 [46,47,48,49] ?_ rfl (fun hq=>?_) ?_
 rotate_left
 refine sqp [.k 46 (.pointer (some ⟨bv,1,none⟩))] ?_
 refine am 1 bB ?_
 refine sql (vi lv) bB (fun cx=>ae rfl (by kernel_rfl) (cx.ou 3) ((Blk.ext (hRd _ cx.upd).b3 (Ext.refl _)).cell 0)) ?_
 refine sqp [.k 49 (.bool (nd.lv != lv))] ?_
 exact sqe
 refine bQ ?_
 refine sqp [sPo 50 (!(is)) (nd.lv != lv)] ?_
 refine aa (wbs (fun jF=>?_) fun jF=>?_)
 have jd:=jF
 simp only[zB] at jd
 refine wp_ret (af ?_)
 refine bpr (.tuple #[]) (by simp[results,Tryz.results101,go_sem]) ?_
 exact⟨⟨_,rfl⟩,true,_,_,_,bB.pick [0,3] (by decide) rfl,YnZ.all (F2 his hnz hds hs (fun e hh=>by have h_:=kr;rw[e,decide_eq_true hh.1,decide_eq_true (show 0<(nd.es.length:Int) by omega),decide_eq_true (show (s:Int)<1000 by omega)] at h_;cases h_) (fun e=>by have h_:=jF;rw[e] at h_;simpa using h_)).symm⟩
 have jd:=jF
 simp only[zB] at jd
 obtain⟨xH,CI⟩:=jd
 refine wp_skip (aa (wp_seq (sqr (sqp [.k 51 (vi 0)] ?_))))
 refine aa (wp_block ?_)
 have hno_:av ps x=some nd:=ER his hnz xH
 obtain rfl:x=px:=(hpx xH).symm
 have hlv_:nd.lv=lv:=CI
 have hrow_:=A8 hds hs hno_ hlv_
 refine aL (fun t_ mz az W=>∃i:Nat,∃y:Int,∃n1:NoD,∃EB:Option Addr,∃eb:Nat,∃CC:List Nat,∃pre:List YnD,∃fp:List Nat,i<=1000/\av ps y=some n1/\n1.lv=lv/\pre.map pgN++dG ps lv (1000-i) y=bo ps root lv/\pre.length=i/\mz=1000-i/\az=⟨(ovr (jv az) [(6,6,1,[]),(44,51,0,[vi ((i:Int))]),(0,52,21,[])] t_).toArray,[]⟩/\St w C0 [eJ (J true) CC pre,eB bv 84 #[vi y,vi n1.lv,vi n1.right,.string n1.high,.bool n1.dead,.slice EB n1.es.length eb,vi ((n1.free:Int))],eO 89 3 (.slice EB n1.es.length eb) n1.es.length (n1.es.flatMap enC),eYs pre fp] W) (1000-0) ?_ ?_
 exact⟨0,x,nd,EA,ec,C0,[],[],Nat.zero_le _,hno_,hlv_,hrow_,rfl,rfl,(by kernel_rfl),bB.pk [0,1,2,3]⟩
 rintro Rs a36 IR ⟨i,y,n1,EB,eb,CC,pre,fp,hi,hn7,hlv,hrow,hpl,rfl,hj_,e6⟩
 refine ovz hj_ fun cJ=>?_
 have hN:=cO hok hn7
 have hN1:=hN.len
 refine wp_seq (sqr (sqp [.k 52 (.bool (decide ((i:Int)<1000)))] ?_))
 refine aa (wp_seq (wds (fun nv lQ=>?_) fun nv lQ=>?_))
 refine wp_skip (aa (wp_seq (wp_block (wp_seq (wp_seq ?_)))))
 have hi7:i<1000:=by omega
 have hyb_:=e6.blk 1 rfl
 have hpk_:=e6.pick [0,2,1,3] (by decide) rfl
 have hyy_:=hY CC pre (n1,y,EB,eb) _ hn7 hpk_.borrow (by omega)
 refine vU (ml rfl rfl rfl (cL rfl rfl) rfl (ml rfl rfl rfl (aV (n:=7) rfl (by kernel_rfl) (by kernel_rfl) rfl hyb_ (nle rfl) rfl) rfl (x9 (args:=ynE (n1,y,EB,eb)) (R:=fun b B=>∃C',St _ (CC++(ynR (n1,y,EB,eb)).fp) [eJ (J b) C' (pre++[(n1,y,EB,eb)]),ynR (n1,y,EB,eb)] B) (fun b_=>[.func (.yield l) #[] #[],vp b1,vp b2,vp b3,undef,vp bv,cJ 6,vi ((s:Int)),.tuple #[.agg #[vi px11_1,vi ((ndZ ps root).lv),vi ((ndZ ps root).right),.string ((ndZ ps root).high),.bool ((ndZ ps root).dead),.slice EA11_1 ((ndZ ps root).es.length) ec11_1,vi (((ndZ ps root).free:Int))],.bool ((av ps root).isSome)],.iface tt (tv),vi root,.tuple #[.agg #[vi px11_1,vi ((ndZ ps root).lv),vi ((ndZ ps root).right),.string ((ndZ ps root).high),.bool ((ndZ ps root).dead),.slice EA11_1 ((ndZ ps root).es.length) ec11_1,vi (((ndZ ps root).free:Int))],.bool ((av ps root).isSome)],.agg #[vi px11_1,vi ((ndZ ps root).lv),vi ((ndZ ps root).right),.string ((ndZ ps root).high),.bool ((ndZ ps root).dead),.slice EA11_1 ((ndZ ps root).es.length) ec11_1,vi (((ndZ ps root).free:Int))],.bool ((av ps root).isSome),.bool is,.bool is,mb is (.pointer (some ⟨bv,1,none⟩)),mb is (vi nd.lv),mb is (vi lv),mb is (.bool (decide (lv<nd.lv))),.bool (is&&(decide (lv<nd.lv))),.bool (is&&(decide (lv<nd.lv))),mb (is&&(decide (lv<nd.lv))) (.pointer (some ⟨bv,5,none⟩)),mb (is&&(decide (lv<nd.lv))) (.slice EA nd.es.length ec),mb (is&&(decide (lv<nd.lv))) (vi ((nd.es.length:Int))),mb (is&&(decide (lv<nd.lv))) (.bool (decide (0<(nd.es.length:Int)))),.bool ((is&&(decide (lv<nd.lv)))&&(decide (0<(nd.es.length:Int)))),.bool ((is&&(decide (lv<nd.lv)))&&(decide (0<(nd.es.length:Int)))),mb ((is&&(decide (lv<nd.lv)))&&(decide (0<(nd.es.length:Int)))) (vi ((s:Int))),mb ((is&&(decide (lv<nd.lv)))&&(decide (0<(nd.es.length:Int)))) (.bool (decide ((s:Int)<1000))),.bool (((is&&(decide (lv<nd.lv)))&&(decide (0<(nd.es.length:Int))))&&(decide ((s:Int)<1000))),fI 31,fI 32,fI 33,fI 34,fI 35,fI 36,fI 37,fI 38,fI 39,fI 40,fI 41,fI 42,.bool is,.bool (!(is)),.bool (!(is)),mb (!(!(is))) (.pointer (some ⟨bv,1,none⟩)),mb (!(!(is))) (vi nd.lv),mb (!(!(is))) (vi lv),mb (!(!(is))) (.bool (nd.lv != lv)),.bool ((!(is))||(nd.lv != lv)),vi ((i:Int)),.bool (decide ((i:Int)<1000)),.func (.yield l) #[] #[],.agg #[vi y,vi n1.lv,vi n1.right,.string n1.high,.bool n1.dead,.slice EB n1.es.length eb,vi ((n1.free:Int))],.bool b_,cJ 56,cJ 57,cJ 58,cJ 59,cJ 60,cJ 61,cJ 62,cJ 63,cJ 64,cJ 65,cJ 66,cJ 67,cJ 68,cJ 69,cJ 70,cJ 71,cJ 72]) rfl rfl rfl (fun r hr=>BY rfl rfl rfl (bp rfl) hr) hyy_ (fun _=>rfl) fun b_ qk ⟨C2,hJ2⟩ tt_ htt_=>?_)))
 have htt2_:tt_=[.func (.yield l) #[] #[],vp b1,vp b2,vp b3,undef,vp bv,cJ 6,vi ((s:Int)),.tuple #[.agg #[vi px11_1,vi ((ndZ ps root).lv),vi ((ndZ ps root).right),.string ((ndZ ps root).high),.bool ((ndZ ps root).dead),.slice EA11_1 ((ndZ ps root).es.length) ec11_1,vi (((ndZ ps root).free:Int))],.bool ((av ps root).isSome)],.iface tt (tv),vi root,.tuple #[.agg #[vi px11_1,vi ((ndZ ps root).lv),vi ((ndZ ps root).right),.string ((ndZ ps root).high),.bool ((ndZ ps root).dead),.slice EA11_1 ((ndZ ps root).es.length) ec11_1,vi (((ndZ ps root).free:Int))],.bool ((av ps root).isSome)],.agg #[vi px11_1,vi ((ndZ ps root).lv),vi ((ndZ ps root).right),.string ((ndZ ps root).high),.bool ((ndZ ps root).dead),.slice EA11_1 ((ndZ ps root).es.length) ec11_1,vi (((ndZ ps root).free:Int))],.bool ((av ps root).isSome),.bool is,.bool is,mb is (.pointer (some ⟨bv,1,none⟩)),mb is (vi nd.lv),mb is (vi lv),mb is (.bool (decide (lv<nd.lv))),.bool (is&&(decide (lv<nd.lv))),.bool (is&&(decide (lv<nd.lv))),mb (is&&(decide (lv<nd.lv))) (.pointer (some ⟨bv,5,none⟩)),mb (is&&(decide (lv<nd.lv))) (.slice EA nd.es.length ec),mb (is&&(decide (lv<nd.lv))) (vi ((nd.es.length:Int))),mb (is&&(decide (lv<nd.lv))) (.bool (decide (0<(nd.es.length:Int)))),.bool ((is&&(decide (lv<nd.lv)))&&(decide (0<(nd.es.length:Int)))),.bool ((is&&(decide (lv<nd.lv)))&&(decide (0<(nd.es.length:Int)))),mb ((is&&(decide (lv<nd.lv)))&&(decide (0<(nd.es.length:Int)))) (vi ((s:Int))),mb ((is&&(decide (lv<nd.lv)))&&(decide (0<(nd.es.length:Int)))) (.bool (decide ((s:Int)<1000))),.bool (((is&&(decide (lv<nd.lv)))&&(decide (0<(nd.es.length:Int))))&&(decide ((s:Int)<1000))),fI 31,fI 32,fI 33,fI 34,fI 35,fI 36,fI 37,fI 38,fI 39,fI 40,fI 41,fI 42,.bool is,.bool (!(is)),.bool (!(is)),mb (!(!(is))) (.pointer (some ⟨bv,1,none⟩)),mb (!(!(is))) (vi nd.lv),mb (!(!(is))) (vi lv),mb (!(!(is))) (.bool (nd.lv != lv)),.bool ((!(is))||(nd.lv != lv)),vi ((i:Int)),.bool (decide ((i:Int)<1000)),.func (.yield l) #[] #[],.agg #[vi y,vi n1.lv,vi n1.right,.string n1.high,.bool n1.dead,.slice EB n1.es.length eb,vi ((n1.free:Int))],.bool b_,cJ 56,cJ 57,cJ 58,cJ 59,cJ 60,cJ 61,cJ 62,cJ 63,cJ 64,cJ 65,cJ 66,cJ 67,cJ 68,cJ 69,cJ 70,cJ 71,cJ 72]:=htt_
 clear htt_;subst htt2_
 have c7:St w C0 [eJ (J b_) C2 (pre++[(n1,y,EB,eb)]),eO 89 3 (.slice EB n1.es.length eb) n1.es.length (n1.es.flatMap enC),eB bv 84 #[vi y,vi n1.lv,vi n1.right,.string n1.high,.bool n1.dead,.slice EB n1.es.length eb,vi ((n1.free:Int))],eYs pre fp] qk:=hpk_.back hJ2
 refine ml rfl rfl rfl (yz rfl rfl rfl) rfl ?_
 unfold wpOpsIn
 refine aa ?_
 rcases Bool.eq_false_or_eq_true (b_) with iw|iw
 ·subst iw
  refine wcf rfl (wp_skip (aa (wp_seq (ak [0,0,2,7,15,31,31,63,255] [[],[],[2],[],[],[],[],[2]] [[],[],[],[4,5],[],[],[],[6]] [[],[],[],[],[],[],[],[2]] [.c 58 (.iface tt (tv)),.k 59 (.pointer (some ⟨bv,2,none⟩)),.c 60 (vi n1.right),.a 61,.a 57,.a 62,.c 63 (.bool ((av ps n1.right).isSome)),.n,.k 6 (.bool ((av ps n1.right).isSome))] (fun ix g d X=>match ix with|0|1|2=>True|3=>g 61= .tuple #[.agg #[vi (iv (tg (tg (d 61) 0) 0)),vi ((ndZ ps n1.right).lv),vi ((ndZ ps n1.right).right),.string ((ndZ ps n1.right).high),.bool ((ndZ ps n1.right).dead),.slice (sA (tg (tg (d 61) 0) 5)) ((ndZ ps n1.right).es.length) (sC (tg (tg (d 61) 0) 5)),vi (((ndZ ps n1.right).free:Int))],.bool ((av ps n1.right).isSome)]/\X 4=eO 89 3 (.slice (sA (tg (tg (d 61) 0) 5)) ((ndZ ps n1.right).es.length) (sC (tg (tg (d 61) 0) 5))) ((ndZ ps n1.right).es.length) ((ndZ ps n1.right).es.flatMap enC)/\X 5=eFt ((av ps n1.right).isSome=true->(iv (tg (tg (d 61) 0) 0))=n1.right)|4=>g 57= .tuple #[.agg #[vi (iv (tg (tg (d 61) 0) 0)),vi ((ndZ ps n1.right).lv),vi ((ndZ ps n1.right).right),.string ((ndZ ps n1.right).high),.bool ((ndZ ps n1.right).dead),.slice (sA (tg (tg (d 61) 0) 5)) ((ndZ ps n1.right).es.length) (sC (tg (tg (d 61) 0) 5)),vi (((ndZ ps n1.right).free:Int))],.bool ((av ps n1.right).isSome)]|5=>g 62= .agg #[vi (iv (tg (tg (d 61) 0) 0)),vi ((ndZ ps n1.right).lv),vi ((ndZ ps n1.right).right),.string ((ndZ ps n1.right).high),.bool ((ndZ ps n1.right).dead),.slice (sA (tg (tg (d 61) 0) 5)) ((ndZ ps n1.right).es.length) (sC (tg (tg (d 61) 0) 5)),vi (((ndZ ps n1.right).free:Int))]|6=>True|7=>X 6=eB bv 84 #[vi (iv (tg (tg (d 61) 0) 0)),vi ((ndZ ps n1.right).lv),vi ((ndZ ps n1.right).right),.string ((ndZ ps n1.right).high),.bool ((ndZ ps n1.right).dead),.slice (sA (tg (tg (d 61) 0) 5)) ((ndZ ps n1.right).es.length) (sC (tg (tg (d 61) 0) 5)),vi (((ndZ ps n1.right).free:Int))]|_=>True) [0,1,3,4,5,6] [0,2,3,4,5,6,7] [(6,8,1,7),(50,4,1,51),(0,0,4,4),(0,5,2,2)] c7 ?_ ?_ ?_))))
  exact fun ix _ _ _ _ _ _ hs hb hx h=>match ix,h with
  |3,h=>by dsimp only;rw[<-hs 61 rfl,<-hb 61 rfl,<-hx 4 rfl,<-hx 5 rfl];exact h
  |4,h=>by dsimp only;rw[<-hs 57 rfl,<-hb 61 rfl];exact h
  |5,h=>by dsimp only;rw[<-hs 62 rfl,<-hb 61 rfl];exact h
  |7,h=>by dsimp only;rw[<-hb 61 rfl,<-hx 6 rfl];exact h
  |0,_|1,_|2,_|6,_|_+8,_=>trivial
  refine⟨?_,?_,?_,?_,?_,?_,?_,trivial⟩
  exact xs4 rfl id fun cx=>ae rfl (by kernel_rfl) (cx.ou 1) ((Blk.ext (hRd _ cx.upd).b1 (Ext.refl _)).cell 0)
  exact xs4 rfl id fun cx=>ae rfl (by kernel_rfl) (cx.an 1) ((cx.bi 2 rfl).cell 2)
  refine svA fun j d W X cx=>?_
  refine aC.call (aB (args:=#[.iface tt (tv),vi n1.right]) rfl cx.sees rfl (by kernel_rfl) (aI (cx.an 0) (cx.an 2))) ?_
  refine(zM _ _ ps n1.right _ (hRd _ cx.upd).pgs hok hoc).mono ?_
  rintro e W1 ⟨px4,EA4,ec4,rfl,aM⟩
  refine⟨_,rfl,cl [eO 89 3 (.slice EA4 (ndZ ps n1.right).es.length ec4) (ndZ ps n1.right).es.length ((ndZ ps n1.right).es.flatMap enC),eFt ((av ps n1.right).isSome=true->px4=n1.right)] rfl rfl aM (fun g o X' hs hb hv hN=>?_)⟩
  have aW:=(hv 61 rfl).1;have aG:=(hv 61 rfl).2
  exact⟨aW.trans (by rw[aG];rfl),(by rw[aG];exact(List.cons.inj hN).1),(by rw[aG];exact(List.cons.inj (List.cons.inj hN).2).1)⟩
  exact sv rfl rfl rfl rfl rfl _ (fun _ _ _ h=>h) (fun d o h=>by rw[h 61 (by decide)]) fun j d W X cx=>cL rfl (dTn (cx.an 3)).1
  exact sv rfl rfl rfl rfl rfl _ (fun _ _ _ h=>h) (fun d o h=>by rw[h 61 (by decide)]) fun j d W X cx=>aU rfl (dTn (cx.an 4)) rfl
  exact xs4 rfl id fun cx=>aU rfl (dTn (cx.an 4)) rfl
  refine svA fun j d W X cx=>?_
  exact aw (n:=7) rfl (cx.ou 5) (dTn (cx.an 5)) (by kernel_rfl) (by kernel_rfl) (by kernel_rfl) cx (cx.init 2 _ rfl) rfl (nle rfl) (by kernel_rfl) rfl rfl rfl (fun g o X' hs hb hx=>by rw[hb 61];exact hx)
  intro g d X Ce hD cZ fr ag
  simp only[exq 4 ((dTn (hD 3 lq)).2.1),exq 5 ((dTn (hD 3 lq)).2.2),exq 6 ((dTn (hD 7 lq)))] at cZ
  simp only[ed 61 ((dTn (hD 3 lq)).1),ed 57 ((dTn (hD 4 lq))),ed 62 ((dTn (hD 5 lq)))] at ag
  generalize iv (tg (tg (d 61) 0) 0)=px61_41,sA (tg (tg (d 61) 0) 5)=EA61_41,sC (tg (tg (d 61) 0) 5)=ec61_41 at cZ ag
  clear hD;subst ag;clear g d X
  refine aa (wp_seq (sqr (sqp [.m 64 6,.k 65 (.bool (!((av ps n1.right).isSome))),.m 66 65] ?_)))
  refine cv 66 [67,68,69,70] ?_ rfl (fun hq=>?_) ?_
  rotate_left
  refine sqp [.k 67 (.pointer (some ⟨bv,1,none⟩))] ?_
  refine am 5 cZ ?_
  refine sql (vi lv) cZ (fun cx=>ae rfl (by kernel_rfl) (cx.ou 3) ((Blk.ext (hRd _ cx.upd).b3 (Ext.refl _)).cell 0)) ?_
  refine sqp [.k 70 (.bool (((ndZ ps n1.right).lv) != lv))] ?_
  exact sqe
  refine bQ ?_
  refine sqp [sPo 71 (!((av ps n1.right).isSome)) (((ndZ ps n1.right).lv) != lv)] ?_
  refine aa (wbs (fun mq=>?_) fun mq=>?_)
  have lV:=mq
  simp only[zB] at lV
  refine wp_ret (aq (af (af (aq ?_))))
  refine bpr (.tuple #[]) (by simp[results,Tryz.results101,go_sem]) ?_
  have hy51:=St.yn1 (y:=(n1,y,EB,eb)) (cZ.pick [2,1,0,3,4,5] (by decide) rfl)
  exact⟨⟨_,rfl⟩,true,_,_,_,hy51.pick [1,0] (by decide) rfl,YnZ.all (CU hrow hn7 hlv hi7 (fun e=>by have h_:=mq;rw[e] at h_;simpa using h_))⟩
  have lV:=mq
  simp only[zB] at lV
  obtain⟨CJ,JW⟩:=lV
  refine wp_skip (ax (aa (sqr (sqp [sI 72 ((i:Int)+1) (by omega),.m 51 72] ?_))))
  refine aa ?_
  have hft_:=(cZ.get 4 rfl).holds CJ
  obtain⟨n2,hn2⟩:=Option.isSome_iff_exists.1 CJ
  have hz2:ndZ ps n1.right=n2:=by rw[ndZ,hn2];rfl
  rw[hft_,hz2] at cZ
  have hlq_:n2.lv=lv:=by rw[<-hz2];exact JW
  have hy54:=St.yn1 (y:=(n1,y,EB,eb)) (cZ.pick [2,1,0,3,4,5] (by decide) rfl)
  refine⟨1000-((i+1)),by omega,?_⟩
  exact⟨(i+1),n1.right,n2,EA61_41,ec61_41,C2,(pre++[(n1,y,EB,eb)]),(fp++(ynR (n1,y,EB,eb)).fp),by omega,hn2,hlq_,wL hrow hn7 hlv hi7,by rw[List.length_append,hpl];rfl,rfl,(by kernel_rfl),hy54.pk [1,4,2,0]⟩
 subst iw
 have hy55:=St.yn1 (y:=(n1,y,EB,eb)) (c7.pick [3,1,0,2] (by decide) rfl)
 refine wct rfl (wp_ret (af (aq (af (af (aq ?_))))))
 refine bpr (.tuple #[]) (by simp[results,Tryz.results101,go_sem]) ?_
 exact⟨⟨_,rfl⟩,false,_,_,_,hy55.pick [1,0] (by decide) rfl,YnZ.some (wL (EA:=EB) (ec:=eb) hrow hn7 hlv hi7)⟩
 refine wp_exit (aj (aj (aO ?_)))
 refine bpe (.tuple #[]) (by simp[results,Tryz.results101,go_sem]) ?_
 exact⟨⟨_,rfl⟩,true,_,_,_,e6.pick [0,3] (by decide) rfl,YnZ.all (Gy hrow (by omega))⟩
theorem j6(b1 b2 b3:Nat)(tt:TypeId)(tv:Value)(root lv:Int){ps:List PgS}(hok:OkS ps)(hoc:OkC ps):
  zH Tryz.prog 101 #[.pointer (some ⟨b1,0,none⟩),.pointer (some ⟨b2,0,none⟩),.pointer (some ⟨b3,0,none⟩)] ynE ynR (fun y=>av ps y.2.1=some y.1) 1000 (YnZ (bo ps root lv)) (RdR b1 b2 b3 tt tv root lv ps):=fun l J W C0 hRd hloc hC0 hJ0 hY=>
 callsIn_wide.2 (Dl l b1 b2 b3 tt tv root lv ps J C0 W hRd hok hoc hloc hC0 hJ0 hY)
theorem RdR.keep{b1 b2 b3:Nat}{tt:TypeId}{tv:Value}{root lv:Int}{ps:List PgS}{w0 W A:World}{L:List Ent}(h:St w0 [] (eB b1 78 #[.iface tt tv]::eB b2 3 #[.int .i64 root]::eB b3 3 #[.int .i64 lv]::L) W)(hS:PgsOk w0 tt tv ps)(hA:Upd (fps L) W A):RdR b1 b2 b3 tt tv root lv ps A:=by
 have g7:=List.pairwise_cons.1 h.apart
 have mM:=List.pairwise_cons.1 g7.2
 have OY:=List.pairwise_cons.1 mM.2
 have key:∀(b:Nat) (t:TypeId) (cs:Array Value),eB b t cs∈(eB b1 78 #[.iface tt tv]::eB b2 3 #[.int .i64 root]::eB b3 3 #[.int .i64 lv]::L)->(∀e∈L,(eB b t cs).apart e)->Blk A b t cs:=fun b t cs hm hap=>by
  have ho:=h.ok _ hm
  refine ho.loc W A (fun k hk=>hA.block k (ho.own k hk).2 fun hkf=>?_) ho.holds
  obtain⟨e,he,hke⟩:=cV.1 hkf
  exact hap e he k hk hke
 refine⟨key _ _ _ (by simp) fun e he=>g7.1 e (by simp[he]),key _ _ _ (by simp) fun e he=>mM.1 e (by simp[he]),key _ _ _ (by simp) fun e he=>OY.1 e he,hS.ext (h.upd.join hA fun i hi=>?_).to_ext⟩
 obtain⟨e,he,hke⟩:=cV.1 hi
 have:=((h.ok e (by simp[he])).own i hke).1
 exact this
end
section
open Go.RowKit
theorem fL(x:YnD):(ynC x).length=7:=rfl
theorem Gj(L:List YnD)(x:YnD):L.flatMap ynC++ynC x=(L++[x]).flatMap ynC:=by simp
theorem Tryz.infoNd:(Tryz.prog.info? 84).map (fun i=>(i.zero,i.size,i.bytes))=some (some (.agg #[.int .i64 0,.int .i64 0,.int .i64 0,.string ByteArray.empty,.bool false,.slice none 0 0,.int .i64 0]),7,80):=by kernel_rfl
def pcp(i:Nat):Value->Nat
 | .func _ _ cs=>pb (cs.getD i undef)
 |_=>0
def Gp(tt:TypeId)(tv:Value)(root lv:Int)(w:World)(e:Ending)(w':World):Prop:=∃b1 b2 b3,e= .returned (.func (.func 101) #[] #[.pointer (some ⟨b1,0,none⟩),.pointer (some ⟨b2,0,none⟩),.pointer (some ⟨b3,0,none⟩)])/\St w [] [eB b1 78 #[.iface tt tv],eB b2 3 #[.int .i64 root],eB b3 3 #[.int .i64 lv]] w'
theorem j2(tt:TypeId)(tv:Value)(root lv:Int)(w:World):
  Calls Tryz.prog 59 #[.iface tt (tv),.int .i64 root,.int .i64 lv] w (Gp tt tv root lv w):=by
 go_enter Tryz.func59,Tryz.ntmps59
 have ar:=St.start w
 refine wp_seq (sqr ?_)
 refine bZ #[.iface tt (tv)] ar fun dK W1 aE=>?_
 refine bZ #[vi root] aE fun t4 W2 aN=>?_
 refine bZ #[vi lv] aN fun EE W3 bB=>?_
 refine sqp [.k 6 (Go.Value.nilFunc)] ?_
 refine aa (wp_seq (sqr ?_))
 refine sqv (.func (.func 101) #[] #[vp dK,vp t4,vp EE]) bB (by
   exact sv0 rfl rfl rfl rfl rfl (fun _ _ _ h=>h) fun a b W X cx=>by
    have Cx:a (.tmp 3)=vp dK:=(cx.ou 3)
    have OZ:a (.tmp 4)=vp t4:=(cx.ou 4)
    have Jy:a (.tmp 5)=vp EE:=(cx.ou 5)
    simp[go_sem,Instr.makeFunc,Cx,OZ,Jy]) fun W5 bw=>?_
 refine sqp [.m 6 7] ?_
 refine aa (wp_ret ?_)
 refine bpr (.func (.func 101) #[] #[vp dK,vp t4,vp EE]) (ai Tryz.results59 rpt) ?_
 exact⟨_,_,_,rfl,bw.pick [0,1,2] (by decide) rfl⟩
end
section
open Go.RowKit
def eCL(SA:Option Addr)(L:List (Int×NoD))(fp:List Nat):Ent:=⟨fp,fun W=>∃xs:List YnD,xs.map pgN=L/\(∀ad,SA=some ad->ad.block∈fp)/\At W SA (xs.flatMap ynC)/\∀y∈xs,(∀ad,y.2.2.1=some ad->ad.block∈fp)/\At W y.2.2.1 (y.1.es.flatMap enC)⟩
theorem v6{e:Ent}{SA:Option Addr}{L:List (Int×NoD)}{fp:List Nat}(h:e=eCL SA L fp):e=eCL SA L e.fp:=by subst h;rfl
theorem yM(SA:Option Addr)(L:List (Int×NoD))(fp:List Nat):(eCL SA L fp).loc:=fun W W' hk h=>by
 obtain⟨xs,h1,h2,h3,h4⟩:=h
 exact⟨xs,h1,h2,eC h3 fun ad e _=>hk _ (h2 ad e),fun y hy=>⟨(h4 y hy).1,eC (h4 y hy).2 fun ad e _=>hk _ ((h4 y hy).1 ad e)⟩⟩
def we(L:List (Int×NoD))(w:World)(e:Ending)(w':World):Prop:=∃SA sc fp,e= .returned (.slice SA L.length sc)/\St w [] [eCL SA L fp] w'
theorem G6{w W:World}{SA:Option Addr}{sc n:Nat}{L:List (Int×NoD)}{xs:List YnD}{E:Ent}(hz:YnZ L true xs E)(h:St w [] [eO 84 7 (.slice SA n sc) n (xs.flatMap ynC),E] W)(hn:n=xs.length):we L w (.returned (.slice SA n sc)) W:=by
 obtain⟨hE,hL,_⟩:=hz
 have hL:=hL rfl
 subst hn hL
 have h1:=h.ok (eO 84 7 (.slice SA xs.length sc) xs.length (xs.flatMap ynC)) (by simp)
 have h2:=h.ok E (by simp)
 have hO:W.ownsRow 0 84 7 (.slice SA xs.length sc) xs.length (xs.flatMap ynC):=h1.holds
 have hR:(eYs xs E.fp).holds W:=by rw[<-hE];exact h2.holds
 refine⟨SA,sc,(Value.ownBlock (.slice SA xs.length sc)).toList++E.fp,by rw[List.length_map],h.upd,fun x hx=>?_,List.pairwise_singleton _ _⟩
 rw[List.mem_singleton] at hx
 subst hx
 refine⟨⟨xs,rfl,fun ad e=>List.mem_append_left _ (yu hO ad e),At.of_ownN hO,fun y hy=>⟨fun ad e=>List.mem_append_right _ ((hR y hy).1 ad e),(hR y hy).2⟩⟩,yM _ _ _,fun k hk=>?_⟩
 rcases List.mem_append.1 hk with hk|hk
 exact h1.own k hk
 exact h2.own k hk
theorem Hv(b1 b2 b3:Nat)(L:List (Int×NoD))(w:World)(Px:YnD->Prop)(Rd:World->Prop)(hseq:zH Tryz.prog 101 #[.pointer (some ⟨b1,0,none⟩),.pointer (some ⟨b2,0,none⟩),.pointer (some ⟨b3,0,none⟩)] ynE ynR Px 1000 (YnZ L) Rd)(hRd:∀A,Ext w A->Rd A):
  Calls Tryz.prog 100 #[.slice none 0 0,.func (.func 101) #[] #[.pointer (some ⟨b1,0,none⟩),.pointer (some ⟨b2,0,none⟩),.pointer (some ⟨b3,0,none⟩)]] w (we L w):=by
 refine(callsIn_wide (n:=3)).1 (callsIn_of_wp_marks Tryz.func100 rfl trivial (wpIn_wide.2 ?_) rfl)
 simp only[Tryz.ntmps100,List.size_toArray,List.length_cons,List.length_nil,Nat.reduceAdd,Nat.reduceSub,Array.replicate_succ,Array.replicate_zero,List.push_toArray,List.append_toArray,List.nil_append,List.cons_append]
 have ar:=St.start w
 refine wp_seq (ak [0,0] [] [[0]] [] [.a 2,.k 4 (.slice none 0 0)] (fun ix d b X=>match ix with|0=>d 2=vp (pb (b 2))/\X 0=eB (pb (b 2)) 131 #[.slice none 0 0]|_=>True) [0] [0] [(2,0,1,3),(1,1,1,2)] ar ?_ ?_ ?_)
 exact fun ix _ _ _ _ _ _ hs hb hx h=>match ix,h with
 |0,h=>by dsimp only;rw[<-hs 2 rfl,<-hb 2 rfl,<-hx 0 rfl];exact h
 |_+1,_=>trivial
 refine⟨?_,trivial⟩
 refine svA fun f b W X cx=>?_
 exact wm (cs:=#[.slice none 0 0]) rfl (cx.ou 0) rfl rfl rfl (fun _ _ _ _ _=> .intro)
 intro d b X W1 hD aE fr ag
 simp only[exq 0 ((dTn (hD 0 lq)).2)] at aE
 simp only[ed 2 ((dTn (hD 0 lq)).1)] at ag
 generalize pb (b 2)=bW at aE ag
 clear hD;subst ag;clear d b X
 refine aa (wp_seq (wp_seq (qg [0] [.k 6 (.func (.func 101) #[] #[vp b1,vp b2,vp b3])] [(6,0,1,7)] aE fun W2 aN=>?_)))
 refine aa (wp_block ?_)
 have hn3:=bT aN 84 7
 simp only[List.cons_append,List.nil_append] at hn3
 have JX:=hn3.pick [0,1] (by decide) rfl
 refine kw (α:=YnD) JX rfl (enters_of Tryz.func101 (by kernel_rfl) rfl) (encs:=ynE) (Ex:=ynR) (N:=1000) (Z:=YnZ L) (hseq) (fun A hA=>hRd A (Upd.to_ext (JX.upd.join hA fun i hi=>(JX.fps_own hi).1))) (fun _=>rfl) (fun bb pre L=>cond bb (∃SA:Option Addr,∃n:Nat,∃sc:Nat,n=pre.length/\L=[eB bW 131 #[.slice SA n sc],eO 84 7 (.slice SA n sc) n (pre.flatMap ynC)]) (False)) ⟨none,0,0,rfl,rfl⟩ (fun xx a_ E_=>∃BV:Nat,a_=⟨([.slice none 0 0,.func (.func 101) #[] #[vp b1,vp b2,vp b3],vp bW,undef,.slice none 0 0,vp BV,.func (.func 101) #[] #[vp b1,vp b2,vp b3],.agg #[vi xx.2.1,vi xx.1.lv,vi xx.1.right,.string xx.1.high,.bool xx.1.dead,.slice xx.2.2.1 xx.1.es.length xx.2.2.2,vi ((xx.1.free:Int))],undef,undef,undef,undef,undef]).toArray,[]⟩/\E_=eB BV 84 #[vi xx.2.1,vi xx.1.lv,vi xx.1.right,.string xx.1.high,.bool xx.1.dead,.slice xx.2.2.1 xx.1.es.length xx.2.2.2,vi ((xx.1.free:Int))]) (fun xx=>[.slice none 0 0,.func (.func 101) #[] #[vp b1,vp b2,vp b3],vp bW,undef,.slice none 0 0,undef,.func (.func 101) #[] #[vp b1,vp b2,vp b3],.agg #[vi xx.2.1,vi xx.1.lv,vi xx.1.right,.string xx.1.high,.bool xx.1.dead,.slice xx.2.2.1 xx.1.es.length xx.2.2.2,vi ((xx.1.free:Int))],undef,undef,undef,undef,undef]) (fun xx=>by kernel_rfl) ?_ ?_ ?_ ?_
 intro rl xx W4 K hK
 have bR:=St.start W4
 refine bh [0,1] [[],[0]] [[0],[1]] [[],[0]] [.a 5,.n] (fun ix d b X=>match ix with|0=>d 5=vp (pb (b 5))/\X 0=eB (pb (b 5)) 84 #[vi 0,vi 0,vi 0,.string ByteArray.empty,.bool false,.slice none 0 0,vi 0]|1=>X 1=eB (pb (b 5)) 84 #[vi xx.2.1,vi xx.1.lv,vi xx.1.right,.string xx.1.high,.bool xx.1.dead,.slice xx.2.2.1 xx.1.es.length xx.2.2.2,vi ((xx.1.free:Int))]|_=>True) [1] [0,1] [(5,0,1,6)] bR ?_ ?_ ?_
 exact fun ix _ _ _ _ _ _ hs hb hx h=>match ix,h with
 |0,h=>by dsimp only;rw[<-hs 5 rfl,<-hb 5 rfl,<-hx 0 rfl];exact h
 |1,h=>by dsimp only;rw[<-hb 5 rfl,<-hx 1 rfl];exact h
 |_+2,_=>trivial
 refine⟨?_,?_,trivial⟩
 refine svA fun f b W X cx=>?_
 exact aX (cs:=#[vi 0,vi 0,vi 0,.string ByteArray.empty,.bool false,.slice none 0 0,vi 0]) rfl (by kernel_rfl) rfl rfl (fun _ _ _ _ _=> .intro)
 refine svA fun f b W X cx=>?_
 exact aw (n:=7) rfl (dTn (cx.an 0)).1 (cx.ou 7) (by kernel_rfl) (by kernel_rfl) (by kernel_rfl) cx (dTn (cx.an 0)).2 rfl (nle rfl) (by kernel_rfl) rfl rfl rfl (fun d g X' hs hb hx=>by rw[hb 5];exact hx)
 intro d b X W6 hD cM fr ag
 simp only[exq 1 ((dTn (hD 1 lq)))] at cM
 simp only[ed 5 ((dTn (hD 0 lq)).1)] at ag
 generalize pb (b 5)=QU at cM ag
 clear hD;subst ag;clear d b X
 exact hK _ _ _ ⟨_,rfl,rfl⟩ (cM.pick [0] (by decide) rfl)
 rintro rl pre xx W7 L7 a7 E7 ⟨SA,n,sc,hn,rfl⟩ hlen7 hPx7 ⟨BV,rfl,rfl⟩ Fm
 have bD:St W7 (fps ([eB bW 131 #[.slice SA n sc],eO 84 7 (.slice SA n sc) n (pre.flatMap ynC)]++[eO 89 3 (.slice xx.2.2.1 xx.1.es.length xx.2.2.2) xx.1.es.length (xx.1.es.flatMap enC),eB BV 84 #[vi xx.2.1,vi xx.1.lv,vi xx.1.right,.string xx.1.high,.bool xx.1.dead,.slice xx.2.2.1 xx.1.es.length xx.2.2.2,vi ((xx.1.free:Int))]])) [eB bW 131 #[.slice SA n sc],eO 84 7 (.slice SA n sc) n (pre.flatMap ynC),eO 89 3 (.slice xx.2.2.1 xx.1.es.length xx.2.2.2) xx.1.es.length (xx.1.es.flatMap enC),eB BV 84 #[vi xx.2.1,vi xx.1.lv,vi xx.1.right,.string xx.1.high,.bool xx.1.dead,.slice xx.2.2.1 xx.1.es.length xx.2.2.2,vi ((xx.1.free:Int))]] W7:=Fm
 clear Fm
 refine wpIn_block (bh [0,0,2,7,15] [[0],[3],[],[4,1],[0]] [[],[],[4],[5],[6]] [[],[],[],[1],[0]] [.c 8 (.slice SA n sc),.c 9 (.agg #[vi xx.2.1,vi xx.1.lv,vi xx.1.right,.string xx.1.high,.bool xx.1.dead,.slice xx.2.2.1 xx.1.es.length xx.2.2.2,vi ((xx.1.free:Int))]),.a 10,.a 11,.n] (fun ix d b X=>match ix with|0|1=>True|2=>d 10= .slice ((some ⟨(pb' (b 10)),0,none⟩)) 1 1/\X 4=eO 84 7 (.slice ((some ⟨(pb' (b 10)),0,none⟩)) 1 1) 1 (ynC xx)|3=>d 11= .slice (sA (b 11)) (n+1) (sC (b 11))/\X 5=eO 84 7 (.slice (sA (b 11)) (n+1) (sC (b 11))) (n+1) ((pre++[xx]).flatMap ynC)|4=>X 6=eB bW 131 #[.slice (sA (b 11)) (n+1) (sC (b 11))]|_=>True) [2,3,4,5,6] [0,1,2,3,4] [(8,0,4,12)] bD ?_ ?_ ?_)
 exact fun ix _ _ _ _ _ _ hs hb hx h=>match ix,h with
 |2,h=>by dsimp only;rw[<-hs 10 rfl,<-hb 10 rfl,<-hx 4 rfl];exact h
 |3,h=>by dsimp only;rw[<-hs 11 rfl,<-hb 11 rfl,<-hx 5 rfl];exact h
 |4,h=>by dsimp only;rw[<-hb 11 rfl,<-hx 6 rfl];exact h
 |0,_|1,_|_+5,_=>trivial
 refine⟨?_,?_,?_,?_,?_,trivial⟩
 exact xs4 rfl id fun cx=>ae rfl (by kernel_rfl) (cx.ou 2) ((cx.bi 0 rfl).cell 0)
 exact xs4 rfl id fun cx=>aV (n:=7) rfl (by kernel_rfl) (by kernel_rfl) (cx.ou 5) (cx.bi 3 rfl) (nle rfl) rfl
 refine svA fun f b W X cx=>?_
 have Cz:f (.tmp 9)= .agg #[vi xx.2.1,vi xx.1.lv,vi xx.1.right,.string xx.1.high,.bool xx.1.dead,.slice xx.2.2.1 xx.1.es.length xx.2.2.2,vi ((xx.1.free:Int))]:=(cx.an 1)
 exact bS (e:=84) (sz:=7) (xs:=[vi xx.2.1,vi xx.1.lv,vi xx.1.right,.string xx.1.high,.bool xx.1.dead,.slice xx.2.2.1 xx.1.es.length xx.2.2.2,vi ((xx.1.free:Int))]) rfl (by simp[go_sem,Cz]) rfl (by decide) rfl rfl (fun _ _ _ _ _=> .intro)
 refine svA fun f b W X cx=>?_
 obtain⟨i0,hi0,hz0,hz1,hz2⟩:=info_parts Tryz.infoNd
 refine bN (n:=n) (m:=1) (nm:=n+1) (sz:=7) (xs:=pre.flatMap ynC) (news:=ynC xx) (xs':=(pre++[xx]).flatMap ynC) rfl (ty:=131) rfl (by kernel_rfl) hi0 hz0 hz1 hz2 rfl (by decide) (cx.an 0) cx (cx.init 1 _ rfl) rfl (dTn (cx.an 2)).1 (by rfl) (At.of_ownN (cx.row (dTn (cx.an 2)).2 rfl)) (by simp[ynC,Value.oneCell']) (by simp only[maxLen];omega) (by omega) rfl rfl rfl (by omega) (Gj _ _) (fun d g X' hs hb hv hx=>?_)
 exact⟨hv,hx⟩
 refine svA fun f b W X cx=>?_
 exact aw (n:=1) rfl (cx.ou 2) (dTn (cx.an 3)).1 (by kernel_rfl) (by kernel_rfl) (by kernel_rfl) cx (cx.init 0 _ rfl) rfl (nle rfl) (by kernel_rfl) rfl rfl rfl (fun d g X' hs hb hx=>by rw[hb 11];exact hx)
 intro d b X W8 hD bj fr ag
 simp only[exq 4 ((dTn (hD 2 lq)).2),exq 5 ((dTn (hD 3 lq)).2),exq 6 ((dTn (hD 4 lq)))] at bj
 simp only[ed 10 ((dTn (hD 2 lq)).1),ed 11 ((dTn (hD 3 lq)).1)] at ag
 generalize pb' (b 10)=PP,sA (b 11)=sr,sC (b 11)=Lo at bj ag
 clear hD;subst ag;clear d b X
 refine ax ?_
 exact⟨true,.inl ⟨rfl,rfl⟩,_,⟨sr,(n+1),Lo,by rw[hn,List.length_append];rfl,rfl⟩,bj.pick [4,3,0] (by decide) rfl⟩
 rintro D4 O0 L4 XS_ E_ ⟨SA,n,sc,hn,rfl⟩ hZ_ Fo
 have Lp:St w [] [eB bW 131 #[.slice SA n sc],eO 84 7 (.slice SA n sc) n (XS_.flatMap ynC),E_,fg D4] O0:=Fo
 clear Fo
 refine ax (aa (wp_seq (br [0,1] [[0]] [.c 12 (.slice SA n sc),.k 4 (.slice SA n sc)] [0,1,2,3] [0] [(4,1,1,5),(7,0,1,8)] Lp ?_ fun W9 be=>?_)))
 refine⟨?_,trivial⟩
 exact xs4 rfl id fun cx=>ae rfl (by kernel_rfl) (cx.ou 2) ((cx.bi 0 rfl).cell 0)
 refine aa (wp_ret ?_)
 refine lg (L:=[eB bW 131 #[.slice SA n sc],eO 84 7 (.slice SA n sc) n (XS_.flatMap ynC),E_]) (be.pick [0,1,2,3] (by decide) rfl) fun Wt10 ht10=>?_
 refine⟨.slice SA n sc,(ai Tryz.results100 rpt),?_⟩
 exact G6 hZ_ (ht10.pick [1,2] (by decide) rfl) hn
 exact fun D W L xs E h=>h.elim
theorem BF(b1 b2 b3:Nat)(L:List (Int×NoD))(w:World)(Px:YnD->Prop)(Rd:World->Prop)(hseq:zH Tryz.prog 101 #[.pointer (some ⟨b1,0,none⟩),.pointer (some ⟨b2,0,none⟩),.pointer (some ⟨b3,0,none⟩)] ynE ynR Px 1000 (YnZ L) Rd)(hRd:∀A,Ext w A->Rd A):
  Calls Tryz.prog 58 #[.func (.func 101) #[] #[.pointer (some ⟨b1,0,none⟩),.pointer (some ⟨b2,0,none⟩),.pointer (some ⟨b3,0,none⟩)]] w (we L w):=by
 go_enter Tryz.func58,Tryz.ntmps58
 have ar:=St.start w
 refine wp_seq (sqr (sqp [.k 2 (.slice none 0 0)] ?_))
 refine aa (wp_seq (sqr (sqp [.m 3 0] ?_)))
 refine KB (fun xI An=> .slice xI L.length An) (fun xI An JY=>eCL xI L JY) ar (fun cx=>⟨_,(Hv b1 b2 b3 L _ Px Rd hseq (fun A hA=>hRd A (cx.upd.to_ext.trans hA))).mono (by rintro e W1 ⟨A4,c4,fp4,rfl,aM⟩;exact⟨_,_,_,rfl,aM⟩),(aI (cx.co _) (cx.ou 3))⟩) fun xI An JY W3 bB=>?_
 refine sqp [.m 2 4] ?_
 refine aa (wp_ret ?_)
 refine bpr (.slice xI L.length An) (ai Tryz.results58 rpt) ?_
 exact⟨_,_,_,rfl,bB.pick [0] (by decide) rfl⟩
end
section
open Go.RowKit
def neB(a:ByteArray):Bool:=!(a.toList==(⟨#[]⟩:ByteArray).toList)
def srS(hi lo:ByteArray)(es:List EnD)(i:Nat):Bool:=(neB lo&&al (es.getD i en0).1 lo)||(neB hi&&!(al (es.getD i en0).1 hi))||(decide (0<(i:Int))&&((es.getD i en0).1.toList==(es.getD ((i:Int)-1).toNat en0).1.toList))
def srF(hi lo:ByteArray)(es:List EnD):Bool:=(List.range es.length).all fun i=>!srS hi lo es i
theorem kR{p:Nat->Bool}{i:Nat}(h:(List.range i).all p=true)(hp:p i=true):(List.range (i+1)).all p=true:=by
 rw[List.range_succ,List.all_append,h];simp[hp]
theorem dP{p:Nat->Bool}{i n:Nat}(hi:i<n)(hp:p i=false):(List.range n).all p=false:=by
 rw[List.all_eq_false]
 exact⟨i,List.mem_range.2 hi,by rw[hp];simp⟩
theorem AF(pg lv rt fr:Int)(hg:ByteArray)(dd:Bool)(EA:Option Addr)(ec n:Nat)(es:List EnD)(lo:ByteArray)(w:World)(hE:At w EA (es.flatMap enC))(hn:es.length=n)(hn1:n<=100)(hez:∀e∈es,e.1.size<=1000000)(hgz:hg.size<=1000000)(hlz:lo.size<=1000000):
  Calls Tryz.prog 106 #[.agg #[.int .i64 pg,.int .i64 lv,.int .i64 rt,.string hg,.bool dd,.slice EA n ec,.int .i64 fr],.string lo] w (Ret (.bool (srF hg lo es)) w):=by
 go_enter Tryz.func106,Tryz.ntmps106
 have ar:=St.start w
 refine wp_seq (sqr ?_)
 refine bZ #[vi pg,vi lv,vi rt,.string hg,.bool dd,.slice EA n ec,vi fr] ar fun bW W1 aE=>?_
 refine sqp [.k 4 (.bool false)] ?_
 refine aa (wp_seq (wp_seq (sqr (sqp [.k 7 (.pointer (some ⟨bW,5,none⟩))] ?_))))
 refine am 0 aE ?_
 refine sqp [.k 9 (vi ((n:Int))),.k 10 (vi 0)] ?_
 refine aa (wp_block ?_)
 refine aL (fun t_ mz az W=>∃i:Nat,i<=n/\(List.range i).all (fun i=>!srS hg lo es i)=true/\mz=n-i/\az=⟨(ovr (jv az) [(4,4,3,[]),(3,10,0,[vi ((i:Int))]),(0,11,42,[])] t_).toArray,[]⟩/\St w [] [eB bW 84 #[vi pg,vi lv,vi rt,.string hg,.bool dd,.slice EA n ec,vi fr]] W) (n-0) ?_ ?_
 exact⟨0,Nat.zero_le _,rfl,rfl,(by kernel_rfl),aE.pk [0]⟩
 rintro n7 a7 W7 ⟨i,hi,hall,rfl,hj_,bD⟩
 refine ovz hj_ fun E5=>?_
 refine wp_seq (sqr (sqp [.k 11 (.bool (decide ((i:Int)<(n:Int))))] ?_))
 refine aa (wp_seq (wds (fun xf xG=>?_) fun xf xG=>?_))
 refine wp_skip (aa (wp_seq (wp_block (wp_seq (sqr (sqp [.m 12 10] ?_))))))
 refine sql (.pointer (some ((ad EA).add (i*3)))) bD (fun cx=>aH (e:=89) (m:=i) (sz:=3) rfl (by kernel_rfl) (by kernel_rfl) (cx.ou 8) (cx.ou 10) (by omega) (by omega) (hE.ext cx.upd.to_ext) (bq (sz:=3) aQ (by decide) (by omega))) ?_
 refine sql (.agg #[.string ((es.getD i en0).1),vi (((es.getD i en0).2.1:Int)),vi ((es.getD i en0).2.2)]) bD (fun cx=>aZ (f:=enC) (m:=i) (sz:=3) (off:=0) (n:=3) rfl (by kernel_rfl) (by kernel_rfl) (cx.ou 13) rfl aQ (hE.ext cx.upd.to_ext) (cR (by omega)) (fun k hk=>match k,hk with|0,_=>rfl|1,_=>rfl|2,_=>rfl|k+3,hk=>absurd hk (by omega))) ?_
 refine bF #[.string ByteArray.empty,vi 0,vi 0] bD fun Ao lk bH=>?_
 refine sqp [.m 5 12] ?_
 refine aD (n:=3) 1 #[.string ((es.getD i en0).1),vi (((es.getD i en0).2.1:Int)),vi ((es.getD i en0).2.2)] bH fun oM cc=>?_
 refine aa (wp_seq (br [0,1,3,7,15,7,63,127,255,511,1023,2047,4095,8191,16383,8191,40959,131071,262143,524287,1048575,2097151,4194303,8388607,16777215,33554431,67108863,33554431,167772159,33554431,570425343,2046820351,4194303999,8489271295,17179869183,34359738367,68719476735] [[],[],[],[],[1],[],[],[],[],[],[0],[],[],[],[1],[],[0],[],[],[],[],[],[],[],[],[],[1],[],[0]] [.k 15 (.string lo),.k 16 (.bool (!(lo.toList==((⟨#[]⟩:ByteArray)).toList))),.k 17 (.bool (!(lo.toList==((⟨#[]⟩:ByteArray)).toList))),.z 18 (!(lo.toList==((⟨#[]⟩:ByteArray)).toList)) (vp Ao),.y 19 (!(lo.toList==((⟨#[]⟩:ByteArray)).toList)) (.string ((es.getD i en0).1)),.z 20 (!(lo.toList==((⟨#[]⟩:ByteArray)).toList)) (.string lo),.y 21 (!(lo.toList==((⟨#[]⟩:ByteArray)).toList)) (.bool (al ((es.getD i en0).1) lo)),tA 22 (!(lo.toList==((⟨#[]⟩:ByteArray)).toList)) (al ((es.getD i en0).1) lo),.k 23 (.bool ((!(lo.toList==((⟨#[]⟩:ByteArray)).toList))&&(al ((es.getD i en0).1) lo))),.z 24 (!((!(lo.toList==((⟨#[]⟩:ByteArray)).toList))&&(al ((es.getD i en0).1) lo))) (.pointer (some ⟨bW,3,none⟩)),.y 25 (!((!(lo.toList==((⟨#[]⟩:ByteArray)).toList))&&(al ((es.getD i en0).1) lo))) (.string hg),.y 26 (!((!(lo.toList==((⟨#[]⟩:ByteArray)).toList))&&(al ((es.getD i en0).1) lo))) (.bool (!(hg.toList==((⟨#[]⟩:ByteArray)).toList))),.z 27 (!((!(lo.toList==((⟨#[]⟩:ByteArray)).toList))&&(al ((es.getD i en0).1) lo))) (.bool (!(hg.toList==((⟨#[]⟩:ByteArray)).toList))),.z 28 ((!((!(lo.toList==((⟨#[]⟩:ByteArray)).toList))&&(al ((es.getD i en0).1) lo)))&&(!(hg.toList==((⟨#[]⟩:ByteArray)).toList))) (vp Ao),.y 29 ((!((!(lo.toList==((⟨#[]⟩:ByteArray)).toList))&&(al ((es.getD i en0).1) lo)))&&(!(hg.toList==((⟨#[]⟩:ByteArray)).toList))) (.string ((es.getD i en0).1)),.z 30 ((!((!(lo.toList==((⟨#[]⟩:ByteArray)).toList))&&(al ((es.getD i en0).1) lo)))&&(!(hg.toList==((⟨#[]⟩:ByteArray)).toList))) (.pointer (some ⟨bW,3,none⟩)),.y 31 ((!((!(lo.toList==((⟨#[]⟩:ByteArray)).toList))&&(al ((es.getD i en0).1) lo)))&&(!(hg.toList==((⟨#[]⟩:ByteArray)).toList))) (.string hg),.y 32 ((!((!(lo.toList==((⟨#[]⟩:ByteArray)).toList))&&(al ((es.getD i en0).1) lo)))&&(!(hg.toList==((⟨#[]⟩:ByteArray)).toList))) (.bool (al ((es.getD i en0).1) hg)),.z 33 ((!((!(lo.toList==((⟨#[]⟩:ByteArray)).toList))&&(al ((es.getD i en0).1) lo)))&&(!(hg.toList==((⟨#[]⟩:ByteArray)).toList))) (.bool (!(al ((es.getD i en0).1) hg))),.y 34 (!((!(lo.toList==((⟨#[]⟩:ByteArray)).toList))&&(al ((es.getD i en0).1) lo))) (.bool ((!(hg.toList==((⟨#[]⟩:ByteArray)).toList))&&(!(al ((es.getD i en0).1) hg)))),tO 35 ((!(lo.toList==((⟨#[]⟩:ByteArray)).toList))&&(al ((es.getD i en0).1) lo)) ((!(hg.toList==((⟨#[]⟩:ByteArray)).toList))&&(!(al ((es.getD i en0).1) hg))),.k 36 (.bool (((!(lo.toList==((⟨#[]⟩:ByteArray)).toList))&&(al ((es.getD i en0).1) lo))||((!(hg.toList==((⟨#[]⟩:ByteArray)).toList))&&(!(al ((es.getD i en0).1) hg))))),.z 37 (!(((!(lo.toList==((⟨#[]⟩:ByteArray)).toList))&&(al ((es.getD i en0).1) lo))||((!(hg.toList==((⟨#[]⟩:ByteArray)).toList))&&(!(al ((es.getD i en0).1) hg))))) (vi ((i:Int))),.z 38 (!(((!(lo.toList==((⟨#[]⟩:ByteArray)).toList))&&(al ((es.getD i en0).1) lo))||((!(hg.toList==((⟨#[]⟩:ByteArray)).toList))&&(!(al ((es.getD i en0).1) hg))))) (.bool (decide (0<(i:Int)))),.z 39 (!(((!(lo.toList==((⟨#[]⟩:ByteArray)).toList))&&(al ((es.getD i en0).1) lo))||((!(hg.toList==((⟨#[]⟩:ByteArray)).toList))&&(!(al ((es.getD i en0).1) hg))))) (.bool (decide (0<(i:Int)))),.z 40 ((!(((!(lo.toList==((⟨#[]⟩:ByteArray)).toList))&&(al ((es.getD i en0).1) lo))||((!(hg.toList==((⟨#[]⟩:ByteArray)).toList))&&(!(al ((es.getD i en0).1) hg)))))&&(decide (0<(i:Int)))) (vp Ao),.y 41 ((!(((!(lo.toList==((⟨#[]⟩:ByteArray)).toList))&&(al ((es.getD i en0).1) lo))||((!(hg.toList==((⟨#[]⟩:ByteArray)).toList))&&(!(al ((es.getD i en0).1) hg)))))&&(decide (0<(i:Int)))) (.string ((es.getD i en0).1)),.z 42 ((!(((!(lo.toList==((⟨#[]⟩:ByteArray)).toList))&&(al ((es.getD i en0).1) lo))||((!(hg.toList==((⟨#[]⟩:ByteArray)).toList))&&(!(al ((es.getD i en0).1) hg)))))&&(decide (0<(i:Int)))) (.pointer (some ⟨bW,5,none⟩)),.y 43 ((!(((!(lo.toList==((⟨#[]⟩:ByteArray)).toList))&&(al ((es.getD i en0).1) lo))||((!(hg.toList==((⟨#[]⟩:ByteArray)).toList))&&(!(al ((es.getD i en0).1) hg)))))&&(decide (0<(i:Int)))) (.slice EA n ec),.z 44 ((!(((!(lo.toList==((⟨#[]⟩:ByteArray)).toList))&&(al ((es.getD i en0).1) lo))||((!(hg.toList==((⟨#[]⟩:ByteArray)).toList))&&(!(al ((es.getD i en0).1) hg)))))&&(decide (0<(i:Int)))) (vi ((i:Int))),.y 45 ((!(((!(lo.toList==((⟨#[]⟩:ByteArray)).toList))&&(al ((es.getD i en0).1) lo))||((!(hg.toList==((⟨#[]⟩:ByteArray)).toList))&&(!(al ((es.getD i en0).1) hg)))))&&(decide (0<(i:Int)))) (vi ((i:Int)-1)),.y 46 ((!(((!(lo.toList==((⟨#[]⟩:ByteArray)).toList))&&(al ((es.getD i en0).1) lo))||((!(hg.toList==((⟨#[]⟩:ByteArray)).toList))&&(!(al ((es.getD i en0).1) hg)))))&&(decide (0<(i:Int)))) (.pointer (some ((ad EA).add ((((i:Int)-1).toNat)*3)))),.y 47 ((!(((!(lo.toList==((⟨#[]⟩:ByteArray)).toList))&&(al ((es.getD i en0).1) lo))||((!(hg.toList==((⟨#[]⟩:ByteArray)).toList))&&(!(al ((es.getD i en0).1) hg)))))&&(decide (0<(i:Int)))) (.pointer (some ((ad EA).add ((((i:Int)-1).toNat)*3+0)))),.y 48 ((!(((!(lo.toList==((⟨#[]⟩:ByteArray)).toList))&&(al ((es.getD i en0).1) lo))||((!(hg.toList==((⟨#[]⟩:ByteArray)).toList))&&(!(al ((es.getD i en0).1) hg)))))&&(decide (0<(i:Int)))) (.string ((es.getD (((i:Int)-1).toNat) en0).1)),.y 49 ((!(((!(lo.toList==((⟨#[]⟩:ByteArray)).toList))&&(al ((es.getD i en0).1) lo))||((!(hg.toList==((⟨#[]⟩:ByteArray)).toList))&&(!(al ((es.getD i en0).1) hg)))))&&(decide (0<(i:Int)))) (.bool (((es.getD i en0).1).toList==((es.getD (((i:Int)-1).toNat) en0).1).toList)),.y 50 (!(((!(lo.toList==((⟨#[]⟩:ByteArray)).toList))&&(al ((es.getD i en0).1) lo))||((!(hg.toList==((⟨#[]⟩:ByteArray)).toList))&&(!(al ((es.getD i en0).1) hg))))) (.bool ((decide (0<(i:Int)))&&(((es.getD i en0).1).toList==((es.getD (((i:Int)-1).toNat) en0).1).toList))),tO 51 (((!(lo.toList==((⟨#[]⟩:ByteArray)).toList))&&(al ((es.getD i en0).1) lo))||((!(hg.toList==((⟨#[]⟩:ByteArray)).toList))&&(!(al ((es.getD i en0).1) hg)))) ((decide (0<(i:Int)))&&(((es.getD i en0).1).toList==((es.getD (((i:Int)-1).toNat) en0).1).toList))] [0,1] [4,6,10,11,14,16,17,19,26,28,30,31,32,33,34,35] [(15,0,37,52)] cc ?_ fun nS bM=>?_))
 refine⟨?_,?_,?_,?_,?_,?_,?_,?_,?_,?_,?_,?_,?_,?_,?_,?_,trivial⟩
 exact m2 rfl (fun _ _ _ h=>h) (fun cx=>(cx.an 2)) fun cx hq=>ae rfl (by kernel_rfl) (mbv (cx.an 3) hq) ((cx.bi 1 rfl).cell 0)
 exact m3 rfl (fun _ _ _ h=>h) (fun cx=>(cx.an 2)) fun cx hq=>⟨_,_,aB (args:=#[.string ((es.getD i en0).1),.string lo]) rfl cx.sees rfl (by kernel_rfl) (aI (mbv (cx.an 4) hq) (mbv (cx.an 5) hq)),gh ((es.getD i en0).1) lo _ (b7 hez _) (by omega)⟩
 exact m2 rfl (fun _ _ _ h=>h) (fun cx=>(cx.an 8)) fun cx hq=>ae rfl (by kernel_rfl) (mbv (cx.an 9) hq) ((cx.bi 0 rfl).cell 3)
 exact m2 rfl (fun _ _ _ h=>h) (fun cx=>(cx.an 8)) fun cx hq=>ud rfl (mbv (cx.an 10) hq) (cx.co _)
 exact m0 rfl (fun _ _ _ h=>h) (fun cx=>(cx.an 12)) fun cx hq=>ae rfl (by kernel_rfl) (mbv (cx.an 13) hq) ((cx.bi 1 rfl).cell 0)
 exact m0 rfl (fun _ _ _ h=>h) (fun cx=>(cx.an 12)) fun cx hq=>ae rfl (by kernel_rfl) (mbv (cx.an 15) hq) ((cx.bi 0 rfl).cell 3)
 exact m1 rfl (fun _ _ _ h=>h) (fun cx=>(cx.an 12)) fun cx hq=>⟨_,_,aB (args:=#[.string ((es.getD i en0).1),.string hg]) rfl cx.sees rfl (by kernel_rfl) (aI (mbv (cx.an 14) hq) (mbv (cx.an 16) hq)),gh ((es.getD i en0).1) hg _ (b7 hez _) (by omega)⟩
 exact m2 rfl (fun _ _ _ h=>h) (fun cx=>(cx.an 8)) fun cx hq=>iU rfl (mbv (cx.an 12) hq) (cx.an 18) (fun e_=>by rw[hq,e_];rfl) (cx.co _)
 exact m0 rfl (fun _ _ _ h=>h) (fun cx=>(cx.an 24)) fun cx hq=>ae rfl (by kernel_rfl) (mbv (cx.an 25) hq) ((cx.bi 1 rfl).cell 0)
 exact m0 rfl (fun _ _ _ h=>h) (fun cx=>(cx.an 24)) fun cx hq=>ae rfl (by kernel_rfl) (mbv (cx.an 27) hq) ((cx.bi 0 rfl).cell 5)
 exact m0 rfl (fun _ _ _ h=>h) (fun cx=>(cx.an 24)) fun cx hq=>ji rfl (mbv (cx.an 29) hq) (cx.co _) (congrArg (fun z=>some (Value.int .i64 z)) ((IntWalk.i64_in _ (by have hq_:=hq;simp only[zB] at hq_;omega)).trans (by have hq_:=hq;simp only[zB] at hq_;omega)))
 exact m0 rfl (fun _ _ _ h=>h) (fun cx=>(cx.an 24)) fun cx hq=>aH (e:=89) (m:=((i:Int)-1).toNat) (sz:=3) rfl (by kernel_rfl) (by kernel_rfl) (mbv (cx.an 28) hq) (mbv (cx.an 30) hq) (by have hq_:=hq;simp only[zB] at hq_;omega) (by have hq_:=hq;simp only[zB] at hq_;omega) (hE.ext cx.upd.to_ext) (bq (sz:=3) aQ (by decide) (by have hq_:=hq;simp only[zB] at hq_;omega))
 exact m0 rfl (fun _ _ _ h=>h) (fun cx=>(cx.an 24)) fun cx hq=>dZ rfl (by kernel_rfl) (mbv (cx.an 31) hq)
 exact m0 rfl (fun _ _ _ h=>h) (fun cx=>(cx.an 24)) fun cx hq=>ae rfl (by kernel_rfl) (mbv (cx.an 32) hq) (At.eltc (f:=enC) (k:=0) aQ (hE.ext cx.upd.to_ext) (cR (by have hq_:=hq;simp only[zB] at hq_;omega)) rfl)
 exact m0 rfl (fun _ _ _ h=>h) (fun cx=>(cx.an 24)) fun cx hq=>od rfl (mbv (cx.an 26) hq) (mbv (cx.an 33) hq)
 exact m2 rfl (fun _ _ _ h=>h) (fun cx=>(cx.an 21)) fun cx hq=>iU rfl (mbv (cx.an 24) hq) (cx.an 34) (fun e_=>by rw[hq,e_];rfl) (cx.co _)
 refine aa (wbs (fun iu=>?_) fun iu=>?_)
 have lO:=iu
 simp only[zB] at lO
 refine wp_seq (sqr (sqp [.k 4 (.bool false)] ?_))
 refine aa (wp_ret (aq (af (af (aq (af ?_))))))
 refine bpr (.bool false) (ai Tryz.results106 rpt) ?_
 exact Ret.bool (by rw[srF,hn];exact(dP (i:=i) (by omega) (by rw[show srS hg lo es i=true from iu];rfl)).symm) bM.ext
 have lO:=iu
 simp only[zB] at lO
 obtain⟨⟨O1,O2⟩,O3⟩:=lO
 refine wp_skip (ax (aa (sqr (sqp [sI 52 ((i:Int)+1) (by omega),.m 10 52] ?_))))
 refine aa ?_
 refine⟨n-((i+1)),by omega,?_⟩
 exact⟨(i+1),by omega,kR hall (by rw[show srS hg lo es i=false from iu];rfl),rfl,(by kernel_rfl),bM.pk [0]⟩
 refine wp_exit (aj (aj (aO (aa (wp_seq (sqr (sqp [.k 4 (.bool true)] ?_)))))))
 refine aa (wp_ret ?_)
 refine bpr (.bool true) (ai Tryz.results106 rpt) ?_
 exact Ret.bool (by rw[srF,hn,show n=i by omega];exact hall.symm) bD.ext
def yn0:YnD:=(cg,0,none,0)
theorem jY{l:List YnD}{k:Nat}(h:k<l.length):l[k]? =some (l.getD k yn0):=by rw[List.getD_eq_getElem?_getD,List.getElem?_eq_getElem h];rfl
def ldW(L:List (Int×NoD))(k:Int):ByteArray:=if 0<k then (L.getD (k-1).toNat (0,cg)).2.high else aF
def ldI(L:List (Int×NoD))(kid:Int):Int:=cj (fun m=>m.1==kid) 0 L
def ldS(L:List (Int×NoD))(e:EnD):Bool:=decide (ldI L e.2.2<0)||!(e.1.toList==(ldW L (ldI L e.2.2)).toList)
def ldF(L:List (Int×NoD))(es:List EnD):Bool:=((List.range es.length).all fun i=>!ldS L (es.getD i en0))&&decide (0<(es.length:Int))
theorem wP{α a:Type}(f:α->a)(p:a->Bool):∀(l:List α) (k:Int),cj p k (l.map f)=cj (fun x=>p (f x)) k l
 | [],_=>rfl
 |x::l,k=>by rw[List.map_cons,cj,cj,wP f p l]
theorem tu{α:Type}(p:α->Bool):∀(l:List α) (k:Int),0<=k->  -1<=cj p k l/\cj p k l<k+l.length
 | [],k,h=>⟨Int.le_refl _,by rw[cj,List.length_nil];omega⟩
 |x::l,k,h=>by
  rw[cj,List.length_cons]
  split
  exact⟨by omega,by omega⟩
  have:=tu p l (k+1) (by omega)
  exact⟨this.1,by omega⟩
theorem ci(xs:List YnD)(k:Nat):(xs.map pgN).getD k (0,cg)=pgN (xs.getD k yn0):=by
 rw[List.getD_eq_getElem?_getD,List.getD_eq_getElem?_getD,List.getElem?_map]
 cases xs[k]? <;>rfl
theorem xY(y:YnD)(eb:Nat)(x:ByteArray)(s kid:Int)(w:World)(h1:Blk w eb 89 #[.string x,.int .i64 s,.int .i64 kid]):
  Calls Tryz.prog 127 #[.agg #[.int .i64 y.2.1,.int .i64 y.1.lv,.int .i64 y.1.right,.string y.1.high,.bool y.1.dead,.slice y.2.2.1 y.1.es.length y.2.2.2,.int .i64 ((y.1.free:Int))],.pointer (some ⟨eb,0,none⟩)] w (Ret (.bool (y.2.1==kid)) w):=by
 go_enter Tryz.func127,Tryz.ntmps127
 have ar:=St.start w
 refine wp_seq (sqr ?_)
 refine bZ #[vi y.2.1,vi y.1.lv,vi y.1.right,.string y.1.high,.bool y.1.dead,.slice y.2.2.1 y.1.es.length y.2.2.2,vi ((y.1.free:Int))] ar fun bW W1 aE=>?_
 refine sqp [.k 3 (.bool false)] ?_
 refine aa (wp_seq (sqr (sqp [.k 4 (vp bW)] ?_)))
 refine am 0 aE ?_
 refine sqp [.k 6 (.pointer (some ⟨eb,2,none⟩))] ?_
 refine sql (vi kid) aE (fun cx=>ae rfl (by kernel_rfl) (cx.ou 6) ((Blk.ext h1 cx.upd.to_ext).cell 2)) ?_
 refine sqp [.k 8 (.bool (y.2.1==kid)),.m 3 8] ?_
 refine aa (wp_ret ?_)
 refine bpr (.bool (y.2.1==kid)) (ai Tryz.results127 rpt) ?_
 exact Ret.bool rfl aE.ext
theorem Bx(FA:Option Addr)(fc:Nat)(ks:List YnD)(f0:FuncId)(cap:Array Value)(p:YnD->Bool)(w:World)(hF:At w FA (ks.flatMap ynC))(hl:ks.length<=100000)(hcf:dV Tryz.prog f0=true)(hf:∀(W:World) (k:YnD),Ext w W->Calls Tryz.prog f0 (#[.agg #[.int .i64 k.2.1,.int .i64 k.1.lv,.int .i64 k.1.right,.string k.1.high,.bool k.1.dead,.slice k.2.2.1 k.1.es.length k.2.2.2,.int .i64 ((k.1.free:Int))]]++cap) W (Ret (.bool (p k)) W)):
  Calls Tryz.prog 126 #[.slice FA ks.length fc,.func (.func f0) #[] cap] w (Ret (.int .i64 (cj p 0 ks)) w):=by
 go_enter Tryz.func126,Tryz.ntmps126
 have ar:=St.start w
 refine wp_seq (sqr (sqp [.k 4 (vi 0)] ?_))
 refine aa (wp_seq (wp_seq (sqr (sqp [.m 6 0,.k 7 (vi ((ks.length:Int))),.k 8 (vi 0)] ?_))))
 refine aa (wp_block ?_)
 refine aL (fun t_ mz az W=>∃k:Nat,k<=ks.length/\cj p 0 ks=cj p (k:Int) (ks.drop k)/\mz=ks.length-k/\az=⟨(ovr (jv az) [(4,4,2,[]),(2,8,0,[vi ((k:Int))]),(0,9,10,[])] t_).toArray,[]⟩/\St w [] [] W) (ks.length-0) ?_ ?_
 exact⟨0,Nat.zero_le _,rfl,rfl,(by kernel_rfl),ar.pk []⟩
 rintro n5 a5 W5 ⟨k,hk,hkr,rfl,hj_,bw⟩
 refine ovz hj_ fun Cf=>?_
 refine wp_seq (sqr (sqp [.k 9 (.bool (decide ((k:Int)<(ks.length:Int))))] ?_))
 refine aa (wp_seq (wds (fun w8 qO=>?_) fun w8 qO=>?_))
 refine wp_skip (aa (wp_seq (wp_block (wp_seq (sqr (sqp [.m 10 8,.m 5 10] ?_))))))
 refine aa (wp_seq (sqr (sqp [.m 11 1,.m 12 0,.m 13 5] ?_)))
 refine sql (.pointer (some ((ad FA).add (k*7)))) bw (fun cx=>aH (e:=84) (m:=k) (sz:=7) rfl (by kernel_rfl) (by kernel_rfl) (cx.ou 12) (cx.ou 13) (by omega) (by omega) (hF.ext cx.upd.to_ext) (bq (sz:=7) fL (by decide) (by omega))) ?_
 refine sql (.agg #[vi ((ks.getD k yn0).2.1),vi ((ks.getD k yn0).1.lv),vi ((ks.getD k yn0).1.right),.string ((ks.getD k yn0).1.high),.bool ((ks.getD k yn0).1.dead),.slice ((ks.getD k yn0).2.2.1) ((ks.getD k yn0).1.es.length) ((ks.getD k yn0).2.2.2),vi (((ks.getD k yn0).1.free:Int))]) bw (fun cx=>aZ (f:=ynC) (m:=k) (sz:=7) (off:=0) (n:=7) rfl (by kernel_rfl) (by kernel_rfl) (cx.ou 14) rfl fL (hF.ext cx.upd.to_ext) (jY (by omega)) (fun k hk=>match k,hk with|0,_=>rfl|1,_=>rfl|2,_=>rfl|3,_=>rfl|4,_=>rfl|5,_=>rfl|6,_=>rfl|k+7,hk=>absurd hk (by omega))) ?_
 refine sqv (.bool ((p (ks.getD k yn0)))) bw (gy rfl rfl rfl rfl rfl (fun _ _ _ h=>h) fun a b W X cx=>⟨_,_,iF (f:=f0) (args:=#[.agg #[vi ((ks.getD k yn0).2.1),vi ((ks.getD k yn0).1.lv),vi ((ks.getD k yn0).1.right),.string ((ks.getD k yn0).1.high),.bool ((ks.getD k yn0).1.dead),.slice ((ks.getD k yn0).2.2.1) ((ks.getD k yn0).1.es.length) ((ks.getD k yn0).2.2.2),vi (((ks.getD k yn0).1.free:Int))]]) (args':=#[.agg #[vi ((ks.getD k yn0).2.1),vi ((ks.getD k yn0).1.lv),vi ((ks.getD k yn0).1.right),.string ((ks.getD k yn0).1.high),.bool ((ks.getD k yn0).1.dead),.slice ((ks.getD k yn0).2.2.1) ((ks.getD k yn0).1.es.length) ((ks.getD k yn0).2.2.2),vi (((ks.getD k yn0).1.free:Int))]]++cap) rfl rfl (cx.ou 11) hcf (bp (cx.ou 15)) (by rw[Array.empty_append]),(by have h9:=hf W (ks.getD k yn0) cx.upd.to_ext;exact h9)⟩) fun oM cc=>?_
 refine aa (wbs (fun nB=>?_) fun nB=>?_)
 refine wp_seq (sqr (sqp [.m 17 5,.m 4 17] ?_))
 refine aa (wp_ret (aq (af (af (aq (af ?_))))))
 refine bpr (vi ((k:Int))) (ai Tryz.results126 rpt) ?_
 exact Ret.of (by rw[hkr,pO (jY (l:=ks) (k:=k) (by omega)),nB];rfl) cc.ext
 refine wp_skip (ax (aa (sqr (sqp [sI 18 ((k:Int)+1) (by omega),.m 8 18] ?_))))
 refine aa ?_
 refine⟨ks.length-((k+1)),by omega,?_⟩
 exact⟨(k+1),by omega,by rw[hkr,pO (jY (l:=ks) (k:=k) (by omega)),nB];rfl,rfl,(by kernel_rfl),cc.pk []⟩
 refine wp_exit (aj (aj (aO (aa (wp_seq (sqr (sqp [.k 4 (vi (-1))] ?_)))))))
 refine aa (wp_ret ?_)
 refine bpr (vi (-1)) (ai Tryz.results126 rpt) ?_
 exact Ret.of (by rw[hkr,List.drop_of_length_le (by omega)];rfl) bw.ext
theorem AV{A:Option Addr}{c:Nat}{xs:List YnD}{w:World}{eb:Nat}{x:ByteArray}{s kid:Int}(hF:At w A (xs.flatMap ynC))(hl:xs.length<=100000)(h1:Blk w eb 89 #[.string x,.int .i64 s,.int .i64 kid]):
  Calls Tryz.prog 126 #[.slice A xs.length c,.func (.func 127) #[] #[.pointer (some ⟨eb,0,none⟩)]] w (Ret (.int .i64 (ldI (xs.map pgN) kid)) w):=by
 rw[ldI,wP]
 exact Bx A c xs 127 #[.pointer (some ⟨eb,0,none⟩)] (fun y=>y.2.1==kid) w hF hl (by kernel_rfl) (fun W k hW=>xY k eb x s kid W (h1.ext hW))
theorem wg(pg lv rt fr:Int)(hg:ByteArray)(dd:Bool)(EA:Option Addr)(ec n:Nat)(es:List EnD)(BA:Option Addr)(bc:Nat)(xs:List YnD)(w:World)(hE:At w EA (es.flatMap enC))(hn:es.length=n)(hn1:n<=100)(hB:At w BA (xs.flatMap ynC))(hbl:xs.length<=100000):
  Calls Tryz.prog 107 #[.agg #[.int .i64 pg,.int .i64 lv,.int .i64 rt,.string hg,.bool dd,.slice EA n ec,.int .i64 fr],.slice BA xs.length bc] w (Ret (.bool (ldF (xs.map pgN) es)) w):=by
 go_enter Tryz.func107,Tryz.ntmps107
 have ar:=St.start w
 refine wp_seq (sqr ?_)
 refine bZ #[vi pg,vi lv,vi rt,.string hg,.bool dd,.slice EA n ec,vi fr] ar fun bW W1 aE=>?_
 refine sqp [.k 4 (.bool false)] ?_
 refine aa (wp_seq (wp_seq (sqr (sqp [.k 9 (.pointer (some ⟨bW,5,none⟩))] ?_))))
 refine am 0 aE ?_
 refine sqp [.k 11 (vi ((n:Int))),.k 12 (vi 0)] ?_
 refine aa (wp_block ?_)
 refine aL (fun t_ mz az W=>∃i:Nat,i<=n/\(List.range i).all (fun i=>!ldS (xs.map pgN) (es.getD i en0))=true/\mz=n-i/\az=⟨(ovr (jv az) [(4,4,1,[]),(1,6,3,[]),(3,12,0,[vi ((i:Int))]),(0,13,24,[])] t_).toArray,[]⟩/\St w [] [eB bW 84 #[vi pg,vi lv,vi rt,.string hg,.bool dd,.slice EA n ec,vi fr]] W) (n-0) ?_ ?_
 exact⟨0,Nat.zero_le _,rfl,rfl,(by kernel_rfl),aE.pk [0]⟩
 rintro n7 a7 W7 ⟨i,hi,hall,rfl,hj_,bD⟩
 refine ovz hj_ fun E5=>?_
 refine wp_seq (sqr (sqp [.k 13 (.bool (decide ((i:Int)<(n:Int))))] ?_))
 refine aa (wp_seq (wds (fun xf xG=>?_) fun xf xG=>?_))
 ·refine wp_skip (aa (wp_seq (wp_block (wp_seq (sqr ?_)))))
  refine sql (.pointer (some ((ad EA).add (i*3)))) bD (fun cx=>aH (e:=89) (m:=i) (sz:=3) rfl (by kernel_rfl) (by kernel_rfl) (cx.ou 10) (cx.ou 12) (by omega) (by omega) (hE.ext cx.upd.to_ext) (bq (sz:=3) aQ (by decide) (by omega))) ?_
  refine sql (.agg #[.string ((es.getD i en0).1),vi (((es.getD i en0).2.1:Int)),vi ((es.getD i en0).2.2)]) bD (fun cx=>aZ (f:=enC) (m:=i) (sz:=3) (off:=0) (n:=3) rfl (by kernel_rfl) (by kernel_rfl) (cx.ou 14) rfl aQ (hE.ext cx.upd.to_ext) (cR (by omega)) (fun k hk=>match k,hk with|0,_=>rfl|1,_=>rfl|2,_=>rfl|k+3,hk=>absurd hk (by omega))) ?_
  refine bF #[.string ByteArray.empty,vi 0,vi 0] bD fun u4 mH bU=>?_
  refine aD (n:=3) 1 #[.string ((es.getD i en0).1),vi (((es.getD i en0).2.1:Int)),vi ((es.getD i en0).2.2)] bU fun lk bH=>?_
  refine aa (wp_seq (sqr (sqp [.m 16 1] ?_)))
  refine sqv (.func (.func 127) #[] #[vp u4]) bH (by
    exact sv0 rfl rfl rfl rfl rfl (fun _ _ _ h=>h) fun b c W X cx=>by
     have Iy:b (.tmp 6)=vp u4:=(cx.ou 6)
     simp[go_sem,Instr.makeFunc,Iy]) fun oM cc=>?_
  refine sqk (vi ((ldI (xs.map pgN) ((es.getD i en0).2.2)))) cc (fun cx=>⟨_,AV (hB.ext cx.upd.to_ext) hbl (cx.bi 1 rfl),(aI (cx.ou 16) (cx.ou 17))⟩) fun nS bM=>?_
  refine sqp [.m 7 18] ?_
  refine aa (wp_seq ?_)
  obtain⟨ix,l5⟩:∃z,(ldI (xs.map pgN) ((es.getD i en0).2.2))=z:=⟨_,rfl⟩
  rw[l5]
  have hix:=tu (fun m:Int×NoD=>m.1==(es.getD i en0).2.2) (xs.map pgN) 0 (by omega)
  rw[show cj (fun m:Int×NoD=>m.1==(es.getD i en0).2.2) 0 (xs.map pgN)=ix from l5,List.length_map] at hix
  refine sqr (sqk (.string aF) bM (fun cx=>⟨_,zl _,zx⟩) fun qi b5=>?_)
  refine sqp [.m 8 19] ?_
  refine aa ?_
  refine ju (fun t_ az W=>∃wt:ByteArray,wt=ldW (xs.map pgN) ix/\az=⟨(ovr (jv az) [(8,8,0,[.string wt]),(11,20,8,[])] t_).toArray,[]⟩/\St w [] [eB bW 84 #[vi pg,vi lv,vi rt,.string hg,.bool dd,.slice EA n ec,vi fr],eB u4 89 #[.string ((es.getD i en0).1),vi (((es.getD i en0).2.1:Int)),vi ((es.getD i en0).2.2)]] W) ?_ ?_
  refine wp_seq (sqr (sqp [.m 20 7,.k 21 (.bool (decide (0<ix)))] ?_))
  refine aa (wds (fun w6 Lq=>?_) fun w6 Lq=>?_)
  refine sqr (sqp [.m 22 1,.m 23 7,sI 24 (ix-1) (by omega)] ?_)
  refine sql (.pointer (some ((ad BA).add (((ix-1).toNat)*7)))) b5 (fun cx=>aH (e:=84) (m:=(ix-1).toNat) (sz:=7) rfl (by kernel_rfl) (by kernel_rfl) (cx.ou 22) (cx.ou 24) (by omega) (by omega) (hB.ext cx.upd.to_ext) (bq (sz:=7) fL (by decide) (by omega))) ?_
  refine sql (.pointer (some ((ad BA).add (((ix-1).toNat)*7+3)))) b5 (fun cx=>dZ rfl (by kernel_rfl) (cx.ou 25)) ?_
  refine sql (.string ((xs.getD ((ix-1).toNat) yn0).1.high)) b5 (fun cx=>ae rfl (by kernel_rfl) (cx.ou 26) (At.eltc (f:=ynC) (k:=3) fL (hB.ext cx.upd.to_ext) (jY (by omega)) rfl)) ?_
  refine sqp [.m 8 27] ?_
  refine aa ?_
  exact⟨((xs.getD ((ix-1).toNat) yn0).1.high),by rw[ldW,if_pos (by omega)];rw[ci];rfl,(by kernel_rfl),b5.pk [0,1]⟩
  refine wp_skip (aa ?_)
  exact⟨aF,by rw[ldW,if_neg (by omega)],(by kernel_rfl),b5.pk [0,1]⟩
  rintro a20 qj ⟨wt,hwt,hj_,cb⟩
  refine ovz hj_ fun MK=>?_
  refine wp_seq (sqr (sqp [.m 28 7,.k 29 (.bool (decide (ix<0))),.m 30 29] ?_))
  refine cv 30 [31,32,33,34] ?_ rfl (fun hq=>?_) ?_
  rotate_left
  refine sqp [.k 31 (vp u4)] ?_
  refine am 1 cb ?_
  refine sqp [.m 33 8,.k 34 (.bool (!(((es.getD i en0).1).toList==wt.toList)))] ?_
  exact sqe
  refine bQ ?_
  refine sqp [sPo 35 (decide (ix<0)) (!(((es.getD i en0).1).toList==wt.toList))] ?_
  refine aa (wbs (fun ee=>?_) fun ee=>?_)
  have u5:=ee
  simp only[zB] at u5
  refine wp_seq (sqr (sqp [.k 4 (.bool false)] ?_))
  refine aa (wp_ret (aq (af (af (aq (af ?_))))))
  refine bpr (.bool false) (ai Tryz.results107 rpt) ?_
  exact Ret.bool (by rw[ldF,hn,dP (i:=i) (by omega) (by rw[show ldS (xs.map pgN) (es.getD i en0)=true by rw[ldS,l5,<-hwt];exact ee];rfl),Bool.false_and]) cb.ext
  have u5:=ee
  simp only[zB] at u5
  obtain⟨O4,O5⟩:=u5
  refine wp_skip (ax (aa (sqr (sqp [sI 36 ((i:Int)+1) (by omega),.m 12 36] ?_))))
  refine aa ?_
  refine⟨n-((i+1)),by omega,?_⟩
  exact⟨(i+1),by omega,kR hall (by rw[show ldS (xs.map pgN) (es.getD i en0)=false by rw[ldS,l5,<-hwt];exact ee];rfl),rfl,(by kernel_rfl),cb.pk [0]⟩
 refine wp_exit (aj (aj (aO (aa (wp_seq (sqr (sqp [.k 37 (.pointer (some ⟨bW,5,none⟩))] ?_)))))))
 refine am 0 bD ?_
 refine sqp [.k 39 (vi ((n:Int))),.k 40 (.bool (decide (0<(n:Int)))),.m 4 40] ?_
 refine aa (wp_ret ?_)
 refine bpr (.bool (decide (0<(n:Int)))) (ai Tryz.results107 rpt) ?_
 exact Ret.bool (by rw[ldF,hn,show n=i by omega,hall,Bool.true_and]) bD.ext
def rgA(n:NoD)(last:Bool)(lo:ByteArray):Bool:=n.dead||decide (8<(n.es.length:Int))||(last != (n.high.toList==(⟨#[]⟩:ByteArray).toList))||(last != decide (n.right<0))||!(srF n.high lo n.es)
def rgB(n:NoD)(i:Nat)(Lb:List (Int×NoD)):Bool:=decide (0<n.lv)&&(!(ldF Lb n.es)||(((i:Int)==0)&&((n.es.getD 0 en0).2.2 != (Lb.getD 0 (0,cg)).1)))
def rgC(n:NoD)(lo:ByteArray):Bool:=(neB lo&&neB n.high)&&al n.high lo
def fP(L:List (Int×NoD))(i:Nat):ByteArray:=if i=0 then ⟨#[]⟩ else (L.getD (i-1) (0,cg)).2.high
def rgX(L Lb:List (Int×NoD))(i:Nat):Bool:=rgA (L.getD i (0,cg)).2 ((i:Int)==(L.length:Int)-1) (fP L i)||rgB (L.getD i (0,cg)).2 i Lb||rgC (L.getD i (0,cg)).2 (fP L i)
def rgF(L Lb:List (Int×NoD)):Bool:=((List.range L.length).all fun i=>!rgX L Lb i)&&(decide (0<(L.length:Int))&&decide ((L.length:Int)<=400))
theorem ra{L:List (Int×NoD)}{es:List EnD}(h:ldF L es=true):0<L.length/\0<es.length:=by
 rw[ldF,Bool.and_eq_true] at h
 have h2:0<es.length:=by have:=of_decide_eq_true h.2;omega
 refine⟨?_,h2⟩
 have h1:=List.all_eq_true.1 h.1 0 (List.mem_range.2 h2)
 have h3:ldS L (es.getD 0 en0)=false:=by simpa using h1
 rw[ldS,Bool.or_eq_false_iff] at h3
 have h4:=of_decide_eq_false h3.1
 have h5:=tu (fun m:Int×NoD=>m.1==(es.getD 0 en0).2.2) L 0 (by omega)
 rw[ldI] at h4
 omega
theorem gn{xs ys:List YnD}{i:Nat}{y:YnD}{lo:ByteArray}(h:(xs.map pgN).getD i (0,cg)=pgN y)(hl:lo=fP (xs.map pgN) i):rgX (xs.map pgN) (ys.map pgN) i=(rgA y.1 ((i:Int)==(xs.length:Int)-1) lo||rgB y.1 i (ys.map pgN)||rgC y.1 lo):=by rw[rgX,h,<-hl,List.length_map];rfl
theorem HG{xs:List YnD}(h:∀y∈xs,NdOk y.1)(i:Nat):(fP (xs.map pgN) i).size<=900000:=by
 unfold fP;split
 exact Nat.zero_le _
 rw[ci,List.getD_eq_getElem?_getD]
 cases hx:xs[i-1]? with
 |none=>exact Nat.zero_le _
 |some y=>exact(h y (List.mem_of_getElem? hx)).hi
theorem Du(SA BA:Option Addr)(sc bc:Nat)(xs ys:List YnD)(w:World)(hS:At w SA (xs.flatMap ynC))(hR:∀y∈xs,At w y.2.2.1 (y.1.es.flatMap enC))(hB:At w BA (ys.flatMap ynC))(hN:∀y∈xs,NdOk y.1)(hxl:xs.length<=1000)(hyl:ys.length<=1000):
  Calls Tryz.prog 66 #[.slice SA xs.length sc,.slice BA ys.length bc] w (Ret (.bool (rgF (xs.map pgN) (ys.map pgN))) w):=by
 go_enter Tryz.func66,Tryz.ntmps66
 have ar:=St.start w
 refine wp_seq (sqr (sqp [.k 4 (.bool false)] ?_))
 refine aa (wp_seq (sqr (sqp [.k 5 (.string ⟨#[]⟩)] ?_)))
 refine aa (wp_seq (wp_seq (sqr (sqp [.m 9 0,.k 10 (vi ((xs.length:Int))),.k 11 (vi 0)] ?_))))
 refine aa (wp_block ?_)
 refine aL (fun t_ mz az W=>∃i:Nat,∃lo:ByteArray,i<=xs.length/\lo=fP (xs.map pgN) i/\(List.range i).all (fun i=>!rgX (xs.map pgN) (ys.map pgN) i)=true/\mz=xs.length-i/\az=⟨(ovr (jv az) [(4,4,1,[.string lo]),(0,6,3,[]),(2,11,0,[vi ((i:Int))]),(0,12,73,[])] t_).toArray,[]⟩/\St w [] [] W) (xs.length-0) ?_ ?_
 exact⟨0,(⟨#[]⟩:ByteArray),Nat.zero_le _,rfl,rfl,rfl,(by kernel_rfl),ar.pk []⟩
 rintro n6 a6 W6 ⟨i,lo,hi,hlo,hall,rfl,hj_,cM⟩
 refine ovz hj_ fun Ir=>?_
 refine wp_seq (sqr (sqp [.k 12 (.bool (decide ((i:Int)<(xs.length:Int))))] ?_))
 refine aa (wp_seq (wds (fun sm nu=>?_) fun sm nu=>?_))
 refine wp_skip (aa (wp_seq (wp_block (wp_seq ?_))))
 obtain⟨y_,hy_⟩:∃z,xs[i]? =some z:=⟨_,jY (by omega)⟩
 have hym_:=List.mem_of_getElem? hy_
 have hRy:=hR y_ hym_
 have hNy:=hN y_ hym_
 have hN1:=hNy.len
 have hN2:=hNy.lv
 have hN3:=hNy.rt
 have hN4:=hNy.hi
 have hNz:∀e∈y_.1.es,e.1.size<=1000000:=fun e he=>Nat.le_trans (hNy.es e he) (by decide)
 have hloz:lo.size<=900000:=by rw[hlo];exact HG hN i
 have hgd:(xs.map pgN).getD i (0,cg)=pgN y_:=by rw[ci,List.getD_eq_getElem?_getD,hy_];rfl
 refine sqr (sqp [.m 13 11] ?_)
 refine sql (.pointer (some ((ad SA).add (i*7)))) cM (fun cx=>aH (e:=84) (m:=i) (sz:=7) rfl (by kernel_rfl) (by kernel_rfl) (cx.ou 9) (cx.ou 11) (by omega) (by omega) (hS.ext cx.upd.to_ext) (bq (sz:=7) fL (by decide) (by omega))) ?_
 refine sql (.agg #[vi y_.2.1,vi y_.1.lv,vi y_.1.right,.string y_.1.high,.bool y_.1.dead,.slice y_.2.2.1 y_.1.es.length y_.2.2.2,vi ((y_.1.free:Int))]) cM (fun cx=>aZ (f:=ynC) (m:=i) (sz:=7) (off:=0) (n:=7) rfl (by kernel_rfl) (by kernel_rfl) (cx.ou 14) rfl fL (hS.ext cx.upd.to_ext) hy_ (fun k hk=>match k,hk with|0,_=>rfl|1,_=>rfl|2,_=>rfl|3,_=>rfl|4,_=>rfl|5,_=>rfl|6,_=>rfl|k+7,hk=>absurd hk (by omega))) ?_
 refine bF #[vi 0,vi 0,vi 0,.string ByteArray.empty,.bool false,.slice none 0 0,vi 0] cM fun e7 mH bU=>?_
 refine sqp [.m 6 13] ?_
 refine aD (n:=7) 0 #[vi y_.2.1,vi y_.1.lv,vi y_.1.right,.string y_.1.high,.bool y_.1.dead,.slice y_.2.2.1 y_.1.es.length y_.2.2.2,vi ((y_.1.free:Int))] bU fun kb bm=>?_
 refine aa (wp_seq (sqr (sqp [.m 16 6,.m 17 0,.k 18 (vi ((xs.length:Int))),sI 19 ((xs.length:Int)-1) (by omega),.k 20 (.bool ((i:Int)==((xs.length:Int)-1))),.m 8 20] ?_)))
 refine aa (wp_seq (wp_block (wp_seq (wp_seq (sqr (sqp [.k 22 (.pointer (some ⟨e7,4,none⟩))] ?_))))))
 refine am 0 bm ?_
 refine sqp [.m 21 23] ?_
 refine aa (wbs (fun fD=>?_) fun fD=>?_)
 refine wp_skip (aa (wct fD (wp_seq (sqr (sqp [.k 4 (.bool false)] ?_)))))
 refine aa (wp_ret (aq (af (aq (af (af (aq (af ?_))))))))
 refine bpr (.bool false) (ai Tryz.results66 rpt) ?_
 exact Ret.bool (by rw[rgF,dP (i:=i) (by rw[List.length_map];omega) (by rw[gn hgd hlo];simp only[rgA,rgB,rgC,neB,bne,ci,pgN,fD,Bool.or_false,Bool.false_or,Bool.not_true,Bool.not_false,Bool.or_true,Bool.true_or,Bool.and_true,Bool.true_and,Bool.and_false,Bool.false_and]),Bool.false_and]) bm.ext
 refine wp_seq (sqr (sqp [.k 24 (.pointer (some ⟨e7,5,none⟩))] ?_))
 refine am 0 bm ?_
 refine sqp [.k 26 (vi ((y_.1.es.length:Int))),.k 27 (.bool (decide (8<(y_.1.es.length:Int)))),.m 21 27] ?_
 refine aa (wds (fun gU z2=>?_) fun gU z2=>?_)
 refine wp_skip (aa (wct gU (wp_seq (sqr (sqp [.k 4 (.bool false)] ?_)))))
 refine aa (wp_ret (aq (af (aq (af (af (aq (af ?_))))))))
 refine bpr (.bool false) (ai Tryz.results66 rpt) ?_
 exact Ret.bool (by rw[rgF,dP (i:=i) (by rw[List.length_map];omega) (by rw[gn hgd hlo];simp only[rgA,rgB,rgC,neB,bne,ci,pgN,fD,gU,Bool.or_false,Bool.false_or,Bool.not_true,Bool.not_false,Bool.or_true,Bool.true_or,Bool.and_true,Bool.true_and,Bool.and_false,Bool.false_and]),Bool.false_and]) bm.ext
 refine wp_seq (sqr (sqp [.m 28 8,.k 29 (.pointer (some ⟨e7,3,none⟩))] ?_))
 refine am 0 bm ?_
 refine sqp [.k 31 (.bool (y_.1.high.toList==((⟨#[]⟩:ByteArray)).toList))] ?_
 refine sqv (.bool (!(((i:Int)==((xs.length:Int)-1))==(y_.1.high.toList==((⟨#[]⟩:ByteArray)).toList)))) bm (by
   exact sv0 rfl rfl rfl rfl rfl (fun _ _ _ h=>h) fun a b W X cx=>by
    have qV:a (.tmp 28)= .bool ((i:Int)==((xs.length:Int)-1)):=(cx.ou 28)
    have EF:a (.tmp 31)= .bool (y_.1.high.toList==((⟨#[]⟩:ByteArray)).toList):=(cx.ou 31)
    simp[go_sem,qV,EF]) fun IV hH=>?_
 refine sqp [.m 21 32] ?_
 refine aa ?_
 rcases Bool.eq_false_or_eq_true (((i:Int)==((xs.length:Int)-1))==(y_.1.high.toList==((⟨#[]⟩:ByteArray)).toList)) with ee|ee
 refine wp_cond_false (show Act.eval _ _= .bool false from(congrArg Value.bool (by rw[ee];rfl))) (wp_seq (sqr (sqp [.m 33 8,.k 34 (.pointer (some ⟨e7,2,none⟩))] ?_)))
 refine am 0 hH ?_
 refine sqp [.k 36 (.bool (decide (y_.1.right<0)))] ?_
 refine sqv (.bool (!(((i:Int)==((xs.length:Int)-1))==(decide (y_.1.right<0))))) hH (by
   exact sv0 rfl rfl rfl rfl rfl (fun _ _ _ h=>h) fun a b W X cx=>by
    have Ng:a (.tmp 33)= .bool ((i:Int)==((xs.length:Int)-1)):=(cx.ou 33)
    have Nh:a (.tmp 36)= .bool (decide (y_.1.right<0)):=(cx.ou 36)
    simp[go_sem,Ng,Nh]) fun Oh jN=>?_
 refine sqp [.m 21 37] ?_
 refine aa ?_
 rcases Bool.eq_false_or_eq_true (((i:Int)==((xs.length:Int)-1))==(decide (y_.1.right<0))) with jf|jf
 have Lr:=beq_iff_eq.1 jf
 refine wp_cond_false (show Act.eval _ _= .bool false from(congrArg Value.bool (by rw[jf];rfl))) (sqr ?_)
 refine dz 0 7 jN ?_
 refine sqp [.m 39 5] ?_
 refine sqk (.bool (srF y_.1.high lo y_.1.es)) jN (fun cx=>⟨_,AF _ _ _ _ _ _ _ _ _ y_.1.es lo _ (hRy.ext cx.upd.to_ext) rfl (by omega) hNz (by omega) (by omega),(aI (cx.ou 38) (cx.ou 39))⟩) fun JS eR=>?_
 refine sqp [.k 41 (.bool (!(srF y_.1.high lo y_.1.es))),.m 21 41] ?_
 refine aa ?_
 rcases Bool.eq_false_or_eq_true (srF y_.1.high lo y_.1.es) with kq|kq
 ·refine wp_cond_false (show Act.eval _ _= .bool false from(congrArg Value.bool (by rw[kq];rfl))) (wp_seq ?_)
  rcases hlv_:decide (0<y_.1.lv) with _|_
  rotate_left
  rcases hlq_:ldF (ys.map pgN) y_.1.es with _|_
  refine br [0,1,3,7,15,15,63,127,255,511,1023,2047,4095,8191,16383,32767,65535,4095,135167,397311,921599,2097151,4194303,8388607,16777215,33554431] [[],[0],[],[],[0]] [.k 43 (.pointer (some ⟨e7,1,none⟩)),.c 44 (vi y_.1.lv),.e 45 (.bool (decide (0<y_.1.lv))) (.bool true) (congrArg Value.bool hlv_),.k 46 (.bool true),.c 47 (.agg #[vi y_.2.1,vi y_.1.lv,vi y_.1.right,.string y_.1.high,.bool y_.1.dead,.slice y_.2.2.1 y_.1.es.length y_.2.2.2,vi ((y_.1.free:Int))]),.k 48 (.slice BA ys.length bc),.c 49 (.bool false),.k 50 (.bool true),.k 51 (.bool true),.u 52,.u 53,.u 54,.u 55,.u 56,.u 57,.u 58,.u 59,.u 60,.u 61,.u 62,.u 63,.u 64,.u 65,.k 66 (.bool true),.k 67 (.bool true),.k 42 (.bool true)] [0] [1,4,6] [(42,25,1,43),(0,0,25,25)] eR ?_ fun IX nw=>?_
  refine⟨?_,?_,?_,trivial⟩
  exact xs4 rfl id fun cx=>ae rfl (by kernel_rfl) (cx.an 0) ((cx.bi 0 rfl).cell 1)
  exact xs5 rfl id (fun cx=>(cx.an 3)) fun cx=>aV (n:=7) rfl (by kernel_rfl) (by kernel_rfl) (cx.ou 7) (cx.bi 0 rfl) (nle rfl) rfl
  exact rK rfl rfl rfl rfl rfl rfl (fun _ _ _ h=>h.trans (congrArg Value.bool hlq_)) (fun _ _ _ _ cx=>(cx.an 3)) fun a b W X cx=>⟨_,_,aB (args:=#[.agg #[vi y_.2.1,vi y_.1.lv,vi y_.1.right,.string y_.1.high,.bool y_.1.dead,.slice y_.2.2.1 y_.1.es.length y_.2.2.2,vi ((y_.1.free:Int))],.slice BA ys.length bc]) rfl cx.sees rfl (by kernel_rfl) (aI (cx.an 4) (cx.an 5)),wg _ _ _ _ _ _ _ _ _ y_.1.es BA bc ys _ (hRy.ext cx.upd.to_ext) rfl (by omega) (hB.ext cx.upd.to_ext) (by omega)⟩
  refine aa (wct rfl (wp_seq (sqr (sqp [.k 4 (.bool false)] ?_))))
  refine aa (wp_ret (aq (af (aq (af (af (aq (af ?_))))))))
  refine bpr (.bool false) (ai Tryz.results66 rpt) ?_
  exact Ret.bool (by rw[rgF,dP (i:=i) (by rw[List.length_map];omega) (by rw[gn hgd hlo];simp only[rgA,rgB,rgC,neB,bne,ci,pgN,fD,gU,ee,jf,kq,hlv_,hlq_,Bool.or_false,Bool.false_or,Bool.not_true,Bool.not_false,Bool.or_true,Bool.true_or,Bool.and_true,Bool.true_and,Bool.and_false,Bool.false_and]),Bool.false_and]) nw.ext
  ·have hlp_:=ra hlq_
   rw[List.length_map] at hlp_
   have hlp1_:=hlp_.1
   have hlp2_:=hlp_.2
   refine br [0,1,3,7,15,15,63,127,255,511,1023,2047,4095,8191,16383,32767,65535,4095,135167,397311,921599,2097151,4194303,8388607,16777215,33554431] [[],[0],[],[],[0],[],[],[],[],[],[],[],[],[0]] [.k 43 (.pointer (some ⟨e7,1,none⟩)),.c 44 (vi y_.1.lv),.e 45 (.bool (decide (0<y_.1.lv))) (.bool true) (congrArg Value.bool hlv_),.k 46 (.bool true),.c 47 (.agg #[vi y_.2.1,vi y_.1.lv,vi y_.1.right,.string y_.1.high,.bool y_.1.dead,.slice y_.2.2.1 y_.1.es.length y_.2.2.2,vi ((y_.1.free:Int))]),.k 48 (.slice BA ys.length bc),.c 49 (.bool true),.k 50 (.bool false),.k 51 (.bool false),.k 52 (vi ((i:Int))),.k 53 (.bool ((i:Int)==0)),.k 54 (.bool ((i:Int)==0)),.z 55 ((i:Int)==0) (.pointer (some ⟨e7,5,none⟩)),.y 56 ((i:Int)==0) (.slice y_.2.2.1 y_.1.es.length y_.2.2.2),.y 57 ((i:Int)==0) (.pointer (some ((ad y_.2.2.1).add (0*3)))),.y 58 ((i:Int)==0) (.pointer (some ((ad y_.2.2.1).add (0*3+2)))),.y 59 ((i:Int)==0) (vi ((y_.1.es.getD 0 en0).2.2)),.z 60 ((i:Int)==0) (.slice BA ys.length bc),.y 61 ((i:Int)==0) (.pointer (some ((ad BA).add (0*7)))),.y 62 ((i:Int)==0) (.pointer (some ((ad BA).add (0*7+0)))),.y 63 ((i:Int)==0) (vi ((ys.getD 0 yn0).2.1)),.z 64 ((i:Int)==0) (.bool (((y_.1.es.getD 0 en0).2.2) != ((ys.getD 0 yn0).2.1))),tA 65 ((i:Int)==0) (((y_.1.es.getD 0 en0).2.2) != ((ys.getD 0 yn0).2.1)),.k 66 (.bool (((i:Int)==0)&&(((y_.1.es.getD 0 en0).2.2) != ((ys.getD 0 yn0).2.1)))),.k 67 (.bool (((i:Int)==0)&&(((y_.1.es.getD 0 en0).2.2) != ((ys.getD 0 yn0).2.1)))),.k 42 (.bool (((i:Int)==0)&&(((y_.1.es.getD 0 en0).2.2) != ((ys.getD 0 yn0).2.1))))] [0] [1,4,6,13,14,15,16,18,19,20] [(42,25,1,43),(0,0,25,25)] eR ?_ fun Jf gH=>?_
   refine⟨?_,?_,?_,?_,?_,?_,?_,?_,?_,?_,trivial⟩
   exact xs4 rfl id fun cx=>ae rfl (by kernel_rfl) (cx.an 0) ((cx.bi 0 rfl).cell 1)
   exact xs5 rfl id (fun cx=>(cx.an 3)) fun cx=>aV (n:=7) rfl (by kernel_rfl) (by kernel_rfl) (cx.ou 7) (cx.bi 0 rfl) (nle rfl) rfl
   exact rK rfl rfl rfl rfl rfl rfl (fun _ _ _ h=>h.trans (congrArg Value.bool hlq_)) (fun _ _ _ _ cx=>(cx.an 3)) fun a b W X cx=>⟨_,_,aB (args:=#[.agg #[vi y_.2.1,vi y_.1.lv,vi y_.1.right,.string y_.1.high,.bool y_.1.dead,.slice y_.2.2.1 y_.1.es.length y_.2.2.2,vi ((y_.1.free:Int))],.slice BA ys.length bc]) rfl cx.sees rfl (by kernel_rfl) (aI (cx.an 4) (cx.an 5)),wg _ _ _ _ _ _ _ _ _ y_.1.es BA bc ys _ (hRy.ext cx.upd.to_ext) rfl (by omega) (hB.ext cx.upd.to_ext) (by omega)⟩
   exact m2 rfl (fun _ _ _ h=>h) (fun cx=>(cx.an 11)) fun cx hq=>ae rfl (by kernel_rfl) (mbv (cx.an 12) hq) ((cx.bi 0 rfl).cell 5)
   exact m2 rfl (fun _ _ _ h=>h) (fun cx=>(cx.an 11)) fun cx hq=>aH (e:=89) (m:=0) (sz:=3) rfl (by kernel_rfl) (by kernel_rfl) (mbv (cx.an 13) hq) (cx.co _) (by have hq_:=hq;simp only[zB] at hq_;omega) (by have hq_:=hq;simp only[zB] at hq_;omega) (hRy.ext cx.upd.to_ext) (bq (sz:=3) aQ (by decide) (by have hq_:=hq;simp only[zB] at hq_;omega))
   exact m2 rfl (fun _ _ _ h=>h) (fun cx=>(cx.an 11)) fun cx hq=>dZ rfl (by kernel_rfl) (mbv (cx.an 14) hq)
   exact m2 rfl (fun _ _ _ h=>h) (fun cx=>(cx.an 11)) fun cx hq=>ae rfl (by kernel_rfl) (mbv (cx.an 15) hq) (At.eltc (f:=enC) (k:=2) aQ (hRy.ext cx.upd.to_ext) (cR (by have hq_:=hq;simp only[zB] at hq_;omega)) rfl)
   exact m2 rfl (fun _ _ _ h=>h) (fun cx=>(cx.an 11)) fun cx hq=>aH (e:=84) (m:=0) (sz:=7) rfl (by kernel_rfl) (by kernel_rfl) (mbv (cx.an 17) hq) (cx.co _) (by have hq_:=hq;simp only[zB] at hq_;omega) (by have hq_:=hq;simp only[zB] at hq_;omega) (hB.ext cx.upd.to_ext) (bq (sz:=7) fL (by decide) (by have hq_:=hq;simp only[zB] at hq_;omega))
   exact m2 rfl (fun _ _ _ h=>h) (fun cx=>(cx.an 11)) fun cx hq=>dZ rfl (by kernel_rfl) (mbv (cx.an 18) hq)
   exact m2 rfl (fun _ _ _ h=>h) (fun cx=>(cx.an 11)) fun cx hq=>ae rfl (by kernel_rfl) (mbv (cx.an 19) hq) (At.eltc (f:=ynC) (k:=0) fL (hB.ext cx.upd.to_ext) (jY (by have hq_:=hq;simp only[zB] at hq_;omega)) rfl)
   refine aa (wbs (fun lm=>?_) fun lm=>?_)
   have p7:=lm
   simp only[zB] at p7
   obtain⟨O6,O7⟩:=p7
   refine wp_seq (sqr (sqp [.k 4 (.bool false)] ?_))
   refine aa (wp_ret (aq (af (aq (af (af (aq (af ?_))))))))
   refine bpr (.bool false) (ai Tryz.results66 rpt) ?_
   simp only[bne] at lm
   exact Ret.bool (by rw[rgF,dP (i:=i) (by rw[List.length_map];omega) (by rw[gn hgd hlo];simp only[rgA,rgB,rgC,neB,bne,ci,pgN,fD,gU,ee,jf,kq,hlv_,hlq_,lm,Bool.or_false,Bool.false_or,Bool.not_true,Bool.not_false,Bool.or_true,Bool.true_or,Bool.and_true,Bool.true_and,Bool.and_false,Bool.false_and]),Bool.false_and]) gH.ext
   have p7:=lm
   simp only[zB] at p7
   refine wp_seq (sqr (sqp [.m 69 5,.k 70 (.bool (!(lo.toList==((⟨#[]⟩:ByteArray)).toList))),.m 71 70] ?_))
   refine cv 71 [72,73,74] ?_ rfl (fun hq=>?_) ?_
   rotate_left
   refine sqp [.k 72 (.pointer (some ⟨e7,3,none⟩))] ?_
   refine am 0 gH ?_
   refine sqp [.k 74 (.bool (!(y_.1.high.toList==((⟨#[]⟩:ByteArray)).toList)))] ?_
   exact sqe
   refine bQ ?_
   refine sqp [sPa 75 (!(lo.toList==((⟨#[]⟩:ByteArray)).toList)) (!(y_.1.high.toList==((⟨#[]⟩:ByteArray)).toList)),.m 76 75] ?_
   refine ii 76 [77,78,79,80] ?_ gH rfl (fun hq=>?_) fun Rt Ap=>?_
   rotate_left
   have hq_:=hq
   try simp only[zB] at hq_
   refine sqp [.k 77 (.pointer (some ⟨e7,3,none⟩))] ?_
   refine am 0 gH ?_
   refine sqp [.m 79 5] ?_
   refine sqk (.bool (al y_.1.high lo)) gH (fun cx=>⟨_,gh y_.1.high lo _ (by omega) (by omega),(aI (cx.ou 78) (cx.ou 79))⟩) fun OE nF=>?_
   exact sqE nF
   refine bQ ?_
   refine sqp [sPa 81 ((!(lo.toList==((⟨#[]⟩:ByteArray)).toList))&&(!(y_.1.high.toList==((⟨#[]⟩:ByteArray)).toList))) (al y_.1.high lo),.m 68 81] ?_
   refine aa (wbs (fun kt=>?_) fun kt=>?_)
   have p8:=kt
   simp only[zB] at p8
   obtain⟨⟨O8,O9⟩,Pa⟩:=p8
   refine wp_seq (sqr (sqp [.k 4 (.bool false)] ?_))
   refine aa (wp_ret (aq (af (aq (af (af (aq (af ?_))))))))
   refine bpr (.bool false) (ai Tryz.results66 rpt) ?_
   simp only[bne] at lm
   exact Ret.bool (by rw[rgF,dP (i:=i) (by rw[List.length_map];omega) (by rw[gn hgd hlo];simp only[rgA,rgB,rgC,neB,bne,ci,pgN,fD,gU,ee,jf,kq,hlv_,hlq_,lm,kt,Bool.or_false,Bool.false_or,Bool.not_true,Bool.not_false,Bool.or_true,Bool.true_or,Bool.and_true,Bool.true_and,Bool.and_false,Bool.false_and]),Bool.false_and]) Ap.ext
   have p8:=kt
   simp only[zB] at p8
   refine wp_skip (ax (aa (sqr (sqp [.k 82 (.pointer (some ⟨e7,3,none⟩))] ?_))))
   refine am 0 Ap ?_
   refine sqp [.m 5 83] ?_
   refine ax (aa (sqr (sqp [sI 84 ((i:Int)+1) (by omega),.m 11 84] ?_)))
   refine aa ?_
   simp only[bne] at lm
   refine⟨xs.length-((i+1)),by omega,?_⟩
   exact⟨(i+1),y_.1.high,by omega,by rw[fP,if_neg (by omega),Nat.add_sub_cancel,hgd];rfl,kR hall (by rw[gn hgd hlo];simp only[rgA,rgB,rgC,neB,bne,ci,pgN,fD,gU,ee,jf,kq,hlv_,hlq_,lm,kt,Bool.or_false,Bool.false_or,Bool.not_true,Bool.not_false,Bool.or_true,Bool.true_or,Bool.and_true,Bool.true_and,Bool.and_false,Bool.false_and]),rfl,(by kernel_rfl),Ap.pk []⟩
  ·refine br [0,1,3,7,15,15,63,127,255,511,1023,2047,4095,8191,16383,32767,65535,4095,135167,397311,921599,2097151,4194303,8388607,16777215,33554431] [[],[0]] [.k 43 (.pointer (some ⟨e7,1,none⟩)),.c 44 (vi y_.1.lv),.e 45 (.bool (decide (0<y_.1.lv))) (.bool false) (congrArg Value.bool hlv_),.k 46 (.bool false),.u 47,.u 48,.u 49,.u 50,.u 51,.u 52,.u 53,.u 54,.u 55,.u 56,.u 57,.u 58,.u 59,.u 60,.u 61,.u 62,.u 63,.u 64,.u 65,.u 66,.k 67 (.bool false),.k 42 (.bool false)] [0] [1] [(42,25,1,43),(0,0,25,25)] eR ?_ fun y5 dv=>?_
   refine⟨?_,trivial⟩
   exact xs4 rfl id fun cx=>ae rfl (by kernel_rfl) (cx.an 0) ((cx.bi 0 rfl).cell 1)
   refine aa (wcf rfl (wp_seq (sqr (sqp [.m 69 5,.k 70 (.bool (!(lo.toList==((⟨#[]⟩:ByteArray)).toList))),.m 71 70] ?_))))
   refine cv 71 [72,73,74] ?_ rfl (fun hq=>?_) ?_
   rotate_left
   refine sqp [.k 72 (.pointer (some ⟨e7,3,none⟩))] ?_
   refine am 0 dv ?_
   refine sqp [.k 74 (.bool (!(y_.1.high.toList==((⟨#[]⟩:ByteArray)).toList)))] ?_
   exact sqe
   refine bQ ?_
   refine sqp [sPa 75 (!(lo.toList==((⟨#[]⟩:ByteArray)).toList)) (!(y_.1.high.toList==((⟨#[]⟩:ByteArray)).toList)),.m 76 75] ?_
   refine ii 76 [77,78,79,80] ?_ dv rfl (fun hq=>?_) fun OL pY=>?_
   rotate_left
   have hq_:=hq
   try simp only[zB] at hq_
   refine sqp [.k 77 (.pointer (some ⟨e7,3,none⟩))] ?_
   refine am 0 dv ?_
   refine sqp [.m 79 5] ?_
   refine sqk (.bool (al y_.1.high lo)) dv (fun cx=>⟨_,gh y_.1.high lo _ (by omega) (by omega),(aI (cx.ou 78) (cx.ou 79))⟩) fun Ru Ls=>?_
   exact sqE Ls
   refine bQ ?_
   refine sqp [sPa 81 ((!(lo.toList==((⟨#[]⟩:ByteArray)).toList))&&(!(y_.1.high.toList==((⟨#[]⟩:ByteArray)).toList))) (al y_.1.high lo),.m 68 81] ?_
   refine aa (wbs (fun xJ=>?_) fun xJ=>?_)
   have u6:=xJ
   simp only[zB] at u6
   obtain⟨⟨Pb,Pc⟩,Pd⟩:=u6
   refine wp_seq (sqr (sqp [.k 4 (.bool false)] ?_))
   refine aa (wp_ret (aq (af (aq (af (af (aq (af ?_))))))))
   refine bpr (.bool false) (ai Tryz.results66 rpt) ?_
   exact Ret.bool (by rw[rgF,dP (i:=i) (by rw[List.length_map];omega) (by rw[gn hgd hlo];simp only[rgA,rgB,rgC,neB,bne,ci,pgN,fD,gU,ee,jf,kq,hlv_,xJ,Bool.or_false,Bool.false_or,Bool.not_true,Bool.not_false,Bool.or_true,Bool.true_or,Bool.and_true,Bool.true_and,Bool.and_false,Bool.false_and]),Bool.false_and]) pY.ext
   have u6:=xJ
   simp only[zB] at u6
   refine wp_skip (ax (aa (sqr (sqp [.k 82 (.pointer (some ⟨e7,3,none⟩))] ?_))))
   refine am 0 pY ?_
   refine sqp [.m 5 83] ?_
   refine ax (aa (sqr (sqp [sI 84 ((i:Int)+1) (by omega),.m 11 84] ?_)))
   refine aa ?_
   refine⟨xs.length-((i+1)),by omega,?_⟩
   exact⟨(i+1),y_.1.high,by omega,by rw[fP,if_neg (by omega),Nat.add_sub_cancel,hgd];rfl,kR hall (by rw[gn hgd hlo];simp only[rgA,rgB,rgC,neB,bne,ci,pgN,fD,gU,ee,jf,kq,hlv_,xJ,Bool.or_false,Bool.false_or,Bool.not_true,Bool.not_false,Bool.or_true,Bool.true_or,Bool.and_true,Bool.true_and,Bool.and_false,Bool.false_and]),rfl,(by kernel_rfl),pY.pk []⟩
 refine wp_cond_true (show Act.eval _ _= .bool true from(congrArg Value.bool (by rw[kq];rfl))) (wp_seq (sqr (sqp [.k 4 (.bool false)] ?_)))
 refine aa (wp_ret (aq (af (aq (af (af (aq (af ?_))))))))
 refine bpr (.bool false) (ai Tryz.results66 rpt) ?_
 exact Ret.bool (by rw[rgF,dP (i:=i) (by rw[List.length_map];omega) (by rw[gn hgd hlo];simp only[rgA,rgB,rgC,neB,bne,ci,pgN,fD,gU,ee,jf,kq,Bool.or_false,Bool.false_or,Bool.not_true,Bool.not_false,Bool.or_true,Bool.true_or,Bool.and_true,Bool.true_and,Bool.and_false,Bool.false_and]),Bool.false_and]) eR.ext
 have Lr:=beq_eq_false_iff_ne.1 jf
 refine wp_cond_true (show Act.eval _ _= .bool true from(congrArg Value.bool (by rw[jf];rfl))) (wp_skip (aa (wp_cond_true (show Act.eval _ _= .bool true from(congrArg Value.bool (by rw[jf];rfl))) (wp_seq (sqr (sqp [.k 4 (.bool false)] ?_))))))
 refine aa (wp_ret (aq (af (aq (af (af (aq (af ?_))))))))
 refine bpr (.bool false) (ai Tryz.results66 rpt) ?_
 exact Ret.bool (by rw[rgF,dP (i:=i) (by rw[List.length_map];omega) (by rw[gn hgd hlo];simp only[rgA,rgB,rgC,neB,bne,ci,pgN,fD,gU,ee,jf,Bool.or_false,Bool.false_or,Bool.not_true,Bool.not_false,Bool.or_true,Bool.true_or,Bool.and_true,Bool.true_and,Bool.and_false,Bool.false_and]),Bool.false_and]) jN.ext
 refine wp_cond_true (show Act.eval _ _= .bool true from(congrArg Value.bool (by rw[ee];rfl))) (wp_skip (aa (wp_cond_true (show Act.eval _ _= .bool true from(congrArg Value.bool (by rw[ee];rfl))) (wp_seq (sqr (sqp [.k 4 (.bool false)] ?_))))))
 refine aa (wp_ret (aq (af (aq (af (af (aq (af ?_))))))))
 refine bpr (.bool false) (ai Tryz.results66 rpt) ?_
 exact Ret.bool (by rw[rgF,dP (i:=i) (by rw[List.length_map];omega) (by rw[gn hgd hlo];simp only[rgA,rgB,rgC,neB,bne,ci,pgN,fD,gU,ee,Bool.or_false,Bool.false_or,Bool.not_true,Bool.not_false,Bool.or_true,Bool.true_or,Bool.and_true,Bool.true_and,Bool.and_false,Bool.false_and]),Bool.false_and]) hH.ext
 refine wp_exit (aj (aj (aO (aa (wp_seq (sqr (sqp [.m 85 0,.k 86 (vi ((xs.length:Int))),.k 87 (.bool (decide (0<(xs.length:Int)))),.m 88 87] ?_)))))))
 refine sqw 88 [89,90,91] rfl (fun _=>sqp [.m 89 0,.k 90 (vi ((xs.length:Int))),.k 91 (.bool (decide ((xs.length:Int)<=400)))] sqe) ?_
 refine sqp [sPa 92 (decide (0<(xs.length:Int))) (decide ((xs.length:Int)<=400)),.m 4 92] ?_
 refine aa (wp_ret ?_)
 refine bpr (.bool ((decide (0<(xs.length:Int)))&&(decide ((xs.length:Int)<=400)))) (ai Tryz.results66 rpt) ?_
 exact Ret.bool (by rw[rgF,List.length_map,show xs.length=i by omega,hall,Bool.true_and]) cM.ext
end
section
open Go.RowKit
def cX(ps:List PgS)(root:Int):Nat->List (Int×NoD)
 |0=>[]
 |k+1=>bo ps root (k:Int)
def ckX(ps:List PgS)(root h:Int)(k:Nat):Bool:=(((k:Int)==h)&&(((bo ps root (k:Int)).length:Int) != 1))||(decide (0<(k:Int))&&(((cX ps root k).length:Int)==0))||!(rgF (bo ps root (k:Int)) (cX ps root k))
def d7(ps:List PgS)(root:Int):Int:=match av ps root with
 |none=>22
 |some n=>if ((List.range (n.lv+1).toNat).all fun k=>!ckX ps root n.lv k) then 0 else 11
theorem nV{ps:List PgS}{root lv:Int}:∀y∈bo ps root lv,av ps y.1=some y.2/\y.2.lv=lv:=fun y hy=>by
 unfold bo at hy
 split at hy
 cases hy
 exact BB y hy
theorem oC(ps:List PgS)(root:Int)(k:Nat):(cX ps root k).length<=1000:=by
 cases k with
 |zero=>exact Nat.zero_le _
 |succ k=>exact jz _ _ _
theorem BS{SA BA:Option Addr}{sc bc:Nat}{L Lb:List (Int×NoD)}{fp fq:List Nat}{w:World}(h:(eCL SA L fp).holds w)(hb:(eCL BA Lb fq).holds w)(hN:∀y∈L,NdOk y.2)(hl:L.length<=1000)(hlb:Lb.length<=1000):
  Calls Tryz.prog 66 #[.slice SA L.length sc,.slice BA Lb.length bc] w (Ret (.bool (rgF L Lb)) w):=by
 obtain⟨xs,rfl,_,h1,h2⟩:=h
 obtain⟨ys,rfl,_,h3,_⟩:=hb
 rw[List.length_map] at hl hlb |-
 rw[List.length_map]
 exact Du SA BA sc bc xs ys w h1 (fun y hy=>(h2 y hy).2) h3 (fun y hy=>hN (pgN y) (List.mem_map.2 ⟨y,hy,rfl⟩)) hl hlb
theorem St.cl0{w W:World}{bor:List Nat}{L:List Ent}(h:St w bor L W):St w bor (L++[eCL none [] []]) W:=by
 refine⟨h.upd,fun e he=>?_,List.pairwise_append.2 ⟨h.apart,List.pairwise_singleton _ _,fun a ha b hb k hk hkb=>?_⟩⟩
 rcases List.mem_append.1 he with he|he
 exact h.ok e he
 rw[List.mem_singleton] at he;subst he
 exact⟨⟨[],rfl,(fun ad e=>nomatch e),At.nil _ _,fun y hy=>absurd hy (by simp)⟩,yM _ _ _,fun k hk=>by simp[eCL] at hk⟩
 rw[List.mem_singleton] at hb;subst hb;simp[eCL] at hkb
theorem Kw{ps:List PgS}{root:Int}{n:NoD}(h:av ps root=some n){k:Nat}(hk:(k:Int)=n.lv+1)(ha:(List.range k).all (fun k=>!ckX ps root n.lv k)=true):(0:Int)=d7 ps root:=by
 rw[d7,h]
 dsimp only
 rw[show (n.lv+1).toNat=k by omega,if_pos ha]
theorem By{ps:List PgS}{root:Int}{n:NoD}(h:av ps root=some n){k:Nat}(hk:(k:Int)<n.lv+1)(ha:ckX ps root n.lv k=true):(11:Int)=d7 ps root:=by
 rw[d7,h]
 dsimp only
 rw[dP (i:=k) (by omega) (by rw[ha];rfl)];rfl
theorem yW{ps:List PgS}{root:Int}(h:av ps root=none):(22:Int)=d7 ps root:=by rw[d7,h]
theorem vH(tt:TypeId)(tv:Value)(root:Int)(ps:List PgS)(w:World)(hS:PgsOk w tt tv ps)(hok:OkS ps)(hoc:OkC ps):
  Calls Tryz.prog 26 #[.iface tt (tv),.int .i64 root] w (Ret (.int .i64 (d7 ps root)) w):=by
 go_enter Tryz.func26,Tryz.ntmps26
 have ar:=St.start w
 refine wp_seq (sqr (sqp [.k 4 (vi 0)] ?_))
 refine aa (wp_seq ?_)
 rcases hnd:av ps root with _|nd
 refine ak [0,0,3,7,15,15,0,95,255] [[],[],[],[],[],[],[],[0]] [[],[],[],[],[],[],[0],[1]] [[],[],[],[],[],[],[],[0]] [.k 11 (.iface tt (tv)),.k 12 (vi root),.a 13,.a 10,.a 14,.c 15 (.bool false),.a 5,.n,.k 6 (.bool false)] (fun ix d b X=>match ix with|0|1=>True|2=>d 13= .tuple #[.agg #[vi (iv (tg (tg (b 13) 0) 0)),vi 0,vi 0,.string ((⟨#[]⟩:ByteArray)),.bool false,.slice none 0 0,vi 0],.bool false]|3=>d 10= .tuple #[.agg #[vi (iv (tg (tg (b 13) 0) 0)),vi 0,vi 0,.string ((⟨#[]⟩:ByteArray)),.bool false,.slice none 0 0,vi 0],.bool false]|4=>d 14= .agg #[vi (iv (tg (tg (b 13) 0) 0)),vi 0,vi 0,.string ((⟨#[]⟩:ByteArray)),.bool false,.slice none 0 0,vi 0]|5=>True|6=>d 5=vp (pb (b 5))/\X 0=eB (pb (b 5)) 84 #[vi 0,vi 0,vi 0,.string ByteArray.empty,.bool false,.slice none 0 0,vi 0]|7=>X 1=eB (pb (b 5)) 84 #[vi (iv (tg (tg (b 13) 0) 0)),vi 0,vi 0,.string ((⟨#[]⟩:ByteArray)),.bool false,.slice none 0 0,vi 0]|_=>True) [1] [2,3,4,5,6,7] [(5,6,3,7),(3,3,1,4),(0,0,3,3),(0,4,2,2)] ar ?_ ?_ ?_
 exact fun ix _ _ _ _ _ _ hs hb hx h=>match ix,h with
 |2,h=>by dsimp only;rw[<-hs 13 rfl,<-hb 13 rfl];exact h
 |3,h=>by dsimp only;rw[<-hs 10 rfl,<-hb 13 rfl];exact h
 |4,h=>by dsimp only;rw[<-hs 14 rfl,<-hb 13 rfl];exact h
 |6,h=>by dsimp only;rw[<-hs 5 rfl,<-hb 5 rfl,<-hx 0 rfl];exact h
 |7,h=>by dsimp only;rw[<-hb 5 rfl,<-hb 13 rfl,<-hx 1 rfl];exact h
 |0,_|1,_|5,_|_+8,_=>trivial
 refine⟨?_,?_,?_,?_,?_,?_,trivial⟩
 refine svA fun f b W X cx=>?_
 refine aC.call (aB (args:=#[.iface tt (tv),vi root]) rfl cx.sees rfl (by kernel_rfl) (aI (cx.an 0) (cx.an 1))) ?_
 refine(uV hnd (js _ _ ps root _ (hS.ext cx.upd.to_ext) hok hoc)).mono ?_
 rintro e W1 ⟨p4,rfl,hx⟩
 refine⟨_,rfl,d3 [] rfl rfl hx (by simp) List.Pairwise.nil (fun d g X' hs hb hv hN=>?_)⟩
 have aW:=(hv 13 rfl).1;have aG:=(hv 13 rfl).2
 exact aW.trans (by rw[aG];rfl)
 exact sv rfl rfl rfl rfl rfl _ (fun _ _ _ h=>h) (fun b g h=>by rw[h 13 (by decide)]) fun f b W X cx=>cL rfl (dTn (cx.an 2))
 exact sv rfl rfl rfl rfl rfl _ (fun _ _ _ h=>h) (fun b g h=>by rw[h 13 (by decide)]) fun f b W X cx=>aU rfl (dTn (cx.an 3)) rfl
 exact xs4 rfl id fun cx=>aU rfl (dTn (cx.an 3)) rfl
 refine svA fun f b W X cx=>?_
 exact aX (cs:=#[vi 0,vi 0,vi 0,.string ByteArray.empty,.bool false,.slice none 0 0,vi 0]) rfl (by kernel_rfl) rfl rfl (fun _ _ _ _ _=> .intro)
 refine svA fun f b W X cx=>?_
 exact aw (n:=7) rfl (dTn (cx.an 6)).1 (dTn (cx.an 4)) (by kernel_rfl) (by kernel_rfl) (by kernel_rfl) cx (dTn (cx.an 6)).2 rfl (nle rfl) (by kernel_rfl) rfl rfl rfl (fun d g X' hs hb hx=>by rw[hb 5,hb 13];exact hx)
 intro d b X W2 hD aN fr ag
 simp only[exq 1 ((dTn (hD 7 lq)))] at aN
 simp only[ed 13 ((dTn (hD 2 lq))),ed 10 ((dTn (hD 3 lq))),ed 14 ((dTn (hD 4 lq))),ed 5 ((dTn (hD 6 lq)).1)] at ag
 generalize iv (tg (tg (b 13) 0) 0)=pg13_2,pb (b 5)=eX at aN ag
 clear hD;subst ag;clear d b X
 refine aa (wp_seq (wp_seq (sqr (sqp [.k 16 (.bool false),.k 17 (.bool true)] ?_))))
 refine aa (wct rfl (wp_seq (sqr (sqp [.k 4 (vi 22)] ?_))))
 refine aa (wp_ret (af ?_))
 refine bpr (vi 22) (ai Tryz.results26 rpt) ?_
 exact Ret.of (by rw[<-yW hnd]) aN.ext
 have hN0:=cO hok hnd
 have hN4:=hN0.lv
 refine sqr (sqp [.m 11 0,.m 12 1] ?_)
 refine ff (fun EA13_8 ec13_8=> .tuple #[.agg #[vi root,vi nd.lv,vi nd.right,.string nd.high,.bool nd.dead,.slice EA13_8 nd.es.length ec13_8,vi ((nd.free:Int))],.bool true]) (fun EA13_8 ec13_8=>eO 89 3 (.slice EA13_8 nd.es.length ec13_8) nd.es.length (nd.es.flatMap enC)) ar (fun cx=>⟨_,(rY hnd (js _ _ ps root _ (hS.ext cx.upd.to_ext) hok hoc)).mono (by rintro e W1 ⟨EA4,ec4,rfl,aM⟩;exact⟨_,_,rfl,aM⟩),(aI (cx.ou 11) (cx.ou 12))⟩) fun EA13_8 ec13_8 W8 bj=>?_
 refine sqp [.m 10 13,.k 14 (.agg #[vi root,vi nd.lv,vi nd.right,.string nd.high,.bool nd.dead,.slice EA13_8 nd.es.length ec13_8,vi ((nd.free:Int))]),.k 15 (.bool true)] ?_
 refine bF #[vi 0,vi 0,vi 0,.string ByteArray.empty,.bool false,.slice none 0 0,vi 0] bj fun el mH bU=>?_
 refine aD (n:=7) 1 #[vi root,vi nd.lv,vi nd.right,.string nd.high,.bool nd.dead,.slice EA13_8 nd.es.length ec13_8,vi ((nd.free:Int))] bU fun lk bH=>?_
 refine sqp [.k 6 (.bool true)] ?_
 refine aa (wp_seq (wp_seq (sqr (sqp [.k 16 (.bool true),.k 17 (.bool false)] ?_))))
 refine aa (wcf rfl (wp_skip (aa (wp_seq (sqr (sqp [.k 7 (.slice none 0 0)] ?_))))))
 refine aa (wp_seq (wp_seq (sqr (sqp [.k 18 (.pointer (some ⟨el,1,none⟩))] ?_))))
 refine am 1 bH ?_
 refine sqp [sI 20 (nd.lv+1) (by omega),.k 21 (vi 0)] ?_
 refine aa (wp_block ?_)
 have hcl_:=bH.cl0
 simp only[List.cons_append,List.nil_append] at hcl_
 refine aL (fun t_ mz az W=>∃k:Nat,∃BA:Option Addr,∃bc:Nat,∃fb:List Nat,(k:Int)<=nd.lv+1/\(List.range k).all (fun k=>!ckX ps root nd.lv k)=true/\mz=(nd.lv+1).toNat-k/\az=⟨(ovr (jv az) [(4,4,1,[]),(2,7,0,[.slice BA ((cX ps root k).length) bc]),(0,8,2,[]),(11,21,0,[vi ((k:Int))]),(0,22,33,[])] t_).toArray,[]⟩/\St w [] [eB el 84 #[vi root,vi nd.lv,vi nd.right,.string nd.high,.bool nd.dead,.slice EA13_8 nd.es.length ec13_8,vi ((nd.free:Int))],eCL BA (cX ps root k) fb] W) ((nd.lv+1).toNat-0) ?_ ?_
 exact⟨0,none,0,[],by omega,rfl,rfl,(by kernel_rfl),hcl_.pk [1,2]⟩
 rintro Rv a22 Fl ⟨k,BA,bc,fb,hk,hall,rfl,hj_,fX⟩
 refine ovz hj_ fun QV=>?_
 have hbl_:=oC ps root k
 have hrl_:=jz ps root (k:Int)
 refine wp_seq (sqr (sqp [.k 22 (.bool (decide ((k:Int)<nd.lv+1)))] ?_))
 refine aa (wp_seq (wds (fun fD sG=>?_) fun fD sG=>?_))
 ·refine wp_skip (aa (wp_seq (wp_block (wp_seq (sqr (sqp [.m 23 21,.m 8 23] ?_))))))
  refine aa (wp_seq (ak [0,0,0,7,15,31] [[],[],[],[],[2,3,4]] [[],[],[],[2,3,4],[5]] [] [.k 24 (.iface tt (tv)),.k 25 (vi root),.k 26 (vi ((k:Int))),.a 27,.a 28,.a 9] (fun ix d b X=>match ix with|0|1|2=>True|3=>d 27= .func (.func 101) #[] #[vp (pcp 0 (b 27)),vp (pcp 1 (b 27)),vp (pcp 2 (b 27))]/\X 2=eB (pcp 0 (b 27)) 78 #[.iface tt (tv)]/\X 3=eB (pcp 1 (b 27)) 3 #[vi root]/\X 4=eB (pcp 2 (b 27)) 3 #[vi ((k:Int))]|4=>d 28= .slice (sA (b 28)) (((bo ps root (k:Int))).length) (sC (b 28))/\X 5=eCL (sA (b 28)) (bo ps root (k:Int)) ((X 5).fp)|5=>d 9= .slice (sA (b 28)) (((bo ps root (k:Int))).length) (sC (b 28))|_=>True) [0,1,2,3,4,5] [3,4,5] [(9,5,1,10),(14,0,5,19)] fX ?_ ?_ ?_))
  exact fun ix _ _ _ _ _ _ hs hb hx h=>match ix,h with
  |3,h=>by dsimp only;rw[<-hs 27 rfl,<-hb 27 rfl,<-hx 2 rfl,<-hx 3 rfl,<-hx 4 rfl];exact h
  |4,h=>by dsimp only;rw[<-hs 28 rfl,<-hb 28 rfl,<-hx 5 rfl];exact h
  |5,h=>by dsimp only;rw[<-hs 9 rfl,<-hb 28 rfl];exact h
  |0,_|1,_|2,_|_+6,_=>trivial
  refine⟨?_,?_,?_,trivial⟩
  refine svA fun f b W X cx=>?_
  refine aC.call (aB (args:=#[.iface tt (tv),vi root,vi ((k:Int))]) rfl cx.sees rfl (by kernel_rfl) (dH (cx.an 0) (cx.an 1) (cx.an 2))) ?_
  refine(j2 tt tv root (k:Int) _).mono ?_
  rintro e W1 ⟨B4,B5,B6,rfl,aM⟩
  refine⟨_,rfl,cl [eB B4 78 #[.iface tt (tv)],eB B5 3 #[vi root],eB B6 3 #[vi ((k:Int))]] rfl rfl aM (fun d g X' hs hb hv hN=>?_)⟩
  have aW:=(hv 27 rfl).1;have aG:=(hv 27 rfl).2
  exact⟨aW.trans (by rw[aG];rfl),(by rw[aG];exact(List.cons.inj hN).1),(by rw[aG];exact(List.cons.inj (List.cons.inj hN).2).1),(by rw[aG];exact(List.cons.inj (List.cons.inj (List.cons.inj hN).2).2).1)⟩
  refine svA fun f b W X cx=>?_
  refine aC.call (aB (args:=#[.func (.func 101) #[] #[vp (pcp 0 (b 27)),vp (pcp 1 (b 27)),vp (pcp 2 (b 27))]]) rfl cx.sees rfl (by kernel_rfl) (bp (dTn (cx.an 3)).1)) ?_
  refine(BF _ _ _ (bo ps root (k:Int)) _ _ _ (j6 _ _ _ _ _ _ _ hok hoc) (fun A hA=>⟨Blk.ext (cx.blk (dTn (cx.an 3)).2.1 rfl) hA,Blk.ext (cx.blk (dTn (cx.an 3)).2.2.1 rfl) hA,Blk.ext (cx.blk (dTn (cx.an 3)).2.2.2 rfl) hA,(hS.ext cx.upd.to_ext).ext hA⟩)).mono ?_
  rintro e W1 ⟨A4,c4,fp4,rfl,aM⟩
  refine⟨_,rfl,cl [eCL A4 ((bo ps root (k:Int))) fp4] rfl rfl aM (fun d g X' hs hb hv hN=>?_)⟩
  have aW:=(hv 28 rfl).1;have aG:=(hv 28 rfl).2
  exact⟨aW.trans (by rw[aG];rfl),(by rw[aG];exact v6 ((List.cons.inj hN).1))⟩
  exact sv rfl rfl rfl rfl rfl _ (fun _ _ _ h=>h) (fun b g h=>by rw[h 28 (by decide)]) fun f b W X cx=>bt rfl (dTn (cx.an 4)).1
  intro d b X y6 hD cd fr ag
  obtain⟨B27a_27,nH⟩:∃z,pcp 0 (b 27)=z:=⟨_,rfl⟩
  obtain⟨B27b_27,nI⟩:∃z,pcp 1 (b 27)=z:=⟨_,rfl⟩
  obtain⟨B27c_27,nJ⟩:∃z,pcp 2 (b 27)=z:=⟨_,rfl⟩
  obtain⟨JZ,o8⟩:∃z,sA (b 28)=z:=⟨_,rfl⟩
  obtain⟨J0,o9⟩:∃z,sC (b 28)=z:=⟨_,rfl⟩
  have J1:X 5= _:=(dTn (hD 4 lq)).2
  obtain⟨Lu,xK⟩:∃z,(X 5).fp=z:=⟨_,rfl⟩
  rw[xK] at J1
  clear xK
  simp only[exq 2 ((dTn (hD 3 lq)).2.1),exq 3 ((dTn (hD 3 lq)).2.2.1),exq 4 ((dTn (hD 3 lq)).2.2.2),J1,nH,nI,nJ,o8,o9] at cd
  simp only[ed 27 ((dTn (hD 3 lq)).1),ed 28 ((dTn (hD 4 lq)).1),ed 9 ((dTn (hD 5 lq))),nH,nI,nJ,o8,o9] at ag
  clear hD J1 nH nI nJ o8 o9;subst ag;clear d b X
  refine aa (wp_seq (wp_seq (sqr (sqp [.m 29 8,.k 30 (.pointer (some ⟨el,1,none⟩))] ?_))))
  refine am 0 cd ?_
  refine sqp [.k 32 (.bool ((k:Int)==nd.lv)),.m 33 32] ?_
  refine sqw 33 [34,35,36] rfl (fun _=>sqp [.m 34 9,.k 35 (vi ((((bo ps root (k:Int))).length:Int))),.k 36 (.bool ((((bo ps root (k:Int))).length:Int) != 1))] sqe) ?_
  refine sqp [sPa 37 ((k:Int)==nd.lv) ((((bo ps root (k:Int))).length:Int) != 1),.m 38 37] ?_
  refine cv 38 [39,40,41,42,43,44,45] ?_ rfl (fun hq=>?_) ?_
  rotate_left
  refine sqp [.m 39 8,.k 40 (.bool (decide (0<(k:Int)))),.m 41 40] ?_
  refine sqw 41 [42,43,44] rfl (fun _=>sqp [.m 42 7,.k 43 (vi (((cX ps root k).length:Int))),.k 44 (.bool (((cX ps root k).length:Int)==0))] sqe) ?_
  refine sqp [sPa 45 (decide (0<(k:Int))) (((cX ps root k).length:Int)==0)] ?_
  exact sqe
  refine bQ ?_
  refine sqp [sPo 46 (((k:Int)==nd.lv)&&((((bo ps root (k:Int))).length:Int) != 1)) ((decide (0<(k:Int)))&&(((cX ps root k).length:Int)==0)),.m 47 46] ?_
  refine ii 47 [48,49,50,51] ?_ cd rfl (fun hq=>?_) fun L1 p6=>?_
  rotate_left
  refine sqp [.m 48 9,.m 49 7] ?_
  refine sqk (.bool (rgF (bo ps root (k:Int)) (cX ps root k))) cd (fun cx=>⟨_,BS (CtxV.holdF cx (cx.init 5 _ rfl) rfl) (CtxV.holdF cx (cx.init 1 _ rfl) rfl) (fun y hy=>cO hok (nV y hy).1) (jz _ _ _) (oC _ _ _),(aI (cx.ou 48) (cx.ou 49))⟩) fun JS eR=>?_
  refine sqp [.k 51 (.bool (!(rgF (bo ps root (k:Int)) (cX ps root k))))] ?_
  exact sqE eR
  refine bQ ?_
  refine sqp [sPo 52 ((((k:Int)==nd.lv)&&((((bo ps root (k:Int))).length:Int) != 1))||((decide (0<(k:Int)))&&(((cX ps root k).length:Int)==0))) (!(rgF (bo ps root (k:Int)) (cX ps root k)))] ?_
  refine aa (wbs (fun ea=>?_) fun ea=>?_)
  have kH:=ea
  simp only[zB] at kH
  refine wp_seq (sqr (sqp [.k 4 (vi 11)] ?_))
  refine aa (wp_ret (af (aq (af (af (aq (af ?_)))))))
  refine bpr (vi 11) (ai Tryz.results26 rpt) ?_
  exact Ret.of (by rw[<-By hnd (k:=k) (by omega) ea]) p6.ext
  have kH:=ea
  simp only[zB] at kH
  obtain⟨⟨J2,J3⟩,J4⟩:=kH
  refine wp_skip (aa (sqr (sqp [.m 53 9,.m 7 53] ?_)))
  refine ax (aa (sqr (sqp [sI 54 ((k:Int)+1) (by omega),.m 21 54] ?_)))
  refine aa ?_
  refine⟨(nd.lv+1).toNat-((k+1)),by omega,?_⟩
  exact⟨(k+1),JZ,J0,Lu,by omega,kR hall (by rw[show ckX ps root nd.lv k=false from ea];rfl),rfl,(by kernel_rfl),p6.pk [0,5]⟩
 refine wp_exit (aj (aj (aO (aa (wp_seq (sqr (sqp [.k 4 (vi 0)] ?_)))))))
 refine aa (wp_ret ?_)
 refine bpr (vi 0) (ai Tryz.results26 rpt) ?_
 exact Ret.of (by rw[<-Kw hnd (k:=k) (by omega) hall]) fX.ext
end
end Go.Proofs.YtjlcoglmjldjbaaGreat
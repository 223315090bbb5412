/- StoreRefusesRow: part 6 of the proof. -/
import Derived.Test.YtcdjaepgahbhfaaGreatZ5
import Derived.Test.YtcdjaepgahbhfaaGreatRows
import Derived.ProofKit
import Derived.OpenShut
import Derived.Below
import Derived.ChangeSame
import Derived.WideKeyArgs
import Derived.SliceStrings
import Derived.ChangeMaps5
import Derived.Lib.SmallJoins
set_option linter.unusedVariables false
set_option linter.unusedSimpArgs false
set_option maxRecDepth 100000
set_option maxHeartbeats 16000000
namespace Go.Proofs.YtcdjaepgahbhfaaGreat
section
open Go.RowKit Go.Maps Go.ChangeMaps
/-- the boxes of the pages' numbers -/
def entN (x:Int×Nat):Ent:=eB x.2 3 #[.int .i64 x.1]
theorem nb_blk {l:List (Int×Nat)} {W:World} (h:(eA (l.map entN)).holds W) {x:Int×Nat} (hx:x∈l):Blk W x.2 3 #[.int .i64 x.1]:=(h.1 (entN x) (List.mem_map.2 ⟨x,hx,rfl⟩)).1
theorem St.addN {w0 W:World} {bor:List Nat} {L:List Ent} {l:List (Int×Nat)} {x:Int×Nat} (h:St w0 bor (L++[eA (l.map entN),entN x]) W):St w0 bor (L++[eA ((x::l).map entN)]) W:=by
 rw [List.map_cons]
 exact St.inA (A:=[]) h
theorem St.anf {w0 W:World} {bor:List Nat} {L:List Ent} {l:List (Int×Nat)} {x:Int×Nat} (h:St w0 bor (eA (List.map entN l)::entN x::L) W):St w0 bor (eA (List.map entN (x::l))::L) W:=St.fr (R:=[_, _]) h St.addN
/-- a step of Check as a function value -/
def clV (q:Nat) (x:Int×Nat):Value:= .func (.func 71) #[] #[.pointer (some ⟨q,0,none⟩), .pointer (some ⟨x.2,0,none⟩)]
inductive ClA:StM→List Int→StM→Int→Prop where
 | nil (S:StM):ClA S [] S 0
 | bad {S:StM} {t:BfT} {l:List Int} (ht:t∈S.pool) (he:(cleanF S t).2≠0):ClA S (t.n::l) (cleanF S t).1 (cleanF S t).2
 | cons {S S2:StM} {t:BfT} {l:List Int} {er:Int} (ht:t∈S.pool) (he:(cleanF S t).2=0) (hr:ClA (cleanF S t).1 l S2 er):ClA S (t.n::l) S2 er
def setD (S:StM) (D:DkM):StM:={S with D:=D}
/-- behind the last step -/
def ckE (S:StM):StM:={S with frm:=(S.recs.length:Int),ni:=0,im:=fun _=>none}
inductive CkQ (S:StM) (note:ByteArray):StM→Int→Prop where
 | arg (h:60000 < note.size):CkQ S note S 1
 | full {q:List RcT} (h:note.size≤60000) (hf:1048576 < S.D.log.size+(frameR (chkR note)).size):CkQ S note {S with rr:=q} 31
 | cl {q:List RcT} {ns:List Int} {S1:StM} {er:Int} (h:note.size≤60000) (hf:S.D.log.size+(frameR (chkR note)).size≤1048576) (hns:∀ n,n∈ns↔∃ t∈S.pool,t.n=n) (hc:ClA {S with rr:=q} ns S1 er) (he:er≠0):CkQ S note S1 er
 | sync {q:List RcT} {ns:List Int} {S1:StM} (h:note.size≤60000) (hf:S.D.log.size+(frameR (chkR note)).size≤1048576) (hns:∀ n,n∈ns↔∃ t∈S.pool,t.n=n) (hc:ClA {S with rr:=q} ns S1 0) (he:(opD S1.D 0 syD).2≠0):CkQ S note (setD S1 (opD S1.D 0 syD).1) (opD S1.D 0 syD).2
 | app {q:List RcT} {ns:List Int} {S1:StM} (h:note.size≤60000) (hf:S.D.log.size+(frameR (chkR note)).size≤1048576) (hns:∀ n,n∈ns↔∃ t∈S.pool,t.n=n) (hc:ClA {S with rr:=q} ns S1 0) (h1:(opD S1.D 0 syD).2=0)
   (he:(appF (setD S1 (opD S1.D 0 syD).1) (rcI (chkR note))).2≠0):CkQ S note (appF (setD S1 (opD S1.D 0 syD).1) (rcI (chkR note))).1 (appF (setD S1 (opD S1.D 0 syD).1) (rcI (chkR note))).2
 | flush {q:List RcT} {ns:List Int} {S1 S2:StM} (h:note.size≤60000) (hf:S.D.log.size+(frameR (chkR note)).size≤1048576) (hns:∀ n,n∈ns↔∃ t∈S.pool,t.n=n) (hc:ClA {S with rr:=q} ns S1 0) (h1:(opD S1.D 0 syD).2=0)
   (h2:appF (setD S1 (opD S1.D 0 syD).1) (rcI (chkR note))=(S2,0)) (he:(opD S2.D 0 flD).2≠0):CkQ S note (setD S2 (opD S2.D 0 flD).1) (opD S2.D 0 flD).2
 | ok {q:List RcT} {ns:List Int} {S1 S2:StM} (h:note.size≤60000) (hf:S.D.log.size+(frameR (chkR note)).size≤1048576) (hns:∀ n,n∈ns↔∃ t∈S.pool,t.n=n) (hc:ClA {S with rr:=q} ns S1 0) (h1:(opD S1.D 0 syD).2=0)
   (h2:appF (setD S1 (opD S1.D 0 syD).1) (rcI (chkR note))=(S2,0)) (he:(opD S2.D 0 flD).2=0):CkQ S note (ckE (setD S2 (opD S2.D 0 flD).1)) 0
theorem scheck1_any (q2 q5 sb db:Nat) (S:StM) (rt:RcT) (c:Nat) (fp:List Nat) (w:World) (hB:(eSt sb db S fp).holds w) (hlt:∀ k∈fp,k < w.heap.size) (h2:Blk w q2 31 #[.pointer (some ⟨sb,0,none⟩)]) (n2:q2∉fp) (n5:q5∉fp) (h5:Blk w q5 27 #[.int .i64 rt.r.kind, .int .i64 rt.r.xid, .int .i64 rt.r.tbl, .slice none 0 0, .slice none 0 0, .slice rt.A rt.r.eds.length rt.c, .slice none 0 0, .string rt.r.note]) (hok:SOk S c) (hr:recR rt.r=true) (hrt:rt∈S.rr):
  Calls Tryz.prog 70 #[.pointer (some ⟨q2,0,none⟩), .pointer (some ⟨q5,0,none⟩)] w (StPost sb db (appF S rt) fp w):=by
 have st1:St w fp [eSt sb db S fp] w:=St.lend hB (eSt_loc _ _ _ _) hlt
 go_enter Tryz.func70,Tryz.ntmps70
 have hst0:=st1
 refine wp_seq (sqr (sqp [.k 2 (vi 0)] ?_))
 refine then_normal (wp_seq (sqr ?_))
 refine sql (vp sb) hst0 (fun cx=>run_load1 rfl (by kernel_rfl) (cx.ou 0) (Blk.cell (h2.upd cx.upd n2) 0)) ?_
 refine sql (.agg #[vi rt.r.kind,vi rt.r.xid,vi rt.r.tbl, .slice none 0 0, .slice none 0 0, .slice rt.A rt.r.eds.length rt.c, .slice none 0 0, .string rt.r.note]) hst0 (fun cx=>run_loadB (n:=8) rfl (by kernel_rfl) (by kernel_rfl) (cx.ou 1) (h5.upd cx.upd n5) (nle rfl) rfl) ?_
 refine sqc0s (fun X_=>X_.fp) (vi ((appF S rt).2)) (fun r1_4=>eSt sb db ((appF S rt).1) r1_4) 0 hst0 (by
   refine svA fun ρ β W X cx=>?_
   refine DoesU.call (run_callF (args:=#[vp sb, .agg #[vi rt.r.kind,vi rt.r.xid,vi rt.r.tbl, .slice none 0 0, .slice none 0 0, .slice rt.A rt.r.eds.length rt.c, .slice none 0 0, .string rt.r.note]]) rfl cx.sees rfl (by kernel_rfl) (map2 (cx.ou 3) (cx.ou 4))) ?_
   refine (sappend_any sb db S rt c _ _ (CtxV.holdF cx (cx.init 0 _ rfl) rfl) (CtxV.ltF cx (cx.init 0 _ rfl) rfl) hok hr hrt).mono ?_
   rintro e W1 ⟨rfl,fp4,hs4⟩
   refine ⟨_,rfl,post_obj (E:=eSt sb db S fp) [eSt sb db (appF S rt).1 fp4] (cx.init 0 _ rfl) rfl rfl hs4 (fun σ β' X' hs hb hv hN=>?_)⟩
   have hv1:=(hv 5 rfl).1; have hv2:=(hv 5 rfl).2
   exact ⟨hv1.trans rfl,eSt_self ((List.cons.inj hN).1)⟩) fun r1_4 W4 hst4=>?_
 refine sqp [.m 2 5] ?_
 refine then_normal (wp_ret ?_)
 refine bpr (vi ((appF S rt).2)) (results_1 Tryz.results70 rpt) ?_
 exact StPost.of (R':=(appF S rt)) rfl (hst4.pick [0] (by decide) rfl)
theorem scheck2_any (q2 q7 sb db:Nat) (S:StM) (A B:List BfT) (t:BfT) (c:Nat) (fp:List Nat) (w:World) (hB:(eSt sb db S fp).holds w) (hlt:∀ k∈fp,k < w.heap.size) (h2:Blk w q2 31 #[.pointer (some ⟨sb,0,none⟩)]) (n2:q2∉fp) (n7:q7∉fp) (h7:Blk w q7 3 #[.int .i64 t.n]) (hok:SOk S c) (hc:c≤900000000) (hAB:S.pool=A++t::B):
  Calls Tryz.prog 71 #[.pointer (some ⟨q2,0,none⟩), .pointer (some ⟨q7,0,none⟩)] w (StPost sb db (cleanF S t) fp w):=by
 have st1:St w fp [eSt sb db S fp] w:=St.lend hB (eSt_loc _ _ _ _) hlt
 go_enter Tryz.func71,Tryz.ntmps71
 have hst0:=st1
 refine wp_seq (sqr (sqp [.k 2 (vi 0)] ?_))
 refine then_normal (wp_seq (sqr ?_))
 refine sql (vp sb) hst0 (fun cx=>run_load1 rfl (by kernel_rfl) (cx.ou 0) (Blk.cell (h2.upd cx.upd n2) 0)) ?_
 refine sql (vi t.n) hst0 (fun cx=>run_load1 rfl (by kernel_rfl) (cx.ou 1) (Blk.cell (h7.upd cx.upd n7) 0)) ?_
 refine sqc0s (fun X_=>X_.fp) (vi ((cleanF S t).2)) (fun r1_4=>eSt sb db ((cleanF S t).1) r1_4) 0 hst0 (by
   refine svA fun ρ β W X cx=>?_
   refine DoesU.call (run_callF (args:=#[vp sb,vi t.n]) rfl cx.sees rfl (by kernel_rfl) (map2 (cx.ou 3) (cx.ou 4))) ?_
   refine (sclean_any sb db S A B t c _ _ (CtxV.holdF cx (cx.init 0 _ rfl) rfl) (CtxV.ltF cx (cx.init 0 _ rfl) rfl) hok hc hAB).mono ?_
   rintro e W1 ⟨rfl,fp4,hs4⟩
   refine ⟨_,rfl,post_obj (E:=eSt sb db S fp) [eSt sb db (cleanF S t).1 fp4] (cx.init 0 _ rfl) rfl rfl hs4 (fun σ β' X' hs hb hv hN=>?_)⟩
   have hv1:=(hv 5 rfl).1; have hv2:=(hv 5 rfl).2
   exact ⟨hv1.trans rfl,eSt_self ((List.cons.inj hN).1)⟩) fun r1_4 W4 hst4=>?_
 refine sqp [.m 2 5] ?_
 refine then_normal (wp_ret ?_)
 refine bpr (vi ((cleanF S t).2)) (results_1 Tryz.results71 rpt) ?_
 exact StPost.of (R':=(cleanF S t)) rfl (hst4.pick [0] (by decide) rfl)
end
section
open Go.RowKit Go.Maps Go.ChangeMaps
theorem CtxV.apF {ops:Array Oper} {L:List Nat} {a0:Act} {w0:World} {bor:List Nat} {X0:List Ent} {us:List (List Nat)} {D:Nat→(Tmp→Value)→(Tmp→Value)→(Nat→Ent)→Prop} {i:Nat} {ρ:Operand→Value} {β:Tmp→Value} {W:World} {X:Nat→Ent} {q q' k:Nat} {E F:Ent} (cx:CtxV ops L a0 w0 bor X0 us D i ρ β W X) (hX:X q=E) (hX':X q'=F) (hk:k∈E.fp) (hu:(atV us i).contains q=true) (hu':(atV us i).contains q'=true) (hne:q≠q'):k∉F.fp:=by
 subst hX hX'
 exact cx.ap q q' hu hu' hne k hk
theorem eB_fp (b:Nat) (t:TypeId) (c:Array Value):b∈(eB b t c).fp:=List.mem_singleton.2 rfl
theorem nb_fp {l:List (Int×Nat)} {x:Int×Nat} (h:x∈l):x.2∈(eA (l.map entN)).fp:=List.mem_flatMap.2 ⟨entN x,List.mem_map.2 ⟨x,h,rfl⟩,eB_fp _ _ _⟩
def ckT (q2 q5 db:Nat):List Value:=[.func (.func 69) #[.pointer (some ⟨db,0,none⟩)] #[], .func (.func 70) #[] #[.pointer (some ⟨q2,0,none⟩), .pointer (some ⟨q5,0,none⟩)], .func (.func 63) #[.pointer (some ⟨db,0,none⟩)] #[]]
def stpL (q2 q5 db:Nat) (bs:List (Int×Nat)):List Value:=bs.map (clV q2)++ckT q2 q5 db
theorem stp_len (q2 q5 db:Nat) (bs:List (Int×Nat)):(stpL q2 q5 db bs).length=bs.length+3:=by simp [stpL,ckT]
theorem stp_one (q2 q5 db:Nat) (bs:List (Int×Nat)):∀ u∈stpL q2 q5 db bs,u.oneCell'=true:=fun u hu=>by
 rcases List.mem_append.1 hu with h | h
 ·obtain ⟨x, _,rfl⟩:=List.mem_map.1 h; rfl
 ·simp only [ckT,List.mem_cons,List.not_mem_nil,or_false] at h
  rcases h with rfl | rfl | rfl<;>rfl
theorem stp_cl {q2 q5 db:Nat} {bs:List (Int×Nat)} {i:Nat} {x:Int×Nat} (h:bs[i]? =some x):(stpL q2 q5 db bs)[i]? =some (clV q2 x):=by
 obtain ⟨hi,rfl⟩:=List.getElem?_eq_some_iff.1 h
 rw [stpL,List.getElem?_append_left (by simpa using hi),List.getElem?_map,List.getElem?_eq_getElem hi]; rfl
theorem stp_t {q2 q5 db:Nat} {bs:List (Int×Nat)} {i j:Nat} (h:i=bs.length+j):(stpL q2 q5 db bs)[i]? =(ckT q2 q5 db)[j]? :=by
 subst h
 rw [stpL,List.getElem?_append_right (by simp)]; simp
theorem atM_hit {l A B:List BfT} {t:BfT} {n:Int} (hd:(l.map BfT.n).Nodup) (h:l=A++t::B) (hn:t.n=n):atM l n=some (some t.blk):=by
 subst h hn; exact atM_at hd
/-- the pages met up to n -/
theorem bs_step {l:List BfT} {bs:List (Int×Nat)} {n:Nat} (h:∀ x,x∈bs.map Prod.fst↔(∃ t∈l,t.n=x)∧x < (n:Int)) {t:BfT} (ht:t∈l) (hn:t.n=(n:Int)) (b:Nat):∀ x,x∈(((n:Int),b)::bs).map Prod.fst↔(∃ t∈l,t.n=x)∧x < ((n+1:Nat):Int):=fun x=>by
 rw [List.map_cons,List.mem_cons,h x]
 constructor
 ·rintro (rfl | ⟨h1,h2⟩)
  ·exact ⟨⟨t,ht,hn⟩,by omega⟩
  ·exact ⟨h1,by omega⟩
 ·rintro ⟨h1,h2⟩
  by_cases e:x=(n:Int)
  ·exact .inl e
  ·exact .inr ⟨h1,by omega⟩
theorem bs_skip {l:List BfT} {bs:List (Int×Nat)} {n:Nat} (h:∀ x,x∈bs.map Prod.fst↔(∃ t∈l,t.n=x)∧x < (n:Int)) (hno:∀ t∈l,t.n≠(n:Int)):∀ x,x∈bs.map Prod.fst↔(∃ t∈l,t.n=x)∧x < ((n+1:Nat):Int):=fun x=>by
 rw [h x]
 constructor
 ·rintro ⟨h1,h2⟩; exact ⟨h1,by omega⟩
 ·rintro ⟨⟨t,h1,h3⟩,h2⟩
  refine ⟨⟨t,h1,h3⟩,?_⟩
  have:=hno t h1
  omega
/-- the rounds -/
def CkI (S0:StM) (ns:List Int) (note:ByteArray) (i:Nat) (Si:StM):Prop:=
 (i≤ns.length∧∀ S2 er,ClA Si (ns.drop i) S2 er→ClA S0 ns S2 er)∨
 (i=ns.length+1∧∃ S1,ClA S0 ns S1 0∧(opD S1.D 0 syD).2=0∧Si=setD S1 (opD S1.D 0 syD).1)∨
 (i=ns.length+2∧∃ S1,ClA S0 ns S1 0∧(opD S1.D 0 syD).2=0∧appF (setD S1 (opD S1.D 0 syD).1) (rcI (chkR note))=(Si,0))∨
 (i=ns.length+3∧∃ S1 S2,ClA S0 ns S1 0∧(opD S1.D 0 syD).2=0∧appF (setD S1 (opD S1.D 0 syD).1) (rcI (chkR note))=(S2,0)∧(opD S2.D 0 flD).2=0∧Si=setD S2 (opD S2.D 0 flD).1)
theorem CkI.ways {S0 Si:StM} {ns:List Int} {note:ByteArray} {i:Nat} (h:CkI S0 ns note i Si):
  (i < ns.length∧∀ S2 er,ClA Si (ns.drop i) S2 er→ClA S0 ns S2 er)∨(i=ns.length+0∧ClA S0 ns Si 0)∨
  (i=ns.length+1∧∃ S1,ClA S0 ns S1 0∧(opD S1.D 0 syD).2=0∧Si=setD S1 (opD S1.D 0 syD).1)∨
  (i=ns.length+2∧∃ S1,ClA S0 ns S1 0∧(opD S1.D 0 syD).2=0∧appF (setD S1 (opD S1.D 0 syD).1) (rcI (chkR note))=(Si,0))∨
  (i=ns.length+3∧∃ S1 S2,ClA S0 ns S1 0∧(opD S1.D 0 syD).2=0∧appF (setD S1 (opD S1.D 0 syD).1) (rcI (chkR note))=(S2,0)∧(opD S2.D 0 flD).2=0∧Si=setD S2 (opD S2.D 0 flD).1):=by
 rcases h with ⟨h1,h2⟩ | h | h | h
 ·rcases Nat.lt_or_ge i ns.length with h3 | h3
  ·exact .inl ⟨h3,h2⟩
  ·exact .inr (.inl ⟨by omega,h2 _ _ (by rw [List.drop_of_length_le h3]; exact .nil _)⟩)
 ·exact .inr (.inr (.inl h))
 ·exact .inr (.inr (.inr (.inl h)))
 ·exact .inr (.inr (.inr (.inr h)))
theorem clean_keep (S:StM) (t:BfT):(cleanF S t).1.pool.map BfT.n=S.pool.map BfT.n∧(cleanF S t).1.rr=S.rr∧(cleanF S t).1.recs=S.recs:=by
 have hs:∀ (l:List BfT) (n:Int),(setB l n clB).map BfT.n=l.map BfT.n:=fun l n=>by
  rw [setB,List.map_map]
  refine List.map_congr_left fun u _=>?_
  show (if u.n=n then clB u else u).n=u.n
  split<;>rfl
 unfold cleanF
 split
 ·unfold writeF
  split
  ·exact ⟨rfl,rfl,rfl⟩
  ·refine ⟨?_,rfl,rfl⟩
   show (if _ then setB S.pool t.n clB else S.pool).map BfT.n= _
   split
   ·exact hs _ _
   ·rfl
 ·exact ⟨rfl,rfl,rfl⟩
theorem SOk.sync {S:StM} {c:Nat} (h:SOk S c):SOk (setD S (opD S.D 0 syD).1) (c+0):=by
 have hsh:∀ n,shP (opD S.D 0 syD).1 n=shP S.D n:=fun n=>opD_ind (P:=fun D'=>shP D' n=shP S.D n) rfl rfl fun _=>by
  show rdP (rdT ((S.D.pgs.map syS).getD n.toNat shd0)).1= _
  have e:(S.D.pgs.map syS).getD n.toNat shd0=syS (S.D.pgs.getD n.toNat shd0):=by
   rw [List.getD,List.getD,List.getElem?_map]
   cases S.D.pgs[n.toNat]? <;>rfl
  rw [e]; rfl
 have hws:∀ x∈(opD S.D 0 syD).1.pgs,x.ws.length≤c:=opD_ind (P:=fun D'=>∀ x∈D'.pgs,x.ws.length≤c) h.ws h.ws fun _ x hx=>by
  obtain ⟨y, _,rfl⟩:=List.mem_map.1 hx
  exact Nat.zero_le _
 have hl:(opD S.D 0 syD).1.pgs.length=S.D.pgs.length:=opD_ind (P:=fun D'=>D'.pgs.length=S.D.pgs.length) rfl rfl fun _=>List.length_map ..
 have hlog:(opD S.D 0 syD).1.log=S.D.log:=opD_ind (P:=fun D'=>D'.log=S.D.log) rfl rfl fun _=>rfl
 have hfl:(opD S.D 0 syD).1.fl=S.D.fl:=opD_ind (P:=fun D'=>D'.fl=S.D.fl) rfl rfl fun _=>rfl
 exact ⟨h.bufs,by show (opD S.D 0 syD).1.pgs.length≤400; rw [hl]; exact h.pgs,hws,h.time,h.ni,h.nt,h.right,h.nodup,h.len,fun t ht=>by show 0≤t.n∧t.n < ((opD S.D 0 syD).1.pgs.length:Int); rw [hl]; exact h.keys t ht,h.recs,by show (opD S.D 0 syD).1.log= _; rw [hlog]; exact h.log,by show (opD S.D 0 syD).1.log.size≤ _; rw [hlog]; exact h.lsz,by show (opD S.D 0 syD).1.fl≤(opD S.D 0 syD).1.log.size; rw [hlog,hfl]; exact h.fl,fun t ht hd=>by show _=shP (opD S.D 0 syD).1 t.n; rw [hsh]; exact h.cl t ht hd⟩
theorem SOk.ckE {S:StM} {c:Nat} (h:SOk S c):SOk (ckE S) c:=⟨h.bufs,h.pgs,h.ws,h.time,Nat.zero_le _,h.nt,h.right,h.nodup,h.len,h.keys,h.recs,h.log,h.lsz,h.fl,h.cl⟩
theorem SOk.flush {S:StM} {c:Nat} (h:SOk S c):SOk (setD S (opD S.D 0 flD).1) c:=by
 have hp:(opD S.D 0 flD).1.pgs=S.D.pgs:=opD_ind (P:=fun D'=>D'.pgs=S.D.pgs) rfl rfl fun _=>rfl
 have hlog:(opD S.D 0 flD).1.log=S.D.log:=opD_ind (P:=fun D'=>D'.log=S.D.log) rfl rfl fun _=>rfl
 have hfl:(opD S.D 0 flD).1.fl≤S.D.log.size:=opD_ind (P:=fun D'=>D'.fl≤S.D.log.size) h.fl h.fl fun _=>Nat.le_refl _
 exact ⟨h.bufs,by show (opD S.D 0 flD).1.pgs.length≤400; rw [hp]; exact h.pgs,by show ∀ x∈(opD S.D 0 flD).1.pgs, _; rw [hp]; exact h.ws,h.time,h.ni,h.nt,h.right,h.nodup,h.len,fun t ht=>by show 0≤t.n∧t.n < ((opD S.D 0 flD).1.pgs.length:Int); rw [hp]; exact h.keys t ht,h.recs,by show (opD S.D 0 flD).1.log= _; rw [hlog]; exact h.log,by show (opD S.D 0 flD).1.log.size≤ _; rw [hlog]; exact h.lsz,by show (opD S.D 0 flD).1.fl≤(opD S.D 0 flD).1.log.size; rw [hlog]; exact hfl,fun t ht hd=>by show _=shP (opD S.D 0 flD).1 t.n; rw [shP_eq hp]; exact h.cl t ht hd⟩
theorem pool_has {l l':List BfT} (h:l.map BfT.n=l'.map BfT.n) {n:Int} (hn:∃ t∈l',t.n=n):∃ t∈l,t.n=n:=by
 obtain ⟨t,ht,e⟩:=hn
 have h1:n∈l.map BfT.n:=by rw [h]; exact List.mem_map.2 ⟨t,ht,e⟩
 exact List.mem_map.1 h1
theorem appF_pair {S:StM} {rt:RcT} {S2:StM} (h:(appF S rt).2=0) (h2:(appF S rt).1=S2):appF S rt=(S2,0):=Prod.ext h2 h
def CkPost (sb db:Nat) (S:StM) (note:ByteArray) (c:Nat) (fp:List Nat) (w:World) (e:Ending) (w':World):Prop:=∃ er,e= .returned (.int .i64 er)∧∃ fp',St w fp [eSx sb db (fun S2=>CkQ S note S2 er∧SOk S2 (c+500)) fp'] w'
theorem CkPost.of {sb db:Nat} {S S2:StM} {note:ByteArray} {c:Nat} {er:Int} {fp fp':List Nat} {w w':World} (h:CkQ S note S2 er) (ho:SOk S2 (c+500)) (hs:St w fp ([]++[eSt sb db S2 fp']) w'):CkPost sb db S note c fp w (.returned (.int .i64 er)) w':=⟨er,rfl,fp',St.sx (L:=[]) hs ⟨h,ho⟩⟩
end
section
open Go.RowKit Go.Maps Go.ChangeMaps
theorem Tryz.infoFnJ:(Tryz.prog.info? 52).map (fun i=>(i.zero,i.size,i.bytes))=some (some Value.nilFunc,1,8):=by kernel_rfl
theorem scheck_any (sb db:Nat) (S:StM) (note:ByteArray) (c:Nat) (fp:List Nat) (w:World) (hB:(eSt sb db S fp).holds w) (hlt:∀ k∈fp,k < w.heap.size) (hok:SOk S c) (hc:c≤800000) (hns:note.size≤9000000):
  Calls Tryz.prog 28 #[.pointer (some ⟨sb,0,none⟩), .string note] w (CkPost sb db S note c fp w):=by
 have st1:St w fp [eSt sb db S fp] w:=St.lend hB (eSt_loc _ _ _ _) hlt
 have hpg:=hok.pgs
 go_enter Tryz.func28,Tryz.ntmps28
 have hst0:=st1
 refine wp_seq (sqr ?_)
 refine sqbx #[vp sb] hst0 fun B2_1 W1 hst1=>?_
 refine sqp [.k 4 (vi 0)] ?_
 refine then_normal (wp_seq (wp_seq (sqr (sqld 1 hst1 ?_))))
 refine sqv (.bool false) hst1 (by
   exact sv0 rfl rfl rfl rfl rfl (fun _ _ _ h=>h) fun ρ β W X cx=>by
    have fF11:ρ (.tmp 11)=vp sb:=(cx.ou 11)
    simp [go_sem,cx.sees.const,fF11]) fun W4 hst4=>?_
 refine sqp [.k 13 (.bool false)] ?_
 refine sqgy 13 [14,15,16] rfl rfl ?_
 refine sqp [.m 14 1, .k 15 (vi ((note.size:Int))), .k 16 (.bool (decide (60000 < (note.size:Int))))] ?_
 refine sqp [.k 17 (.bool (decide (60000 < (note.size:Int))))] ?_
 refine then_normal (wds (fun hs10 hs10p=>?_) fun hs10 hs10p=>?_)
 ·refine wp_seq (sqr (sqp [.k 4 (vi 1)] ?_))
  refine then_normal (wp_ret (then_ret ?_))
  refine bpr (vi 1) (results_1 Tryz.results28 rpt) ?_
  exact CkPost.of (.arg (by have h_:=hs10; simp at h_; omega)) (hok.mono (by omega)) (hst4.pick [0] (by decide) rfl)
 refine wp_skip (then_normal (wp_seq ?_))
 have hn6:note.size≤60000:=by have h_:=hs10; simp at h_; omega
 have hfs:=fr_size (chk_right hn6)
 have hn12:=nilrowN hst4 84 3
 simp only [List.cons_append,List.nil_append] at hn12
 obtain ⟨S0,fp13_,hS0,hg13_⟩:=St.rRn (r:=(rcI (chkR note))) hn12.u2
 have hok0:SOk S0 c:=hS0 ▸ hok.rr _
 have hrt0:(rcI (chkR note))∈S0.rr:=by rw [← hS0]; exact List.mem_append_right _ (List.mem_singleton.2 rfl)
 have hD0:S0.D=S.D:=by rw [← hS0]
 have hP0:S0.pool=S.pool:=by rw [← hS0]
 have hlz:=hok0.lsz
 have hpg0:=hok0.pgs
 refine sqr (sqp [.m 18 1, .k 19 (.agg #[vi 9,vi 0,vi 0, .slice none 0 0, .slice none 0 0, .slice none 0 0, .slice none 0 0, .string note])] ?_)
 refine sqal #[vi 0,vi 0,vi 0, .slice none 0 0, .slice none 0 0, .slice none 0 0, .slice none 0 0, .string ByteArray.empty] hg13_ fun B5_16 W16 hst16=>?_
 refine sqst (n:=8) 2 #[vi 9,vi 0,vi 0, .slice none 0 0, .slice none 0 0, .slice none 0 0, .slice none 0 0, .string note] hst16 fun W17 hst17=>?_
 refine then_normal (wp_seq (wp_seq ?_))
 obtain ⟨⟨hrw1,hrr1⟩,mb1,RA1,rc1,EA1,ec1,ib1,tb1,fpd1,hv18_⟩:=hst17.unf
 refine wp_region_Z [0,1,3,7,15,31,0,95,223,511,1023] [[10],[],[],[0],[9],[],[11]] [.c 20 (vp sb), .k 21 (vp sb), .k 22 (vp sb), .c 23 (vp db), .c 24 (.string S0.D.log), .k 25 (vi ((S0.D.log.size:Int))), .c 26 (.agg #[vi 9,vi 0,vi 0, .slice none 0 0, .slice none 0 0, .slice none 0 0, .slice none 0 0, .string note]), .c 27 (.string (frameR (chkR note))), .k 28 (vi (((frameR (chkR note)).size:Int))),tI 29 ((S0.D.log.size:Int)+((frameR (chkR note)).size:Int)) (by omega), .k 30 (.bool (decide (1048576 < (S0.D.log.size:Int)+((frameR (chkR note)).size:Int))))] [0,1,2,3,4,5,6,7,8,9,10,11] [0,3,4,6,7] [(20,0,11,31)] hv18_ ?_ fun W19 hst19=>?_
 ·refine ⟨?_,?_,?_,?_,?_,trivial⟩
  ·exact xs4 rfl id fun cx=>run_load1 rfl (by kernel_rfl) (cx.ou 2) ((cx.bi 10 rfl).cell 0)
  ·exact xs4 rfl id fun cx=>run_load1 rfl (by kernel_rfl) (cx.an 2) ((cx.bi 0 rfl).cell 0)
  ·exact xsc rfl id rfl rfl fun cx=>⟨_,klog_any db S0.D _ (eDk_at (CtxV.holdF cx (cx.init 9 _ rfl) rfl)),(map1 (cx.an 3))⟩
  ·exact xs4 rfl id fun cx=>run_loadB (n:=8) rfl (by kernel_rfl) (by kernel_rfl) (cx.ou 5) (cx.bi 11 rfl) (nle rfl) rfl
  ·exact xsc rfl id rfl rfl fun cx=>⟨_,jframe_any 9 0 0 none 0 [] note _ (fun j u h=>by cases j<;>cases h) (by decide) (fun e he=>by cases he) (by omega),(map1 (cx.an 6))⟩
 refine then_normal (wds (fun hs20 hs20p=>?_) fun hs20 hs20p=>?_)
 ·refine wp_seq (sqr (sqp [.k 4 (vi 31)] ?_))
  refine then_normal (wp_ret (then_ret ?_))
  refine bpr (vi 31) (results_1 Tryz.results28 rpt) ?_
  obtain ⟨fp22_,hk22_⟩:=St.stf (S:=S0) (hst19) (hrw1) (hrr1)
  exact CkPost.of (by have h_:=CkQ.full (S:=S) (note:=note) (q:=S.rr++[(rcI (chkR note))]) hn6 (by rw [← hD0]; have h_:=hs20; simp at h_; omega); rw [hS0] at h_; exact h_) (hok0.mono (by omega)) (hk22_.pick [0] (by decide) rfl)
 refine wp_skip (then_normal (wp_seq ?_))
 have hfit:S.D.log.size+(frameR (chkR note)).size≤1048576:=by rw [← hD0]; have h_:=hs20; simp at h_; omega
 refine wp_region_Y [0,1,3,7,15,0,0,64,192,448,960,2047,4095] [[10],[],[],[0],[],[],[10],[],[],[0]] [[],[],[],[],[],[],[],[],[],[],[],[12]] [] [.c 31 (vp sb), .k 32 (vp sb), .k 33 (vp sb), .c 34 (vp db), .c 35 (.func (.func 69) #[vp db] #[]), .c 36 (.func (.func 70) #[] #[vp B2_1,vp B5_16]), .c 37 (vp sb), .k 38 (vp sb), .k 39 (vp sb), .c 40 (vp db), .c 41 (.func (.func 63) #[vp db] #[]), .a 42, .a 6] (fun ix σ β X=>match ix with | 0=>True | 1=>True | 2=>True | 3=>True | 4=>True | 5=>True | 6=>True | 7=>True | 8=>True | 9=>True | 10=>True | 11=>σ 42= .slice (sA (β 42)) 3 3∧X 12=eO 52 1 (.slice (sA (β 42)) 3 3) 3 ([.func (.func 69) #[vp db] #[], .func (.func 70) #[] #[vp B2_1,vp B5_16], .func (.func 63) #[vp db] #[]]) | 12=>σ 6= .slice (sA (β 42)) 3 3 | _=>True) [0,1,2,3,4,5,6,7,8,9,10,11,12] [0,3,4,5,6,9,10,11,12] [(6,12,1,7),(24,0,12,36)] hst19 ?_ ?_ ?_
 ·exact fun ix _ _ _ _ _ _ hs hb hx h=>match ix,h with
  | 11,h=>by dsimp only; rw [← hs 42 rfl,← hb 42 rfl,← hx 12 rfl]; exact h
  | 12,h=>by dsimp only; rw [← hs 6 rfl,← hb 42 rfl]; exact h
  | 0, _ | 1, _ | 2, _ | 3, _ | 4, _ | 5, _ | 6, _ | 7, _ | 8, _ | 9, _ | 10, _ | _+13, _=>trivial
 ·refine ⟨?_,?_,?_,?_,?_,?_,?_,?_,?_,trivial⟩
  ·exact xs4 rfl id fun cx=>run_load1 rfl (by kernel_rfl) (cx.ou 2) ((cx.bi 10 rfl).cell 0)
  ·exact xs4 rfl id fun cx=>run_load1 rfl (by kernel_rfl) (cx.an 2) ((cx.bi 0 rfl).cell 0)
  ·exact sv0 rfl rfl rfl rfl rfl (fun _ _ _ h=>h) fun ρ β W X cx=>by
    have fF34:ρ (.tmp 34)=vp db:=(cx.an 3)
    simp [go_sem,Instr.makeFunc,fF34]
  ·exact sv0 rfl rfl rfl rfl rfl (fun _ _ _ h=>h) fun ρ β W X cx=>by
    have fF2:ρ (.tmp 2)=vp B2_1:=(cx.ou 2)
    have fF5:ρ (.tmp 5)=vp B5_16:=(cx.ou 5)
    simp [go_sem,Instr.makeFunc,fF2,fF5]
  ·exact xs4 rfl id fun cx=>run_load1 rfl (by kernel_rfl) (cx.ou 2) ((cx.bi 10 rfl).cell 0)
  ·exact xs4 rfl id fun cx=>run_load1 rfl (by kernel_rfl) (cx.an 8) ((cx.bi 0 rfl).cell 0)
  ·exact sv0 rfl rfl rfl rfl rfl (fun _ _ _ h=>h) fun ρ β W X cx=>by
    have fF40:ρ (.tmp 40)=vp db:=(cx.an 9)
    simp [go_sem,Instr.makeFunc,fF40]
  ·refine svA fun ρ β W X cx=>?_
   have fF35:ρ (.tmp 35)= .func (.func 69) #[vp db] #[]:=(cx.an 4)
   have fF36:ρ (.tmp 36)= .func (.func 70) #[] #[vp B2_1,vp B5_16]:=(cx.an 5)
   have fF41:ρ (.tmp 41)= .func (.func 63) #[vp db] #[]:=(cx.an 10)
   exact dv_lit (e:=52) (xs:=[.func (.func 69) #[vp db] #[], .func (.func 70) #[] #[vp B2_1,vp B5_16], .func (.func 63) #[vp db] #[]]) rfl (by simp [go_sem,fF35,fF36,fF41]) rfl (by decide) rfl rfl (fun σ β' X' hs hb hv hx=>⟨hv,hx⟩)
  ·exact sv rfl rfl rfl rfl rfl _ (fun _ _ _ h=>h) (fun β β' h=>by rw [h 42 (by decide)]) fun ρ β W X cx=>run_assign' rfl (dTn (cx.an 11)).1
 intro σ β X W23 hD hst23 fr hfr
 obtain ⟨A42_23,hu_A42_23⟩:∃ z,sA (β 42)=z:=⟨_,rfl⟩
 simp only [exq 12 ((dTn (hD 11 lq)).2),hu_A42_23] at hst23
 simp only [ed 42 ((dTn (hD 11 lq)).1),ed 6 ((dTn (hD 12 lq))),hu_A42_23] at hfr
 clear hD hu_A42_23; subst hfr; clear σ β X
 refine then_normal (wp_seq (wp_seq ?_))
 obtain ⟨fp24_,hk24_⟩:=St.stf (S:=S0) (hst23) (hrw1) (hrr1)
 refine sqr (sqld 1 hk24_ ?_)
 refine sqk (vi ((S0.D.pgs.length:Int))) hk24_ (fun cx=>⟨_,spages_any sb db S0 _ (eSt_at (CtxV.holdF cx (cx.init 0 _ rfl) rfl)),(map1 (cx.ou 43))⟩) fun W26 hst26=>?_
 refine sqp [.k 45 (vi 0)] ?_
 refine then_normal (wp_block ?_)
 obtain ⟨⟨hrw2,hrr2⟩,mb2,RA2,rc2,EA2,ec2,ib2,tb2,fpd2,hv28_⟩:=hst26.unf
 have hA29_:=hv28_.nA entN
 refine wp_loopT (fun t_ mz az W=>∃ k:Nat,∃ bs:List (Int×Nat),∃ m:Nat,∃ SA:Option Addr,∃ sc:Nat,k≤S0.D.pgs.length∧(∀ x,x∈bs.map Prod.fst↔(∃ t∈S0.pool,t.n=x)∧x < (k:Int))∧m=bs.length+3∧bs.length≤k∧mz=S0.D.pgs.length - k∧az=⟨(ovr (jv az) [(6,6,0,[.slice SA m sc]),(0,7,1,[]),(37,45,0,[vi ((k:Int))]),(0,46,14,[])] t_).toArray,[]⟩∧St w fp [eB B2_1 31 #[vp sb],eB B5_16 27 #[vi 9,vi 0,vi 0, .slice none 0 0, .slice none 0 0, .slice none 0 0, .slice none 0 0, .string note],eB sb 109 #[vp db,vi S0.bufs, .map (some mb2),vi S0.time, .slice RA2 S0.recs.length rc2, .slice EA2 S0.recs.length ec2, .map (some ib2), .map (some tb2),vi S0.frm],eMx kcI ptX Tryz.prog 3 mb2 S0.pool.length (atM S0.pool),eA (List.map entB S0.pool),eM (List.map entP S0.rows),eO 27 8 (.slice RA2 S0.recs.length rc2) S0.recs.length (S0.recs.flatMap rcC),eO 3 1 (.slice EA2 S0.recs.length ec2) S0.recs.length ((endN S0.L S0.recs.length).map (Value.int .i64)),eRc S0.rr,eMx kcI ecB Tryz.prog 3 ib2 S0.ni (S0.im),eMx kcI ecB Tryz.prog 3 tb2 S0.nt (S0.told),eDk db S0.D fpd2,eO 52 1 (.slice SA m sc) m ((stpL B2_1 B5_16 db bs)),eA (bs.map entN)] W) (S0.D.pgs.length - 0) ?_ ?_
 · -- the loop begins
   exact ⟨0,[],3,A42_23,3,Nat.zero_le _,fun x=>⟨fun h=>(by cases h),fun h=>by obtain ⟨⟨t,ht,rfl⟩,h2⟩:=h; have:=hok0.keys t ht; omega⟩,rfl,Nat.le_refl _,rfl,(by kernel_rfl),hA29_.pk [11,12,1,2,3,4,5,6,7,8,9,10,13,0]⟩
 rintro n30 a30 W30 ⟨k,bs,m,SA,sc,hk,hbs,hm,hbk,rfl,hj_,hst30⟩
 refine ovz hj_ fun u30_=>?_
 refine wp_seq (sqr (sqp [.k 46 (.bool (decide ((k:Int) < (S0.D.pgs.length:Int))))] ?_))
 refine then_normal (wp_seq (wds (fun hs32 hs32p=>?_) fun hs32 hs32p=>?_))
 ·refine wp_skip (then_normal (wp_seq (wp_block (wp_seq (sqr (sqp [.m 47 45] ?_))))))
  refine sqal #[vi 0] hst30 fun B7_34 W34 hst34=>?_
  refine sqst (n:=1) 14 #[vi ((k:Int))] hst34 fun W35 hst35=>?_
  refine then_normal (wp_seq ?_)
  have hkn:kcI.ok (k:Int):=by have:=hok0.pgs; constructor<;>omega
  rcases pool_or S0.pool (k:Int) with hno | ⟨A,t,B,hAB,hnt⟩
  ·refine wp_region_Z [0,1,3,7,0,31,63] [[0],[],[],[2],[14],[3]] [.c 48 (vp sb), .k 49 (vp sb), .k 50 (.pointer (some ⟨sb,2,none⟩)), .c 51 (.map (some mb2)), .c 52 (vi ((k:Int))), .c 53 (.pointer none), .c 54 (.bool false)] [0,1,2,3,4,5,6,7,8,9,10,11,12,13,14] [0,3,4,5,6] [(48,0,7,55)] hst35 ?_ fun W36 hst36=>?_
   ·refine ⟨?_,?_,?_,?_,?_,trivial⟩
    ·exact xs4 rfl id fun cx=>run_load1 rfl (by kernel_rfl) (cx.ou 2) ((cx.bi 0 rfl).cell 0)
    ·exact xs4 rfl id fun cx=>run_load1 rfl (by kernel_rfl) (cx.an 2) ((cx.bi 2 rfl).cell 2)
    ·exact xs4 rfl id fun cx=>run_load1 rfl (by kernel_rfl) (cx.ou 7) ((cx.bi 14 rfl).cell 0)
    ·exact xs4 rfl id fun cx=>(run_lookMx (e:=115) (C:=ptX) (K:=kcI) (x:=(k:Int)) rfl (cx.an 3) (cx.an 4) (CtxV.mx cx (cx.init 3 _ rfl) rfl) (h0:=by rfl) (hx:=hkn) (hk:=show Program.underlying _ _= _ from by kernel_rfl)).trans (by rw [atM_none hno]; rfl)
    ·exact sv0 rfl rfl rfl rfl rfl (fun _ _ _ h=>h) fun ρ β W X cx=>by
      have fF53:ρ (.tmp 53)= .pointer none:=(cx.an 5)
      simp [go_sem,cx.sees.const,fF53]
   refine then_normal (wcf rfl (wp_skip (blk_normal (then_normal (sqr (sqp [sI 59 ((k:Int)+1) (by omega), .m 45 59] ?_))))))
   refine then_normal ?_
   refine ⟨S0.D.pgs.length - ((k+1)),by omega,?_⟩
   exact ⟨(k+1),bs,m,SA,sc,by omega,bs_skip hbs hno,hm,by omega,rfl,(by kernel_rfl),hst36.pk [0,1,2,3,4,5,6,7,8,9,10,11,12,13]⟩
  ·refine wp_region_Z [0,1,3,7,0,31,63] [[0],[],[],[2],[14],[3]] [.c 48 (vp sb), .k 49 (vp sb), .k 50 (.pointer (some ⟨sb,2,none⟩)), .c 51 (.map (some mb2)), .c 52 (vi ((k:Int))), .c 53 (.pointer (some ⟨t.blk,0,none⟩)), .c 54 (.bool true)] [0,1,2,3,4,5,6,7,8,9,10,11,12,13,14] [0,3,4,5,6] [(48,0,7,55)] hst35 ?_ fun W39 hst39=>?_
   ·refine ⟨?_,?_,?_,?_,?_,trivial⟩
    ·exact xs4 rfl id fun cx=>run_load1 rfl (by kernel_rfl) (cx.ou 2) ((cx.bi 0 rfl).cell 0)
    ·exact xs4 rfl id fun cx=>run_load1 rfl (by kernel_rfl) (cx.an 2) ((cx.bi 2 rfl).cell 2)
    ·exact xs4 rfl id fun cx=>run_load1 rfl (by kernel_rfl) (cx.ou 7) ((cx.bi 14 rfl).cell 0)
    ·exact xs4 rfl id fun cx=>(run_lookMx (e:=115) (C:=ptX) (K:=kcI) (x:=(k:Int)) rfl (cx.an 3) (cx.an 4) (CtxV.mx cx (cx.init 3 _ rfl) rfl) (h0:=by rfl) (hx:=hkn) (hk:=show Program.underlying _ _= _ from by kernel_rfl)).trans (by rw [atM_hit hok0.nodup hAB hnt]; rfl)
    ·exact sv0 rfl rfl rfl rfl rfl (fun _ _ _ h=>h) fun ρ β W X cx=>by
      have fF53:ρ (.tmp 53)= .pointer (some ⟨t.blk,0,none⟩):=(cx.an 5)
      simp [go_sem,cx.sees.const,fF53]
   refine then_normal (wct rfl (sqr ?_))
   refine sqv (.func (.func 71) #[] #[vp B2_1,vp B7_34]) hst39 (by
     exact sv0 rfl rfl rfl rfl rfl (fun _ _ _ h=>h) fun ρ β W X cx=>by
      have fF2:ρ (.tmp 2)=vp B2_1:=(cx.ou 2)
      have fF7:ρ (.tmp 7)=vp B7_34:=(cx.ou 7)
      simp [go_sem,Instr.makeFunc,fF2,fF7]) fun W40 hst40=>?_
   refine sqn1 (fun x_=>sA x_) (fun A56_41=> .slice A56_41 1 1) (fun A56_41=>eO 52 1 (.slice A56_41 1 1) 1 ([.func (.func 71) #[] #[vp B2_1,vp B7_34]])) hst40 (by
     refine svA fun ρ β W X cx=>?_
     have fF55:ρ (.tmp 55)= .func (.func 71) #[] #[vp B2_1,vp B7_34]:=(cx.ou 55)
     exact dv_lit (e:=52) (xs:=[.func (.func 71) #[] #[vp B2_1,vp B7_34]]) rfl (by simp [go_sem,fF55]) rfl (by decide) rfl rfl (fun σ β' X' hs hb hv hx=>⟨hv,hx⟩)) fun A56_41 W41 hst41=>?_
   refine sqp [.m 57 6] ?_
   refine sqc2 (fun x_=>sA x_) (fun x_=>sC x_) (fun A58_43 c58_43=> .slice A58_43 (1+m) c58_43) (fun A58_43 c58_43=>eO 52 1 (.slice A58_43 (1+m) c58_43) (1+m) ((stpL B2_1 B5_16 db (((k:Int),B7_34)::bs)))) 15 hst41 (by
     refine svA fun ρ β W X cx=>?_
     obtain ⟨i0,hi0,hz0,hz1,hz2⟩:=info_parts Tryz.infoFnJ
     refine dv_append (n:=1) (m:=m) (nm:=1+m) (xs:=[.func (.func 71) #[] #[vp B2_1,vp B7_34]]) (news:=(stpL B2_1 B5_16 db bs)) (xs':=(stpL B2_1 B5_16 db (((k:Int),B7_34)::bs))) rfl (ty:=123) rfl (by kernel_rfl) hi0 hz0 hz1 hz2 rfl (cx.ou 56) cx (cx.init 15 _ rfl) rfl (cx.ou 57) ((stp_len _ _ _ _).trans (by omega)) (At.of_own (cx.ri 12 rfl)) (stp_one _ _ _ _) (by simp only [maxLen]; omega) (by omega) rfl rfl rfl (by omega) (rfl) (fun σ β' X' hs hb hv hx=>?_)
     exact ⟨hv,hx⟩) fun A58_43 c58_43 W43 hst43=>?_
   refine sqp [.m 6 58] ?_
   refine blk_normal (then_normal (sqr (sqp [sI 59 ((k:Int)+1) (by omega), .m 45 59] ?_)))
   refine then_normal ?_
   have hN47_:=St.anf (x:=((k:Int),B7_34)) hst43.u14.u14
   refine ⟨S0.D.pgs.length - ((k+1)),by omega,?_⟩
   exact ⟨(k+1),(((k:Int),B7_34)::bs),1+m,A58_43,c58_43,by omega,bs_step hbs (by rw [hAB]; simp) hnt _,by rw [hm]; simp only [List.length_cons]; omega,by simp only [List.length_cons]; omega,rfl,(by kernel_rfl),hN47_.pk [1,2,3,4,5,6,7,8,9,10,11,12,14,0]⟩
 refine wp_exit (then_exit (then_exit (blk_eq (then_normal (wp_seq (wp_seq ?_))))))
 have hnsS0:∀ x,x∈bs.map Prod.fst↔∃ t∈S0.pool,t.n=x:=fun x=>⟨fun h=>((hbs x).1 h).1,fun ⟨t,ht,hx⟩=>(hbs x).2 ⟨⟨t,ht,hx⟩,by have:=(hok0.keys t ht).2; omega⟩⟩
 have hnsS:∀ x,x∈bs.map Prod.fst↔∃ t∈S.pool,t.n=x:=by rw [← hP0]; exact hnsS0
 have hbl:(bs.map Prod.fst).length=bs.length:=List.length_map ..
 have hbk4:bs.length≤400:=by have:=hok0.pgs; omega
 obtain ⟨fp48_,hk48_⟩:=St.stf (S:=S0) (hst30.u11.u11.u11.u11.u11.u11.u11.u11.u11.u11) (hrw2) (hrr2)
 refine sqr (sqp [.m 60 6, .k 61 (vi ((m:Int))), .k 62 (vi 0)] ?_)
 refine then_normal (wp_block ?_)
 refine wp_loopT (fun t_ mz az W=>∃ i:Nat,∃ Si:StM,∃ fpi:List Nat,i≤m∧CkI S0 (bs.map Prod.fst) note i Si∧SOk Si (c+i)∧(rcI (chkR note))∈Si.rr∧Si.pool.map BfT.n=S0.pool.map BfT.n∧mz=m - i∧az=⟨(ovr (jv az) [(4,4,1,[]),(4,9,2,[]),(51,62,0,[vi ((i:Int))]),(0,63,9,[])] t_).toArray,[]⟩∧St w fp [eB B2_1 31 #[vp sb],eB B5_16 27 #[vi 9,vi 0,vi 0, .slice none 0 0, .slice none 0 0, .slice none 0 0, .slice none 0 0, .string note],eO 52 1 (.slice SA m sc) m ((stpL B2_1 B5_16 db bs)),eA (bs.map entN),eSt sb db Si fpi] W) (m - 0) ?_ ?_
 · -- the loop begins
   exact ⟨0,S0,fp48_,Nat.zero_le _, .inl ⟨Nat.zero_le _,fun S2 er h=>h⟩,hok0,hrt0,rfl,rfl,(by kernel_rfl),hk48_.pk [1,2,3,4,0]⟩
 rintro n52 a52 W52 ⟨i,Si,fpi,hi,hCk,hokI,hrtI,hplI,rfl,hj_,hst52⟩
 refine ovz hj_ fun u52_=>?_
 rcases hCk.ways with ⟨hlt_,hcn⟩ | ⟨hie,hcl⟩ | ⟨hie,S1,hcl,hs1,hSi⟩ | ⟨hie,S1,hcl,hs1,hap⟩ | ⟨hie,S1,S2,hcl,hs1,hap,hf0,hSi⟩
 ·obtain ⟨x,hx⟩:∃ x,bs[i]? =some x:=⟨_,List.getElem?_eq_getElem (by omega)⟩
  have hxm:x∈bs:=List.mem_of_getElem? hx
  obtain ⟨t,hti,htx⟩:∃ t∈Si.pool,t.n=x.1:=pool_has hplI ((hnsS0 x.1).1 (List.mem_map.2 ⟨x,hxm,rfl⟩))
  obtain ⟨A,B,hAB⟩:=List.append_of_mem hti
  have hdr:(bs.map Prod.fst).drop i=t.n::(bs.map Prod.fst).drop (i+1):=by rw [List.drop_eq_getElem_cons (by omega)]; congr 1; rw [htx]; exact (List.getElem?_eq_some_iff.1 ((List.getElem?_map ..).trans (by rw [hx]; rfl))).2
  refine wp_seq (sqr ?_)
  have hd54:(decide ((i:Int) < (m:Int)))=true:=decide_eq_true (by omega)
  refine sqp [.e 63 (.bool (decide ((i:Int) < (m:Int)))) (.bool true) (congrArg Value.bool hd54)] ?_
  refine then_normal (wp_seq (wct rfl (wp_skip (then_normal (wp_seq (wp_block (wp_seq (sqr ?_))))))))
  refine sql (.pointer (some ((ad SA).add i))) hst52 (fun cx=>run_indexSl (e:=52) (m:=i) rfl (by kernel_rfl) (by kernel_rfl) (cx.ou 60) (cx.ou 62) (by omega) (by omega) (At.of_own (cx.ri 2 rfl)) (by rw [stp_len]; omega)) ?_
  refine sql (.func (.func 71) #[] #[vp B2_1, .pointer (some ⟨x.2,0,none⟩)]) hst52 (fun cx=>run_load1 rfl (by kernel_rfl) (cx.ou 64) (At.cellAd (At.of_own (cx.ri 2 rfl)) (stp_cl hx))) ?_
  refine sqp [.m 9 65] ?_
  refine then_normal (wp_seq (sqr (sqp [.m 66 9] ?_)))
  refine sqc0s (fun X_=>X_.fp) (vi ((cleanF Si t).2)) (fun r5_59=>eSt sb db ((cleanF Si t).1) r5_59) 4 hst52 (by
    refine svA fun ρ β W X cx=>?_
    refine DoesU.call (run_callV (f:=71) (args:=#[]) (args':=#[vp B2_1, .pointer (some ⟨x.2,0,none⟩)]) rfl rfl (cx.ou 66) (by kernel_rfl) map0 rfl) ?_
    refine (scheck2_any B2_1 x.2 sb db Si A B t (c+i) _ _ (CtxV.holdF cx (cx.init 4 _ rfl) rfl) (CtxV.ltF cx (cx.init 4 _ rfl) rfl) (cx.bi 0 rfl) (CtxV.apF cx (cx.init 0 _ rfl) (cx.init 4 _ rfl) (eB_fp _ _ _) rfl rfl (by decide)) (CtxV.apF cx (cx.init 3 _ rfl) (cx.init 4 _ rfl) (nb_fp hxm) rfl rfl (by decide)) (by rw [htx]; exact nb_blk (CtxV.holdF cx (cx.init 3 _ rfl) rfl) hxm) hokI (by omega) hAB).mono ?_
    rintro e W1 ⟨rfl,fp4,hs4⟩
    refine ⟨_,rfl,post_obj (E:=eSt sb db Si fpi) [eSt sb db (cleanF Si t).1 fp4] (cx.init 4 _ rfl) rfl rfl hs4 (fun σ β' X' hs hb hv hN=>?_)⟩
    have hv1:=(hv 67 rfl).1; have hv2:=(hv 67 rfl).2
    exact ⟨hv1.trans rfl,eSt_self ((List.cons.inj hN).1)⟩) fun r5_59 W59 hst59=>?_
  refine sqp [.m 10 67] ?_
  refine then_normal (wp_seq (sqr (sqp [.m 68 10, .k 69 (.bool (((cleanF Si t).2) != 0))] ?_)))
  refine then_normal (wbs (fun hs63=>?_) fun hs63=>?_)
  ·have hs63p:=bne_iff_ne.1 hs63
   refine wp_seq (sqr (sqp [.m 70 10, .m 4 70] ?_))
   refine then_normal (wp_ret (blk_ret (then_ret (then_ret (blk_ret (then_ret ?_))))))
   refine bpr (vi ((cleanF Si t).2)) (results_1 Tryz.results28 rpt) ?_
   exact CkPost.of (CkQ.cl (q:=S.rr++[(rcI (chkR note))]) (ns:=bs.map Prod.fst) hn6 hfit hnsS (by rw [hS0]; exact hcn _ _ (by rw [hdr]; exact ClA.bad hti (by simpa using hs63))) (by simpa using hs63)) ((hokI.clean t hti).mono (by omega)) (hst59.pick [4] (by decide) rfl)
  have hs63p:=bne_eq_false_iff_eq.1 hs63
  refine wp_skip (blk_normal (then_normal (sqr (sqp [sI 71 ((i:Int)+1) (by omega), .m 62 71] ?_))))
  refine then_normal ?_
  refine ⟨m - ((i+1)),by omega,?_⟩
  exact ⟨(i+1),(cleanF Si t).1,r5_59,by omega, .inl ⟨by omega,fun S9 er h=>hcn S9 er (by rw [hdr]; exact ClA.cons hti (by simpa using hs63) h)⟩,(hokI.clean t hti).mono (by omega),by rw [(clean_keep _ _).2.1]; exact hrtI,(clean_keep _ _).1.trans hplI,rfl,(by kernel_rfl),hst59.pk [0,1,2,3,4]⟩
 ·refine wp_seq (sqr ?_)
  have hd69:(decide ((i:Int) < (m:Int)))=true:=decide_eq_true (by omega)
  refine sqp [.e 63 (.bool (decide ((i:Int) < (m:Int)))) (.bool true) (congrArg Value.bool hd69)] ?_
  refine then_normal (wp_seq (wct rfl (wp_skip (then_normal (wp_seq (wp_block (wp_seq (sqr ?_))))))))
  refine sql (.pointer (some ((ad SA).add i))) hst52 (fun cx=>run_indexSl (e:=52) (m:=i) rfl (by kernel_rfl) (by kernel_rfl) (cx.ou 60) (cx.ou 62) (by omega) (by omega) (At.of_own (cx.ri 2 rfl)) (by rw [stp_len]; omega)) ?_
  refine sql (.func (.func 69) #[vp db] #[]) hst52 (fun cx=>run_load1 rfl (by kernel_rfl) (cx.ou 64) (At.cellAd (At.of_own (cx.ri 2 rfl)) (stp_t (j:=0) (by omega)))) ?_
  refine sqp [.m 9 65] ?_
  refine then_normal (wp_seq ?_)
  obtain ⟨⟨hrw1,hrr1⟩,mb1,RA1,rc1,EA1,ec1,ib1,tb1,fpd1,hv73_⟩:=hst52.u4.unf
  have hlzi:=hokI.lsz
  have hpgi:=hokI.pgs
  refine sqr (sqp [.m 66 9] ?_)
  refine sqc0s (fun X_=>X_.fp) (vi ((opD Si.D 0 syD).2)) (fun r14_75=>eDk db ((opD Si.D 0 syD).1) r14_75) 9 hv73_ (by
    refine svA fun ρ β W X cx=>?_
    refine DoesU.call (run_callV (f:=69) (args:=#[]) (args':=#[vp db]) rfl rfl (cx.ou 66) (by kernel_rfl) map0 rfl) ?_
    refine (ksync_any db Si.D _ _ (CtxV.holdF cx (cx.init 9 _ rfl) rfl) (CtxV.ltF cx (cx.init 9 _ rfl) rfl) (fun x hx=>Nat.le_trans (hokI.ws x hx) (by omega)) hpgi).mono ?_
    rintro e W1 ⟨rfl,fp4,hs4⟩
    refine ⟨_,rfl,post_obj (E:=eDk db Si.D fpd1) [eDk db (opD Si.D 0 syD).1 fp4] (cx.init 9 _ rfl) rfl rfl hs4 (fun σ β' X' hs hb hv hN=>?_)⟩
    have hv1:=(hv 67 rfl).1; have hv2:=(hv 67 rfl).2
    exact ⟨hv1.trans rfl,eDk_self ((List.cons.inj hN).1)⟩) fun r14_75 W75 hst75=>?_
  refine sqp [.m 10 67] ?_
  refine then_normal (wp_seq (sqr (sqp [.m 68 10, .k 69 (.bool (((opD Si.D 0 syD).2) != 0))] ?_)))
  refine then_normal (wbs (fun hs79=>?_) fun hs79=>?_)
  ·have hs79p:=bne_iff_ne.1 hs79
   refine wp_seq (sqr (sqp [.m 70 10, .m 4 70] ?_))
   refine then_normal (wp_ret (blk_ret (then_ret (then_ret (blk_ret (then_ret ?_))))))
   refine bpr (vi ((opD Si.D 0 syD).2)) (results_1 Tryz.results28 rpt) ?_
   obtain ⟨fp82_,hk82_⟩:=St.stf (S:=(setD Si (opD Si.D 0 syD).1)) (hst75) (hrw1) (hrr1)
   exact CkPost.of (CkQ.sync (q:=S.rr++[(rcI (chkR note))]) (ns:=bs.map Prod.fst) hn6 hfit hnsS (by rw [hS0]; exact hcl) (by simpa using hs79)) (hokI.sync.mono (by omega)) (hk82_.pick [0] (by decide) rfl)
  have hs79p:=bne_eq_false_iff_eq.1 hs79
  refine wp_skip (blk_normal (then_normal (sqr (sqp [sI 71 ((i:Int)+1) (by omega), .m 62 71] ?_))))
  refine then_normal ?_
  obtain ⟨fp85_,hk85_⟩:=St.stf (S:=(setD Si (opD Si.D 0 syD).1)) (hst75) (hrw1) (hrr1)
  refine ⟨m - ((i+1)),by omega,?_⟩
  exact ⟨(i+1),(setD Si (opD Si.D 0 syD).1),fp85_,by omega, .inr (.inl ⟨by omega,Si,hcl,by simpa using hs79,rfl⟩),hokI.sync.mono (by omega),hrtI,hplI,rfl,(by kernel_rfl),hk85_.pk [1,2,3,4,0]⟩
 ·refine wp_seq (sqr ?_)
  have hd87:(decide ((i:Int) < (m:Int)))=true:=decide_eq_true (by omega)
  refine sqp [.e 63 (.bool (decide ((i:Int) < (m:Int)))) (.bool true) (congrArg Value.bool hd87)] ?_
  refine then_normal (wp_seq (wct rfl (wp_skip (then_normal (wp_seq (wp_block (wp_seq (sqr ?_))))))))
  refine sql (.pointer (some ((ad SA).add i))) hst52 (fun cx=>run_indexSl (e:=52) (m:=i) rfl (by kernel_rfl) (by kernel_rfl) (cx.ou 60) (cx.ou 62) (by omega) (by omega) (At.of_own (cx.ri 2 rfl)) (by rw [stp_len]; omega)) ?_
  refine sql (.func (.func 70) #[] #[vp B2_1,vp B5_16]) hst52 (fun cx=>run_load1 rfl (by kernel_rfl) (cx.ou 64) (At.cellAd (At.of_own (cx.ri 2 rfl)) (stp_t (j:=1) (by omega)))) ?_
  refine sqp [.m 9 65] ?_
  refine then_normal (wp_seq (sqr (sqp [.m 66 9] ?_)))
  refine sqc0s (fun X_=>X_.fp) (vi ((appF Si (rcI (chkR note))).2)) (fun r5_92=>eSt sb db ((appF Si (rcI (chkR note))).1) r5_92) 4 hst52 (by
    refine svA fun ρ β W X cx=>?_
    refine DoesU.call (run_callV (f:=70) (args:=#[]) (args':=#[vp B2_1,vp B5_16]) rfl rfl (cx.ou 66) (by kernel_rfl) map0 rfl) ?_
    refine (scheck1_any B2_1 B5_16 sb db Si (rcI (chkR note)) (c+i) _ _ (CtxV.holdF cx (cx.init 4 _ rfl) rfl) (CtxV.ltF cx (cx.init 4 _ rfl) rfl) (cx.bi 0 rfl) (CtxV.apF cx (cx.init 0 _ rfl) (cx.init 4 _ rfl) (eB_fp _ _ _) rfl rfl (by decide)) (CtxV.apF cx (cx.init 1 _ rfl) (cx.init 4 _ rfl) (eB_fp _ _ _) rfl rfl (by decide)) (cx.bi 1 rfl) hokI (chk_right hn6) hrtI).mono ?_
    rintro e W1 ⟨rfl,fp4,hs4⟩
    refine ⟨_,rfl,post_obj (E:=eSt sb db Si fpi) [eSt sb db (appF Si (rcI (chkR note))).1 fp4] (cx.init 4 _ rfl) rfl rfl hs4 (fun σ β' X' hs hb hv hN=>?_)⟩
    have hv1:=(hv 67 rfl).1; have hv2:=(hv 67 rfl).2
    exact ⟨hv1.trans rfl,eSt_self ((List.cons.inj hN).1)⟩) fun r5_92 W92 hst92=>?_
  refine sqp [.m 10 67] ?_
  refine then_normal (wp_seq (sqr (sqp [.m 68 10, .k 69 (.bool (((appF Si (rcI (chkR note))).2) != 0))] ?_)))
  refine then_normal (wbs (fun hs96=>?_) fun hs96=>?_)
  ·have hs96p:=bne_iff_ne.1 hs96
   refine wp_seq (sqr (sqp [.m 70 10, .m 4 70] ?_))
   refine then_normal (wp_ret (blk_ret (then_ret (then_ret (blk_ret (then_ret ?_))))))
   refine bpr (vi ((appF Si (rcI (chkR note))).2)) (results_1 Tryz.results28 rpt) ?_
   exact CkPost.of (by have h_:=CkQ.app (q:=S.rr++[(rcI (chkR note))]) (ns:=bs.map Prod.fst) hn6 hfit hnsS (by rw [hS0]; exact hcl) hs1 (by rw [← hSi]; simpa using hs96); rw [← hSi] at h_; exact h_) ((hokI.append (chk_right hn6)).mono (by omega)) (hst92.pick [4] (by decide) rfl)
  have hs96p:=bne_eq_false_iff_eq.1 hs96
  refine wp_skip (blk_normal (then_normal (sqr (sqp [sI 71 ((i:Int)+1) (by omega), .m 62 71] ?_))))
  refine then_normal ?_
  refine ⟨m - ((i+1)),by omega,?_⟩
  exact ⟨(i+1),(appF Si (rcI (chkR note))).1,r5_92,by omega, .inr (.inr (.inl ⟨by omega,S1,hcl,hs1,by rw [← hSi]; exact appF_pair (by simpa using hs96) rfl⟩)),(hokI.append (chk_right hn6)).mono (by omega),by rw [(appF_keep _ _).2.1]; exact hrtI,by rw [(appF_keep _ _).2.2.2.2.1]; exact hplI,rfl,(by kernel_rfl),hst92.pk [0,1,2,3,4]⟩
 ·refine wp_seq (sqr ?_)
  have hd102:(decide ((i:Int) < (m:Int)))=true:=decide_eq_true (by omega)
  refine sqp [.e 63 (.bool (decide ((i:Int) < (m:Int)))) (.bool true) (congrArg Value.bool hd102)] ?_
  refine then_normal (wp_seq (wct rfl (wp_skip (then_normal (wp_seq (wp_block (wp_seq (sqr ?_))))))))
  refine sql (.pointer (some ((ad SA).add i))) hst52 (fun cx=>run_indexSl (e:=52) (m:=i) rfl (by kernel_rfl) (by kernel_rfl) (cx.ou 60) (cx.ou 62) (by omega) (by omega) (At.of_own (cx.ri 2 rfl)) (by rw [stp_len]; omega)) ?_
  refine sql (.func (.func 63) #[vp db] #[]) hst52 (fun cx=>run_load1 rfl (by kernel_rfl) (cx.ou 64) (At.cellAd (At.of_own (cx.ri 2 rfl)) (stp_t (j:=2) (by omega)))) ?_
  refine sqp [.m 9 65] ?_
  refine then_normal (wp_seq ?_)
  obtain ⟨⟨hrw1,hrr1⟩,mb1,RA1,rc1,EA1,ec1,ib1,tb1,fpd1,hv106_⟩:=hst52.u4.unf
  have hlzi:=hokI.lsz
  have hpgi:=hokI.pgs
  refine sqr (sqp [.m 66 9] ?_)
  refine sqc0s (fun X_=>X_.fp) (vi ((opD Si.D 0 flD).2)) (fun r14_108=>eDk db ((opD Si.D 0 flD).1) r14_108) 9 hv106_ (by
    refine svA fun ρ β W X cx=>?_
    refine DoesU.call (run_callV (f:=63) (args:=#[]) (args':=#[vp db]) rfl rfl (cx.ou 66) (by kernel_rfl) map0 rfl) ?_
    refine (kflush_any db Si.D _ _ (CtxV.holdF cx (cx.init 9 _ rfl) rfl) (CtxV.ltF cx (cx.init 9 _ rfl) rfl) (by omega)).mono ?_
    rintro e W1 ⟨rfl,fp4,hs4⟩
    refine ⟨_,rfl,post_obj (E:=eDk db Si.D fpd1) [eDk db (opD Si.D 0 flD).1 fp4] (cx.init 9 _ rfl) rfl rfl hs4 (fun σ β' X' hs hb hv hN=>?_)⟩
    have hv1:=(hv 67 rfl).1; have hv2:=(hv 67 rfl).2
    exact ⟨hv1.trans rfl,eDk_self ((List.cons.inj hN).1)⟩) fun r14_108 W108 hst108=>?_
  refine sqp [.m 10 67] ?_
  refine then_normal (wp_seq (sqr (sqp [.m 68 10, .k 69 (.bool (((opD Si.D 0 flD).2) != 0))] ?_)))
  refine then_normal (wbs (fun hs112=>?_) fun hs112=>?_)
  ·have hs112p:=bne_iff_ne.1 hs112
   refine wp_seq (sqr (sqp [.m 70 10, .m 4 70] ?_))
   refine then_normal (wp_ret (blk_ret (then_ret (then_ret (blk_ret (then_ret ?_))))))
   refine bpr (vi ((opD Si.D 0 flD).2)) (results_1 Tryz.results28 rpt) ?_
   obtain ⟨fp115_,hk115_⟩:=St.stf (S:=(setD Si (opD Si.D 0 flD).1)) (hst108) (hrw1) (hrr1)
   exact CkPost.of (CkQ.flush (q:=S.rr++[(rcI (chkR note))]) (ns:=bs.map Prod.fst) hn6 hfit hnsS (by rw [hS0]; exact hcl) hs1 hap (by simpa using hs112)) (hokI.flush.mono (by omega)) (hk115_.pick [0] (by decide) rfl)
  have hs112p:=bne_eq_false_iff_eq.1 hs112
  refine wp_skip (blk_normal (then_normal (sqr (sqp [sI 71 ((i:Int)+1) (by omega), .m 62 71] ?_))))
  refine then_normal ?_
  obtain ⟨fp118_,hk118_⟩:=St.stf (S:=(setD Si (opD Si.D 0 flD).1)) (hst108) (hrw1) (hrr1)
  refine ⟨m - ((i+1)),by omega,?_⟩
  exact ⟨(i+1),(setD Si (opD Si.D 0 flD).1),fp118_,by omega, .inr (.inr (.inr ⟨by omega,S1,Si,hcl,hs1,hap,by simpa using hs112,rfl⟩)),hokI.flush.mono (by omega),hrtI,hplI,rfl,(by kernel_rfl),hk118_.pk [1,2,3,4,0]⟩
 ·refine wp_seq (sqr ?_)
  have hd120:(decide ((i:Int) < (m:Int)))=false:=decide_eq_false (by omega)
  refine sqp [.e 63 (.bool (decide ((i:Int) < (m:Int)))) (.bool false) (congrArg Value.bool hd120)] ?_
  refine then_normal (wp_seq (wcf rfl (wp_exit (then_exit (then_exit (blk_eq (then_normal (wp_seq ?_))))))))
  obtain ⟨⟨hrw9,hrr9⟩,mb9,RA9,rc9,EA9,ec9,ib9,tb9,fpd9,hv121_⟩:=hst52.u4.unf
  have hni9:=hokI.ni
  refine wp_region_Y [0,0,2,6,14,30,63,127,255] [[10],[10],[],[],[0],[],[],[],[0]] [[],[],[],[],[],[],[],[],[14]] [[],[],[],[],[],[],[],[],[0]] [.c 72 (vp sb), .c 73 (vp sb), .k 74 (vp sb), .k 75 (.pointer (some ⟨sb,4,none⟩)), .c 76 (.slice RA9 Si.recs.length rc9), .k 77 (vi ((Si.recs.length:Int))), .k 78 (vp sb), .k 79 (.pointer (some ⟨sb,8,none⟩)), .n] (fun ix σ β X=>match ix with | 0=>True | 1=>True | 2=>True | 3=>True | 4=>True | 5=>True | 6=>True | 7=>True | 8=>X 14=eB sb 109 #[vp db,vi Si.bufs, .map (some mb9),vi Si.time, .slice RA9 Si.recs.length rc9, .slice EA9 Si.recs.length ec9, .map (some ib9), .map (some tb9),vi ((Si.recs.length:Int))] | _=>True) [1,2,3,4,5,6,7,8,9,10,11,12,13,14] [0,1,4,8] [(72,0,8,80)] hv121_ ?_ ?_ ?_
  ·exact fun ix _ _ _ _ _ _ hs hb hx h=>match ix,h with
   | 8,h=>by dsimp only; rw [← hx 14 rfl]; exact h
   | 0, _ | 1, _ | 2, _ | 3, _ | 4, _ | 5, _ | 6, _ | 7, _ | _+9, _=>trivial
  ·refine ⟨?_,?_,?_,?_,trivial⟩
   ·exact xs4 rfl id fun cx=>run_load1 rfl (by kernel_rfl) (cx.ou 2) ((cx.bi 10 rfl).cell 0)
   ·exact xs4 rfl id fun cx=>run_load1 rfl (by kernel_rfl) (cx.ou 2) ((cx.bi 10 rfl).cell 0)
   ·exact xs4 rfl id fun cx=>run_load1 rfl (by kernel_rfl) (cx.an 3) ((cx.bi 0 rfl).cell 4)
   ·refine svA fun ρ β W X cx=>?_
    exact dv_store (n:=1) rfl (cx.an 7) (cx.an 5) (by kernel_rfl) (by kernel_rfl) (by kernel_rfl) cx (cx.init 0 _ rfl) rfl (nle rfl) (by kernel_rfl) rfl rfl rfl (fun σ β' X' hs hb hx=>hx)
  intro σ β X W122 hD hst122 fr hfr
  simp only [exq 14 ((dTn (hD 8 lq)))] at hst122
  clear hD; subst hfr; clear σ β X
  refine then_normal (wp_seq (sqr (sqld 9 hst122 ?_)))
  refine sqp [.k 81 (vp sb), .k 82 (.pointer (some ⟨sb,6,none⟩))] ?_
  refine sqld 13 hst122 ?_
  refine sqc (eMx kcI ecB Tryz.prog 3 ib9 0 (fun _=>none)) 6 hst122 (by
    refine svA fun ρ β W X cx=>?_
    exact dv_clearMx (e:=4) (d:=0) rfl (cx.ou 83) cx (cx.init 6 _ rfl) rfl rfl rfl (fun σ β' X' hs hb hx=>hx)) fun W127 hst127=>?_
  refine then_normal (wp_seq (sqr (sqp [.k 4 (vi 0)] ?_)))
  refine then_normal (wp_ret ?_)
  refine bpr (vi 0) (results_1 Tryz.results28 rpt) ?_
  obtain ⟨fp129_,hk129_⟩:=St.stf (S:=(ckE Si)) (hst127.u9.c0.u9.c0.u9.c0.u9.c0.u9) (hrw9) (hrr9)
  exact CkPost.of (by rw [hSi]; exact CkQ.ok (q:=S.rr++[(rcI (chkR note))]) (ns:=bs.map Prod.fst) hn6 hfit hnsS (by rw [hS0]; exact hcl) hs1 hap hf0) (hokI.ckE.mono (by omega)) hk129_
end
section
open Go.RowKit
/-- the store agrees with its log; told: the pages that Fresh has named -/
structure WI (S:StM) (told:Int→Bool):Prop where
 cur:∀ n:Int,0≤n→n < (S.D.pgs.length:Int)→curF S n=contF S.L n
 im:∀ n:Int,0≤n→n < (S.D.pgs.length:Int)→(S.im n).getD false=imgF S.L n
 frm:S.frm=(fromF S.L:Int)
 told:∀ n:Int,0≤n→n < (S.D.pgs.length:Int)→(S.told n).getD false=told n
theorem Ev.L {S S':StM} (h:Ev S S'):S'.L=S.L:=by show S'.recs.map RcT.r= _; rw [h.recs]
theorem Ev.wi {S S':StM} {told:Int→Bool} (h:Ev S S') (hw:WI S told):WI S' told:=
 ⟨fun n h0 h1=>by rw [h.L,h.cur n h0]; exact hw.cur n h0 (by rw [← h.len]; exact h1),fun n h0 h1=>by rw [h.L,h.im]; exact hw.im n h0 (by rw [← h.len]; exact h1),by rw [h.L,h.frm]; exact hw.frm,fun n h0 h1=>by rw [h.told]; exact hw.told n h0 (by rw [← h.len]; exact h1)⟩
def imgsL (L:List RecM) (os:List Int):List RecM:=(os.filter fun n=>!imgF L n).map fun n=>⟨8,0,n,[],bytesP (contF L n)⟩
def rfL (L:List RecM) (r:RecM):List RecM:=L++imgsL L (ordF r.eds)++[r]
def rfE (pages:Nat) (L:List RecM) (r:RecM):Int:=
 if recR r=false∨r.kind=8∨r.kind=9 then 1 else if r.eds.any (outR pages)=true then 22 else if errF (contF L) r.eds≠0 then errF (contF L) r.eds else if 1048576 < szF L+((frameR r).size+szF (imgsL L (ordF r.eds))) then 31 else 0
def rfT (told:Int→Bool) (L:List RecM) (r:RecM):Int→Bool:=fun n=>if n∈ordF r.eds∧(contF L n).1≠0∧(nowF (contF L) r.eds n).1=0 then false else told n
/-- the log, the LSN, the error, the pages told behind Do -/
def rfD (pages:Nat) (L:List RecM) (told:Int→Bool) (r:RecM):List RecM×Int×Int×(Int→Bool):=if rfE pages L r=0 then (rfL L r,((rfL L r).length:Int),0,rfT told L r) else (L,0,rfE pages L r,told)
theorem errF_congr (l:List EdT):∀ (N M:Int→PgS),(∀ e∈l,N e.1=M e.1)→errF N l=errF M l:=by
 induction l with
 | nil=>intro N M _; rfl
 | cons e l ih=>
   intro N M h
   rw [errF,errF,h e (by simp)]
   split
   ·refine ih _ _ fun x hx=>?_
    rw [nowS,nowS]
    rw [h e (by simp),h x (by simp [hx])]
   ·rfl
theorem nowF_congr (l:List EdT) (n:Int):∀ (N M:Int→PgS),(∀ e∈l,N e.1=M e.1)→N n=M n→nowF N l n=nowF M l n:=by
 induction l with
 | nil=>intro N M _ h; exact h
 | cons e l ih=>
   intro N M h hn
   refine ih _ _ (fun x hx=>?_) ?_
   ·rw [nowS,nowS]; rw [h e (by simp),h x (by simp [hx])]
   ·rw [nowS,nowS]; rw [h e (by simp),hn]
theorem doE_same {p q:PgS} {e:EdT} {a b:Int} (hp:rightP p) (hq:rightP q) (h1:p.1=q.1) (h2:p.2.2=q.2.2) (ha:0≤a∧a≤2147483647) (hb:0≤b∧b≤2147483647):doE p e a=doE q e b:=by
 have e1:=hp.1
 have e2:=hq.1
 have n1:¬ (a < 0∨2147483647 < a):=by omega
 have n2:¬ (b < 0∨2147483647 < b):=by omega
 rw [h2] at e1
 simp only [doE,putErr,h2,e1,e2,if_neg n1,if_neg n2,h2,Bool.true_eq_false,if_false]
theorem doV_same {p q:PgS} {e:EdT} {a b:Int} (h1:p.1=q.1) (h2:p.2.2=q.2.2):(doV p e a).1=(doV q e b).1∧(doV p e a).2.2=(doV q e b).2.2:=by
 unfold doV
 split
 ·exact ⟨rfl,rfl⟩
 ·exact ⟨h1,by rw [h2]⟩
theorem ed_now {n lsn:Int} (hl:0≤lsn∧lsn≤2147483647):∀ (l:List EdT) (N:Int→PgS) (p:PgS),(∀ m,rightP (N m))→rightP p→p.1=(N n).1→p.2.2=(N n).2.2→errF N l=0→
  (edRec n lsn p l).1=(nowF N l n).1∧(edRec n lsn p l).2.2=(nowF N l n).2.2∧((∃ e∈l,e.1=n)→(edRec n lsn p l).2.1=lsn):=by
 intro l
 induction l with
 | nil=>intro N p _ _ h1 h2 _; exact ⟨h1,h2,fun ⟨e,he, _⟩=>by cases he⟩
 | cons e l ih=>
   intro N p hN hp h1 h2 h0
   rw [errF] at h0
   split at h0
   ·rename_i hd
    have hN2:∀ m,rightP (nowS N e m):=fun m=>by
     unfold nowS
     split
     ·exact do_right hd
     ·exact hN m
    by_cases he:e.1=n
    ·have hd2:doE p e lsn=0:=by rw [doE_same hp (hN n) h1 h2 hl (b:=1) (by omega),← he]; exact hd
     have e1:edA n lsn p e=doV p e lsn:=if_pos ⟨he,hd2⟩
     have e2:nowS N e n=doV (N n) e 1:=by rw [nowS]; rw [if_pos he.symm,he]
     obtain ⟨a,b,c⟩:=ih (nowS N e) (doV p e lsn) hN2 (do_right hd2) (by rw [e2]; exact (doV_same h1 h2).1) (by rw [e2]; exact (doV_same h1 h2).2) h0
     show (edRec n lsn (edA n lsn p e) l).1= _∧(edRec n lsn (edA n lsn p e) l).2.2= _∧(_→(edRec n lsn (edA n lsn p e) l).2.1= _)
     rw [e1]
     refine ⟨a,b,fun _=>?_⟩
     by_cases hx:∃ x∈l,x.1=n
     ·exact c hx
     ·rw [edRec_no (fun x hx1 hx2=>hx ⟨x,hx1,hx2⟩),doV_lsn]
    ·have e1:edA n lsn p e=p:=if_neg (fun h=>he h.1)
     have e2:nowS N e n=N n:=by rw [nowS]; rw [if_neg (fun h=>he h.symm)]
     obtain ⟨a,b,c⟩:=ih (nowS N e) p hN2 hp (by rw [e2]; exact h1) (by rw [e2]; exact h2) h0
     show (edRec n lsn (edA n lsn p e) l).1= _∧(edRec n lsn (edA n lsn p e) l).2.2= _∧(_→(edRec n lsn (edA n lsn p e) l).2.1= _)
     rw [e1]
     refine ⟨a,b,fun ⟨x,hx,hn⟩=>?_⟩
     rcases List.mem_cons.1 hx with rfl | hx
     ·exact absurd hn he
     ·exact c ⟨x,hx,hn⟩
   ·rename_i hd; exact absurd h0 hd
/-- page n behind a record that edits it -/
theorem contF_do {L:List RecM} {r:RecM} {n:Int} (hL:(L.length:Int)+1≤2147483647) (h0:errF (contF L) r.eds=0) (hn:n∈ordF r.eds):contF (L++[r]) n=setL ((L.length:Int)+1) (nowF (contF L) r.eds n):=by
 obtain ⟨a,b,c⟩:=ed_now (n:=n) (lsn:=(L.length:Int)+1) (by omega) r.eds (contF L) (contF L n) (contF_right L) (contF_right L n) rfl rfl h0
 rw [contF_snoc]
 exact Prod.ext a (Prod.ext (c (ord_mem.1 hn)) b)
theorem contF_not {L:List RecM} {r:RecM} {n:Int} (hn:n∉ordF r.eds):contF (L++[r]) n=contF L n:=by
 rw [contF_snoc,edRec_no (fun e he h=>hn (ord_mem.2 ⟨e,he,h⟩))]
theorem img_eds {L:List RecM} {os:List Int}:∀ r∈imgsL L os,r.eds=[]∧r.kind=8∧∃ n∈os,imgF L n=false∧r=⟨8,0,n,[],bytesP (contF L n)⟩:=fun r hr=>by
 obtain ⟨n,hn,rfl⟩:=List.mem_map.1 hr
 obtain ⟨h1,h2⟩:=List.mem_filter.1 hn
 exact ⟨rfl,rfl,n,h1,by simpa using h2,rfl⟩
theorem contF_imgs {L ims:List RecM} (h:∀ r∈ims,r.eds=[]) (n:Int):contF (L++ims) n=contF L n:=contF_keep fun r hr e he=>by rw [h r hr] at he; cases he
theorem imgF_imgs {ims:List RecM} (n:Int):∀ (L:List RecM),(∀ r∈ims,r.kind=8)→imgF (L++ims) n=(imgF L n||decide (n∈ims.map RecM.tbl)):=by
 induction ims with
 | nil=>intro L _; simp
 | cons r ims ih=>
   intro L h
   have e:L++r::ims=(L++[r])++ims:=by simp
   have hk:=h r (by simp)
   rw [e,ih _ (fun x hx=>h x (by simp [hx])),imgF_snoc,if_neg (by rw [hk]; decide),hk,Bool.or_assoc]
   congr 1
   rw [List.map_cons]
   by_cases ht:r.tbl=n
   ·rw [decide_eq_true (p:=n∈r.tbl::ims.map RecM.tbl) (by rw [ht]; exact List.mem_cons_self)]; simp [ht]
   ·have:(n∈r.tbl::ims.map RecM.tbl)=(n∈ims.map RecM.tbl):=propext ⟨fun h=>(List.mem_cons.1 h).elim (fun h=>absurd h.symm ht) id,List.mem_cons_of_mem _⟩
    simp only [this]
    rw [show (r.tbl==n)=false by simpa using ht,Bool.and_false,Bool.false_or]
theorem fromF_imgs {ims:List RecM}:∀ (L:List RecM),(∀ r∈ims,r.kind≠9)→fromF (L++ims)=fromF L:=by
 induction ims with
 | nil=>intro L _; simp
 | cons r ims ih=>
   intro L h
   rw [show L++r::ims=(L++[r])++ims by simp,ih _ (fun x hx=>h x (by simp [hx])),fromF_snoc,if_neg (h r (by simp))]
end
section
open Go.RowKit
theorem opD_cases (D:DkM) (er:Int) (f:DkM→DkM):(D.off=true∧opD D er f=(D,24))∨(D.off=false∧er≠0∧opD D er f=(D,er))∨(D.off=false∧er=0∧D.armed=true∧opD D er f=({D with off:=true},24))∨(D.off=false∧er=0∧opD D er f=(f {D with left:=decL D.left},0)):=by
 unfold opD
 split
 ·rename_i h; exact .inl ⟨h,rfl⟩
 ·rename_i h
  have h:D.off=false:=by simpa using h
  split
  ·rename_i h1; exact .inr (.inl ⟨h,h1,rfl⟩)
  ·rename_i h1
   have h1:er=0:=by simpa using h1
   split
   ·rename_i h2; exact .inr (.inr (.inl ⟨h,h1,h2.1,rfl⟩))
   ·exact .inr (.inr (.inr ⟨h,h1,rfl⟩))
/-- what an append does -/
structure ApS (S:StM) (rt:RcT) (S2:StM) (er:Int):Prop where
 ok:er=0→S2.D.off=false∧S2.recs=S.recs++[rt]∧S2.D.log=S.D.log++frameR rt.r
 no:er≠0→S2.recs=S.recs∧S2.D.log=S.D.log∧((er=24∧S2.D.off=true)∨(er=31∧S2.D.off=S.D.off∧1048576 < S.D.log.size+(frameR rt.r).size))
 pool:S2.pool=S.pool
 pgs:S2.D.pgs=S.D.pgs
 fl:S2.D.fl=S.D.fl
 im:S2.im=S.im
 told:S2.told=S.told
 frm:S2.frm=S.frm
 armed:S2.D.armed=S.D.armed
 noarm:S.D.armed=false→S2.D.off=S.D.off
theorem appF_s (S:StM) (rt:RcT):ApS S rt (appF S rt).1 (appF S rt).2:=by
 have hz:∀ er:Int,apE S.D (frameR rt.r)=er→er≠0→er=31∧1048576 < S.D.log.size+(frameR rt.r).size:=fun er h h0=>by
  unfold apE at h
  split at h
  ·exact ⟨h.symm,by omega⟩
  ·exact absurd h.symm h0
 rcases opD_cases S.D (apE S.D (frameR rt.r)) (apD (frameR rt.r)) with ⟨h1,h2⟩ | ⟨h1,h0,h2⟩ | ⟨h1,h0,h3,h2⟩ | ⟨h1,h0,h2⟩
 ·have e:(apR S rt.r)=(S.D,24):=h2
  rw [appF_a (by rw [e]; exact (by decide:(24:Int)≠0)),e]
  exact ⟨fun h=>(by cases h),fun _=>⟨rfl,rfl, .inl ⟨rfl,h1⟩⟩,rfl,rfl,rfl,rfl,rfl,rfl,rfl,fun _=>rfl⟩
 ·have e:(apR S rt.r)=(S.D,apE S.D (frameR rt.r)):=h2
  rw [appF_a (by rw [e]; exact h0),e]
  obtain ⟨a,b⟩:=hz _ rfl h0
  exact ⟨fun h=>absurd h h0,fun _=>⟨rfl,rfl, .inr ⟨a,rfl,b⟩⟩,rfl,rfl,rfl,rfl,rfl,rfl,rfl,fun _=>rfl⟩
 ·have e:(apR S rt.r)=({S.D with off:=true},24):=h2
  rw [appF_a (by rw [e]; exact (by decide:(24:Int)≠0)),e]
  exact ⟨fun h=>(by cases h),fun _=>⟨rfl,rfl, .inl ⟨rfl,rfl⟩⟩,rfl,rfl,rfl,rfl,rfl,rfl,rfl,fun h=>by rw [h3] at h; cases h⟩
 ·have e:(apR S rt.r)=(apD (frameR rt.r) {S.D with left:=decL S.D.left},0):=h2
  rw [appF_b (by rw [e]),e]
  exact ⟨fun _=>⟨h1,rfl,rfl⟩,fun h=>absurd rfl h,rfl,rfl,rfl,rfl,rfl,rfl,rfl,fun _=>rfl⟩
/-- what the images' appends do: k of them are done -/
structure ApO (S:StM) (ims:List RecM) (S2:StM) (er:Int) (k:Nat):Prop where
 kl:k≤ims.length
 ok:er=0→k=ims.length∧(S.D.off=false→S2.D.off=false)
 no:er≠0→(er=24∧S2.D.off=true)∨(er=31∧1048576 < S.D.log.size+szF ims)
 L:S2.L=S.L++ims.take k
 log:S2.D.log.size=S.D.log.size+szF (ims.take k)
 pool:S2.pool=S.pool
 pgs:S2.D.pgs=S.D.pgs
 fl:S2.D.fl=S.D.fl
 im:∀ n,(S2.im n).getD false=((S.im n).getD false||decide (n∈(ims.take k).map RecM.tbl))
 told:S2.told=S.told
 frm:S2.frm=S.frm
 armed:S2.D.armed=S.D.armed
 noarm:S.D.armed=false→S2.D.off=S.D.off
theorem szF_cons (r:RecM) (l:List RecM):szF (r::l)=(frameR r).size+szF l:=by simp [szF]
theorem ApI.run {S S2:StM} {ims:List RecM} {er:Int} (h:ApI S ims S2 er):∃ k,ApO S ims S2 er k:=by
 induction h with
 | nil S=>exact ⟨0,Nat.le_refl _,fun _=>⟨rfl,id⟩,fun h=>absurd rfl h,by simp,rfl,rfl,rfl,rfl,fun n=>by simp,rfl,rfl,rfl,fun _=>rfl⟩
 | bad q h=>
   rename_i S r l
   have hs:=appF_s {S with rr:=q} (rcI r)
   obtain ⟨a,b,c⟩:=hs.no h
   refine ⟨0,Nat.zero_le _,fun h0=>absurd h0 h,fun _=>?_,(congrArg (List.map RcT.r) a).trans (List.append_nil _).symm,by rw [b]; rfl,hs.pool,hs.pgs,hs.fl,fun n=>by rw [hs.im]; simp,hs.told,hs.frm,hs.armed,hs.noarm⟩
   rcases c with c | c
   ·exact .inl c
   ·refine .inr ⟨c.1,?_⟩
    have:=c.2.2
    rw [szF_cons]
    show 1048576 < S.D.log.size+ _
    have e:(frameR (rcI r).r).size=(frameR r).size:=rfl
    have e2:({S with rr:=q}:StM).D.log.size=S.D.log.size:=rfl
    omega
 | cons q h hr ih=>
   rename_i S S2 r l er
   have hs:=appF_s {S with rr:=q} (rcI r)
   obtain ⟨a1,a2,a3⟩:=hs.ok h
   obtain ⟨k,o⟩:=ih
   have hlog:(appF {S with rr:=q} (rcI r)).1.D.log=S.D.log++frameR r:=a3
   refine ⟨k+1,by have:=o.kl; simp only [List.length_cons]; omega,fun h0=>?_,fun h0=>?_,?_,?_,o.pool.trans hs.pool,o.pgs.trans hs.pgs,o.fl.trans hs.fl,fun n=>?_,o.told.trans hs.told,o.frm.trans hs.frm,o.armed.trans hs.armed,fun h0=>?_⟩
   ·obtain ⟨b1,b2⟩:=o.ok h0
    exact ⟨by rw [b1]; rfl,fun _=>b2 a1⟩
   ·rcases o.no h0 with c | ⟨c1,c2⟩
    ·exact .inl c
    ·refine .inr ⟨c1,?_⟩
     have c2:1048576 < (appF {S with rr:=q} (rcI r)).1.D.log.size+szF l:=c2
     rw [hlog,ByteArray.size_append] at c2
     rw [szF_cons]; omega
   ·rw [o.L,List.take_succ_cons]
    show (appF {S with rr:=q} (rcI r)).1.recs.map RcT.r++ _= _
    rw [a2,List.map_append]
    show S.L++[r]++l.take k= _
    simp
   ·have h1:=o.log
    have h1:S2.D.log.size=(appF {S with rr:=q} (rcI r)).1.D.log.size+szF (l.take k):=h1
    rw [h1,hlog,ByteArray.size_append,List.take_succ_cons,szF_cons]; omega
   ·rw [o.im,List.take_succ_cons,List.map_cons]
    show ((putX (appF {S with rr:=q} (rcI r)).1.im r.tbl (some true) n).getD false|| _)= _
    rw [hs.im]
    unfold putX
    by_cases hn:n=r.tbl
    ·subst hn; simp
    ·rw [if_neg hn]
     show ((S.im n).getD false|| _)= _
     congr 1
     have:(n∈r.tbl::(l.take k).map RecM.tbl)=(n∈(l.take k).map RecM.tbl):=propext ⟨fun h=>(List.mem_cons.1 h).elim (fun h=>absurd h hn) id,List.mem_cons_of_mem _⟩
     simp only [this]
   ·have h1:=hs.noarm h0
    have h2:=o.noarm (hs.armed.trans h0)
    exact h2.trans h1
theorem ApI.sok {S S2:StM} {ims:List RecM} {er:Int} (h:ApI S ims S2 er):∀ {c:Nat},SOk S c→(∀ r∈ims,recR r=true)→SOk S2 (c+ims.length):=by
 induction h with
 | nil S=>intro c h _; exact h
 | bad q h=>intro c hc hr; exact ((hc.rr q).append (rt:=rcI _) (hr _ List.mem_cons_self)).mono (by omega)
 | cons q h hr ih=>
   intro c hc hr
   exact (ih (((hc.rr q).append (rt:=rcI _) (hr _ List.mem_cons_self)).im _) (fun r h=>hr r (by simp [h]))).mono (by simp only [List.length_cons]; omega)
theorem ApO.cur {S S2:StM} {ims:List RecM} {er:Int} {k:Nat} (h:ApO S ims S2 er k) (n:Int):curF S2 n=curF S n:=by
 rw [curF,curF,h.pool,shP_eq h.pgs]
/-- a page put -/
theorem PutR.cur {S S2:StM} {c:Nat} {n:Int} {pg:PgR} (hok:SOk S c) (h:PutR S n pg S2 0):S2.L=S.L∧S2.frm=S.frm∧S2.im=S.im∧S2.told=S.told∧S2.D.pgs.length=S.D.pgs.length∧∀ m:Int,0≤m→curF S2 m=if m=n then pg.p else curF S m:=by
 obtain ⟨S1,h1,⟨h2, _⟩ | ⟨_,⟨t,ht,hn⟩,rfl⟩⟩:=h
 ·exact absurd rfl h2
 ·obtain ⟨ev, _, _⟩:=Ev.load hok h1
  have hok1:=hok.load h1
  refine ⟨ev.L,ev.frm,ev.im,ev.told,ev.len,fun m hm=>?_⟩
  have hnd:(S1.pool.map BfT.n).Nodup:=hok1.nodup
  by_cases e:m=n
  ·subst e
   rw [if_pos rfl]
   rcases curF_setB (S:=S1) (n:=m) (f:=putB pg) hnd (fun _=>rfl) m with h3 | ⟨u,hu,e1, _,e3⟩
   ·have h4:=curF_mem (S:={S1 with pool:=setB S1.pool m (putB pg)}) (by show ((setB S1.pool m (putB pg)).map BfT.n).Nodup; rw [setB_n (f:=putB pg) (fun _=>rfl)]; exact hnd) (t:=putB pg t) (List.mem_map.2 ⟨t,ht,by rw [if_pos hn]⟩)
    have h5:(putB pg t).n=m:=hn
    rw [h5] at h4; exact h4
   ·exact e3
  ·rw [if_neg e,← ev.cur m hm]
   rcases curF_setB (S:=S1) (n:=n) (f:=putB pg) hnd (fun _=>rfl) m with h3 | ⟨u,hu,e1,e2,e3⟩
   ·exact h3
   ·exact absurd e2 e
theorem PuA.run {cur N:Int→PgS} {lsn:Int} {S S2:StM} {l:List Int} {er:Int} (h:PuA cur N lsn S l S2 er):∀ {c:Nat},SOk S c→(∀ n∈l,rightP (setL lsn (N n)))→er=0→S2.L=S.L∧S2.frm=S.frm∧S2.im=S.im∧S2.D.pgs.length=S.D.pgs.length∧(∀ m:Int,0≤m→curF S2 m=if m∈l then setL lsn (N m) else curF S m)∧∀ m,(S2.told m).getD false=if m∈l∧(cur m).1≠0∧(N m).1=0 then false else (S.told m).getD false:=by
 induction h with
 | nil S=>intro c _ _ _; exact ⟨rfl,rfl,rfl,rfl,fun m _=>by simp,fun m=>by simp⟩
 | bad hp h he=>intro c _ _ h0; exact absurd h0 he
 | cons hp h hr ih=>
   rename_i S S1 S2 n er l pg
   intro c hok hri h0
   have hokx:SOk (if (cur n).1≠0∧(N n).1=0 then toldS S n false else S) (c+1):=by
    split
    ·exact hok.told n false
    ·exact hok.mono (by omega)
   obtain ⟨a1,a2,a3,a4,a5,a6⟩:=PutR.cur hokx h
   have hok1:=hokx.put (by rw [hp]; exact hri n (by simp)) h
   obtain ⟨b1,b2,b3,b5,b6,b7⟩:=ih hok1 (fun m hm=>hri m (by simp [hm])) h0
   have e1:∀ X:StM→Prop,X S→X (toldS S n false)→X (if (cur n).1≠0∧(N n).1=0 then toldS S n false else S):=fun X h1 h2=>by split<;>assumption
   refine ⟨b1.trans (a1.trans (e1 (fun Z=>Z.L=S.L) rfl rfl)),b2.trans (a2.trans (e1 (fun Z=>Z.frm=S.frm) rfl rfl)),b3.trans (a3.trans (e1 (fun Z=>Z.im=S.im) rfl rfl)),b5.trans (a5.trans (e1 (fun Z=>Z.D.pgs.length=S.D.pgs.length) rfl rfl)),fun m hm=>?_,fun m=>?_⟩
   ·rw [b6 m hm,a6 m hm,hp,e1 (fun Z=>curF Z m=curF S m) rfl rfl]
    by_cases h1:m∈l
    ·rw [if_pos h1,if_pos (by simp [h1])]
    ·rw [if_neg h1]
     by_cases h2:m=n
     ·subst h2; rw [if_pos rfl,if_pos (by simp)]
     ·rw [if_neg h2,if_neg (by simp [h1,h2])]
   ·rw [b7 m,a4]
    by_cases h1:m∈l∧(cur m).1≠0∧(N m).1=0
    ·rw [if_pos h1,if_pos ⟨by simp [h1.1],h1.2⟩]
    ·rw [if_neg h1]
     by_cases h2:m=n
     ·subst h2
      by_cases h3:(cur m).1≠0∧(N m).1=0
      ·rw [if_pos h3,if_pos ⟨by simp,h3⟩]
       show (putX S.told m (some false) m).getD false=false
       rw [putX,if_pos rfl]; rfl
      ·rw [if_neg h3,if_neg (fun h=>h3 h.2)]
     ·have h4:¬ (m∈n::l∧(cur m).1≠0∧(N m).1=0):=fun h=>h1 ⟨(List.mem_cons.1 h.1).elim (fun h=>absurd h h2) id,h.2⟩
      rw [if_neg h4]
      exact e1 (fun Z=>(Z.told m).getD false=(S.told m).getD false) rfl (by show (putX S.told n (some false) m).getD false= _; rw [putX,if_neg h2])
end
section
open Go.RowKit
theorem not_da {r:RecM}:¬ DoA r↔(recR r=false∨r.kind=8∨r.kind=9):=by
 unfold DoA
 constructor
 ·intro h
  cases hr:recR r
  ·exact .inl rfl
  ·rw [hr] at h
   by_cases h8:r.kind=8
   ·exact .inr (.inl h8)
   ·exact .inr (.inr (Classical.byContradiction fun h9=>h ⟨rfl,h8,h9⟩))
 ·rintro (h | h | h) ⟨a,b,c⟩
  ·rw [h] at a; cases a
  ·exact b h
  ·exact c h
section
variable {pages:Nat} {L:List RecM} {r:RecM} {told:Int→Bool}
theorem rfE_1 (h:¬ DoA r):rfE pages L r=1:=if_pos (not_da.1 h)
theorem da_not (h:DoA r):¬ (recR r=false∨r.kind=8∨r.kind=9):=fun h1=>not_da.2 h1 h
theorem rfE_22 (h:DoA r) (h1:r.eds.any (outR pages)=true):rfE pages L r=22:=by rw [rfE,if_neg (da_not h),if_pos h1]
theorem rfE_e (h:DoA r) (h1:r.eds.any (outR pages)=false) (h2:errF (contF L) r.eds≠0):rfE pages L r=errF (contF L) r.eds:=by rw [rfE,if_neg (da_not h),if_neg (by rw [h1]; decide),if_pos h2]
theorem rfE_31 (h:DoA r) (h1:r.eds.any (outR pages)=false) (h2:errF (contF L) r.eds=0) (h3:1048576 < szF L+((frameR r).size+szF (imgsL L (ordF r.eds)))):rfE pages L r=31:=by rw [rfE,if_neg (da_not h),if_neg (by rw [h1]; decide),if_neg (by rw [h2]; simp),if_pos h3]
theorem rfE_0 (h:DoA r) (h1:r.eds.any (outR pages)=false) (h2:errF (contF L) r.eds=0) (h3:szF L+((frameR r).size+szF (imgsL L (ordF r.eds)))≤1048576):rfE pages L r=0:=by rw [rfE,if_neg (da_not h),if_neg (by rw [h1]; decide),if_neg (by rw [h2]; simp),if_neg (by omega)]
theorem rfD_no {e:Int} (h:rfE pages L r=e) (h0:e≠0):rfD pages L told r=(L,0,e,told):=by rw [rfD,if_neg (by rw [h]; exact h0),h]
theorem rfD_ok (h:rfE pages L r=0):rfD pages L told r=(rfL L r,((rfL L r).length:Int),0,rfT told L r):=if_pos h
end
/-- an operation's error that leaves the power off is 24 -/
theorem clean_24 {S:StM} {c:Nat} (h:SOk S c) {t:BfT} (ht:t∈S.pool) (he:(cleanF S t).2≠0):(cleanF S t).2=24:=by
 unfold cleanF at he ⊢
 split at he
 ·rename_i hd
  rw [if_pos hd]
  unfold writeF at he ⊢
  have hw:(wrD0 S t).2=0∨(wrD0 S t).2=24:=by
   unfold wrD0
   split
   ·rcases fl_cases S.D with ⟨_,e⟩ | ⟨_, _,e⟩ | ⟨_,e⟩<;>rw [e]<;>simp
   ·exact .inl rfl
  split at he
  ·rename_i h1
   rw [if_pos h1]
   exact hw.resolve_left h1
  ·rename_i h1
   rw [if_neg h1]
   have hn:0≤t.n∧t.n < (((wrD0 S t).1.pgs.length:Nat):Int):=by
    have hl:(wrD0 S t).1.pgs.length=S.D.pgs.length:=by
     unfold wrD0
     split
     ·exact opD_ind (P:=fun D'=>D'.pgs.length=S.D.pgs.length) rfl rfl fun _=>rfl
     ·rfl
    rw [hl]; exact h.keys t ht
   dsimp only at he ⊢
   rcases wr_cases2 (wrD0 S t).1 t.n (bytesP t.pg.p) hn (bytesP_size (h.right t ht)) with ⟨_,e⟩ | ⟨_, _,e⟩ | ⟨_,e⟩
   ·rw [e]
   ·rw [e]
   ·rw [e] at he; exact absurd rfl he
 ·exact absurd rfl he
theorem LdR.e24 {S S':StM} {c:Nat} {n er:Int} (h:SOk S c) (hn:0≤n∧n < (S.D.pgs.length:Int)) (hl:LdR S n S' er) (he:er≠0):er=24∧S'.D.off=true:=by
 have ho:=((Ev.load h hl).2.1 he).resolve_right (fun h1=>h1 hn)
 refine ⟨?_,ho⟩
 cases hl with
 | hit t ht hn=>exact absurd rfl he
 | bad h1 h2=>
   unfold rdS at he ⊢
   split
   ·rfl
   ·rename_i h3; rw [if_neg h3,if_pos hn] at he; exact absurd rfl he
 | new t blk A cc h1 h2 h3=>
   unfold loadN at he ⊢
   split
   ·rename_i h4
    unfold evictF at h4 ⊢
    split
    ·rename_i h5
     rw [if_pos h5] at h4
     split
     ·rename_i h6
      exact clean_24 h.tick (h3 h5) h6
     ·rename_i h6
      rw [if_neg h6] at h4
      exact absurd rfl h4
    ·rename_i h5; rw [if_neg h5] at h4; exact absurd rfl h4
   ·rename_i h4; rw [if_neg h4] at he; exact absurd rfl he
theorem PutR.e24 {S S':StM} {c:Nat} {n er:Int} {pg:PgR} (h:SOk S c) (hn:0≤n∧n < (S.D.pgs.length:Int)) (hl:PutR S n pg S' er) (he:er≠0):er=24∧S'.D.off=true:=by
 obtain ⟨S1,h1,⟨_,rfl⟩ | ⟨h2, _⟩⟩:=hl
 ·exact h1.e24 h hn he
 ·exact absurd h2 he
theorem PuA.e24 {cur N:Int→PgS} {lsn:Int} {S S2:StM} {l:List Int} {er:Int} (h:PuA cur N lsn S l S2 er):∀ {c:Nat},SOk S c→(∀ n∈l,rightP (setL lsn (N n)))→(∀ n∈l,0≤n∧n < (S.D.pgs.length:Int))→er≠0→er=24∧S2.D.off=true:=by
 induction h with
 | nil S=>intro c _ _ _ h0; exact absurd rfl h0
 | bad hp h he=>
   rename_i S S2 n er l pg
   intro c hok hri hr _
   refine PutR.e24 (S:=if (cur n).1≠0∧(N n).1=0 then toldS S n false else S) (c:=c+1) ?_ ?_ h he
   ·split
    ·exact hok.told n false
    ·exact hok.mono (by omega)
   ·have:=hr n (by simp)
    split<;>exact this
 | cons hp h hr ih=>
   rename_i S S1 S2 n er l pg
   intro c hok hri hg h0
   have hokx:SOk (if (cur n).1≠0∧(N n).1=0 then toldS S n false else S) (c+1):=by
    split
    ·exact hok.told n false
    ·exact hok.mono (by omega)
   have hl:S1.D.pgs.length=S.D.pgs.length:=(PutR.cur hokx h).2.2.2.2.1.trans (by split<;>rfl)
   exact ih (hokx.put (by rw [hp]; exact hri n (by simp)) h) (fun m hm=>hri m (by simp [hm])) (fun m hm=>by rw [hl]; exact hg m (by simp [hm])) h0
/-- what holds behind Do: power gone, or as the reference says -/
def DoW (S:StM) (told:Int→Bool) (r:RecM) (S2:StM) (n er:Int):Prop:=
 (S2.D.off=true∧(er=24∨er=rfE S.D.pgs.length S.L r))∨(S2.D.off=false∧n=(rfD S.D.pgs.length S.L told r).2.1∧er=rfE S.D.pgs.length S.L r∧S2.L=(rfD S.D.pgs.length S.L told r).1∧S2.D.pgs.length=S.D.pgs.length∧WI S2 (rfD S.D.pgs.length S.L told r).2.2.2)
theorem DoW.no {S S2:StM} {told:Int→Bool} {r:RecM} {er:Int} (hw:WI S told) (hev:Ev S S2) (he:rfE S.D.pgs.length S.L r=er) (h0:er≠0):DoW S told r S2 0 er:=by
 rcases Bool.eq_false_or_eq_true S2.D.off with ho | ho
 ·exact .inl ⟨ho, .inr he.symm⟩
 ·refine .inr ⟨ho,?_,he.symm,?_,hev.len,?_⟩<;>rw [rfD_no he h0]
  ·exact hev.L
  ·exact hev.wi hw
theorem DoQ.run {S S2:StM} {told:Int→Bool} {r:RecM} {n er:Int} {c:Nat} (hok:SOk S c) (hw:WI S told) (h:DoQ S r S2 n er):DoW S told r S2 n er:=by
 have hcur:r.eds.any (outR S.D.pgs.length)=false→∀ e∈r.eds,curF S e.1=contF S.L e.1:=fun hp e he=>hw.cur _ (out_in hp he).1 (out_in hp he).2
 have hos:r.eds.any (outR S.D.pgs.length)=false→∀ n∈ordF r.eds,0≤n∧n < (S.D.pgs.length:Int):=fun hp n hn=>by obtain ⟨e,he,rfl⟩:=ord_mem.1 hn; exact out_in hp he
 have herr:r.eds.any (outR S.D.pgs.length)=false→errF (curF S) r.eds=errF (contF S.L) r.eds:=fun hp=>errF_congr _ _ _ (hcur hp)
 have hims:r.eds.any (outR S.D.pgs.length)=false→imgsF S (ordF r.eds)=imgsL S.L (ordF r.eds):=fun hp=>by
  have e1:needF S (ordF r.eds)=(ordF r.eds).filter fun n=>!imgF S.L n:=List.filter_congr fun n hn=>by rw [hw.im n (hos hp n hn).1 (hos hp n hn).2]
  rw [imgsF,imgsL,e1]
  refine List.map_congr_left fun n hn=>?_
  have hn:=(List.mem_filter.1 hn).1
  rw [imgR,hw.cur n (hos hp n hn).1 (hos hp n hn).2]
 have hlz:S.D.log.size=szF S.L:=by rw [hok.log,logF_size]
 have hnz:r.eds.any (outR S.D.pgs.length)=false→needZ S r=szF S.L+((frameR r).size+szF (imgsL S.L (ordF r.eds))):=fun hp=>by rw [needZ,hims hp,hlz]
 cases h with
 | arg h=>exact DoW.no hw (Ev.refl S) (rfE_1 h) (by decide)
 | page h hp he=>exact DoW.no hw he (rfE_22 h hp) (by decide)
 | pow h hp he ho=>exact .inl ⟨ho, .inl rfl⟩
 | err h hp he h0=>exact DoW.no hw he (by rw [herr hp] at h0 ⊢; exact rfE_e h hp h0) h0
 | full h hp he h0 hf=>exact DoW.no hw he (rfE_31 h hp (by rw [← herr hp]; exact h0) (by rw [← hnz hp]; exact hf)) (by decide)
 | img h hp he hk h0 hf hi hn=>
   obtain ⟨k,o⟩:=hi.run
   rcases o.no hn with ⟨c1,c2⟩ | ⟨_,c2⟩
   ·exact .inl ⟨c2, .inl c1⟩
   ·exfalso
    rw [he.log] at c2
    rw [needZ] at hf; omega
 | app h hp he hk h0 hf hi hr hn=>
   rename_i S1 S2 rt
   obtain ⟨k,o⟩:=hi.run
   rcases ((appF_s S2 rt).no hn).2.2 with ⟨c1,c2⟩ | ⟨_, _,c2⟩
   ·exact .inl ⟨c2, .inl c1⟩
   ·exfalso
    rw [o.log,(o.ok rfl).1,List.take_length,he.log,hr] at c2
    rw [needZ] at hf; omega
 | put h hp he hk h0 hf hi hr ha hu=>
   rename_i S1 S3 rt
   obtain ⟨c1,hk⟩:=hk
   obtain ⟨k,o⟩:=hi.run
   obtain ⟨ok1, _⟩:=o.ok rfl
   have s:=appF_s S3 rt
   obtain ⟨s1,s2,s3⟩:=s.ok ha
   have hro:=hos hp
   have hokI:=hi.sok hk (fun x hx=>by obtain ⟨n,hn,rfl⟩:=List.mem_map.1 hx; exact img_right hok (hro n (need_mem hn)))
   have hok4:=hokI.append (rt:=rt) (by rw [hr]; exact h.1)
   have hlen4:(appF S3 rt).1.D.pgs.length=S.D.pgs.length:=by rw [s.pgs,o.pgs]; exact he.len
   have hL4:(appF S3 rt).1.L=rfL S.L r:=by
    show (appF S3 rt).1.recs.map RcT.r= _
    rw [s2,List.map_append]
    show S3.L++[rt.r]= _
    rw [o.L,ok1,List.take_length,he.L,hr,hims hp,rfL]
   have hro2:=hok.recs_len
   have hnl:=need_len S (ordF r.eds)
   have hol:=ord_len r.eds
   have hml:=(recR_ok h.1).many
   have hlsn:lsnF S r=((rfL S.L r).length:Int):=by
    rw [rfL,lsnF,← hims hp,imgsF,List.length_append,List.length_append,List.length_map]
    rw [List.length_map,List.length_singleton]; omega
   have hlb:0≤lsnF S r∧lsnF S r≤2147483647:=by unfold lsnF; omega
   have hri:∀ n∈ordF r.eds,rightP (setL (lsnF S r) (nowF (curF S) r.eds n)):=fun n _=>setL_right (now_right (fun m=>cur_right hok m) h0 n) hlb
   by_cases h00:er=0
   ·rcases Bool.eq_false_or_eq_true S2.D.off with ho | ho
    ·exact .inl ⟨ho, .inr (by rw [h00]; exact (rfE_0 h hp (by rw [← herr hp]; exact h0) (by rw [← hnz hp]; exact hf)).symm)⟩
    ·have hE:=rfE_0 h hp (by rw [← herr hp]; exact h0) (by rw [← hnz hp]; exact hf) (pages:=S.D.pgs.length) (L:=S.L)
     obtain ⟨a1,a2,a3,a4,a5,a6⟩:=hu.run hok4 hri h00
     have hL:=a1.trans hL4
     have hpl:=a4.trans hlen4
     refine .inr ⟨ho,?_,by rw [hE]; exact h00,by rw [rfD_ok hE]; exact hL,hpl,?_⟩
     ·rw [rfD_ok hE,if_pos h00]; exact hlsn
     ·rw [rfD_ok hE]
      have hie:=img_eds (L:=S.L) (os:=ordF r.eds)
      have hcI:contF (S.L++imgsL S.L (ordF r.eds))=contF S.L:=funext fun n=>contF_imgs (fun x hx=>(hie x hx).1) n
      have hb1:((S.L++imgsL S.L (ordF r.eds)).length:Int)+1=lsnF S r:=by rw [hlsn,rfL,List.length_append (bs:=[r])]; simp
      refine ⟨fun n n0 n1=>?_,fun n n0 n1=>?_,?_,fun n n0 n1=>?_⟩
      ·rw [hpl] at n1
       rw [a5 n n0,hL,rfL]
       by_cases hn:n∈ordF r.eds
       ·rw [if_pos hn,contF_do (by omega) (by rw [hcI,← herr hp]; exact h0) hn,hb1,hcI,nowF_congr r.eds n (curF S) (contF S.L) (hcur hp) (hw.cur n n0 n1)]
       ·rw [if_neg hn,contF_not hn,hcI,← hw.cur n n0 n1,← he.cur n n0,← o.cur n,curF,curF,s.pool,shP_eq s.pgs]
      ·rw [hpl] at n1
       rw [a3,s.im,o.im,he.im,hw.im n n0 n1,hL,rfL,imgF_snoc,if_neg h.2.2,imgF_imgs n S.L (fun x hx=>(hie x hx).2.1),ok1,List.take_length,hims hp]
       have:(r.kind==8)=false:=by simpa using h.2.1
       rw [this]; simp
      ·rw [a2,s.frm,o.frm,he.frm,hw.frm,hL,rfL,fromF_snoc,if_neg h.2.2,fromF_imgs _ (fun x hx=>by rw [(hie x hx).2.1]; decide)]
      ·rw [hpl] at n1
       show (S2.told n).getD false=if n∈ordF r.eds∧(contF S.L n).1≠0∧(nowF (contF S.L) r.eds n).1=0 then false else told n
       rw [a6 n,s.told,o.told,he.told,hw.told n n0 n1,hw.cur n n0 n1,nowF_congr r.eds n (curF S) (contF S.L) (hcur hp) (hw.cur n n0 n1)]
   ·obtain ⟨e1,e2⟩:=hu.e24 hok4 hri (fun n hn=>by rw [hlen4]; exact hro n hn) h00
    exact .inl ⟨e2, .inl e1⟩
end
section
open Go.RowKit
def bgD (n:Nat) (note:ByteArray):DkM:=⟨List.replicate n ⟨z5,[]⟩,frameR (chkR note),(frameR (chkR note)).size,false,false,decL (decL 0)⟩
theorem fmt_new (n:Nat) {note:ByteArray} (h:note.size≤60000):fmtF (newD n) note=(bgD n note,0):=by
 have hz:=fr_size (chk_right h)
 have e0:(⟨#[]⟩:ByteArray)++frameR (chkR note)=frameR (chkR note):=by apply bl_inj; rw [bl_append]; rfl
 have he:apE (newD n) (frameR (chkR note))=0:=by
  show (if 1048576 < ((0:Nat):Int)+ _ then (31:Int) else 0)=0
  rw [if_neg (by omega)]
 have h1:fmR (newD n) note=(⟨List.replicate n ⟨z5,[]⟩,frameR (chkR note),0,false,false,decL 0⟩,0):=by
  rw [fmR,he]
  show (apD (frameR (chkR note)) _,(0:Int))= _
  show (DkM.mk _ ((⟨#[]⟩:ByteArray)++frameR (chkR note)) _ _ _ _,(0:Int))= _
  rw [e0]; rfl
 rw [fmtF,if_neg (by rintro (h2 | h2); exact absurd h2 (Nat.lt_irrefl 0); omega),h1,if_neg (by exact (by decide:¬ (0:Int)≠0))]
 rfl
theorem ctf_chk (note:ByteArray) (m:Int):contF [chkR note] m=pgs0:=rfl
theorem sz_chk (note:ByteArray):szF [chkR note]=(frameR (chkR note)).size:=by simp [szF]
theorem log_chk (note:ByteArray):logF [chkR note]=frameR (chkR note):=by rw [logF,List.map_cons,List.map_nil,catS_cons,catS_nil,ap_nil]
/-- a store just begun -/
structure NewS (S:StM) (n:Nat) (note:ByteArray) (bufs:Int):Prop where
 D:S.D=bgD n note
 L:S.L=[chkR note]
 ok:SOk S 0
 wi:WI S (fun _=>false)
 bufs:S.bufs=bufs
theorem NewS.pgs {S:StM} {n:Nat} {note:ByteArray} {bufs:Int} (h:NewS S n note bufs):S.D.pgs.length=n:=by rw [h.D]; exact List.length_replicate ..
theorem z5_rd:rdP z5.1=pgs0:=rd_zero
theorem new_s {n:Nat} {note:ByteArray} {bufs:Int} (hn:n≤400) (hz:note.size≤60000) (hb:1≤bufs∧bufs≤64) {rs:List RcT} (hrs:rs.map RcT.r=[chkR note]):NewS (opnS (bgD n note) bufs rs 1) n note bufs:=by
 have hf:=fr_size (chk_right hz)
 refine ⟨rfl,hrs,?_,?_,rfl⟩
 ·refine SOk.opn hb ?_ (fun x hx=>?_) (fun r hr=>?_) ?_ ?_ (Nat.le_refl _)
  ·show (List.replicate n _).length≤ _; rw [List.length_replicate]; exact hn
  ·rw [List.eq_of_mem_replicate hx]; exact Nat.le_refl _
  ·rw [hrs] at hr; rw [List.mem_singleton.1 hr]; exact chk_right hz
  ·rw [hrs,log_chk]; rfl
  ·show (frameR (chkR note)).size≤ _; omega
 ·refine ⟨fun m h0 h1=>?_,fun m h0 h1=>?_,?_,fun m h0 h1=>rfl⟩
  ·show curF (opnS (bgD n note) bufs rs 1) m=contF (rs.map RcT.r) m
   rw [hrs,ctf_chk,curF_no (fun t ht=>by cases ht)]
   show rdP (rdT ((List.replicate n (⟨z5,[]⟩:ShD)).getD m.toNat shd0)).1= _
   have:(List.replicate n (⟨z5,[]⟩:ShD)).getD m.toNat shd0=shd0:=by
    rw [List.getD,List.getElem?_replicate]
    split<;>rfl
   rw [this]; exact z5_rd
  ·show _=imgF (rs.map RcT.r) m
   rw [hrs]; rfl
  ·show (1:Int)=(fromF (rs.map RcT.r):Int)
   rw [hrs]; rfl
theorem opn_new {n:Nat} {note:ByteArray} {bufs:Int} {R:StM ⊕ DkM} {er:Int} (hn:n≤400) (hz:note.size≤60000) (hb:1≤bufs∧bufs≤64) (h:OpnR (bgD n note) bufs [chkR note] R er):er=0∧∃ S,R= .inl S∧NewS S n note bufs:=by
 have hs:¬ szF [chkR note] < (bgD n note).log.size:=by rw [sz_chk]; exact Nat.lt_irrefl _
 have ho:opnD (bgD n note) [chkR note]=(bgD n note,0):=if_neg hs
 have hf:fromF [chkR note]=1:=rfl
 cases h with
 | bufs h1=>exact absurd hb h1
 | off _ h1=>cases h1
 | form _ _ h1=>rw [hf] at h1; cases h1
 | cut _ _ _ h1=>rw [ho] at h1; exact absurd rfl h1
 | bad _ _ _ _ rs hrs hr he=>
   rw [ho,hf] at hr
   cases hr with
   | nil=>exact absurd rfl he
 | ok _ _ _ _ rs hrs hr=>
   rw [ho,hf] at hr
   refine ⟨rfl, _,rfl,?_⟩
   cases hr with
   | nil=>exact new_s hn hz hb hrs
theorem St.opnN {w0 W:World} {bor:List Nat} {L:List Ent} {db n:Nat} {note:ByteArray} {bufs:Int} {v:Value} {er:Int} {fp:List Nat} (h:St w0 bor (L++[eOx db (bgD n note) bufs [chkR note] v er fp]) W) (hn:n≤400) (hz:note.size≤60000) (hb:1≤bufs∧bufs≤64):
  ∃ sb S,er=0∧v= .pointer (some ⟨sb,0,none⟩)∧NewS S n note bufs∧St w0 bor (L++[eSt sb db S fp]) W:=by
 obtain ⟨sb,R,h1,h2,h3⟩:=(h.ok (eOx db (bgD n note) bufs [chkR note] v er fp) (by simp)).holds
 obtain ⟨rfl,S,rfl,hS⟩:=opn_new hn hz hb h1
 exact ⟨sb,S,rfl,h2,hS,St.repl (L2:=[]) h rfl (fun _=>h3) (eSt_loc _ _ _ _)⟩
theorem FrR.off {S S2:StM} {n:Nat} {r:Int} (h:FrR S n S2 r):∀ {c:Nat},SOk S c→S.D.off=true→S2.D.off=true:=by
 induction h with
 | stop h=>intro c _ h; exact h
 | told h ht hr ih=>intro c hok ho; exact ih hok ho
 | no h ht hp hk hr ih=>intro c hok ho; exact ih (hp.ok hok) ((hp.ev hok).1.off ho)
 | yes h ht hp hk=>intro c hok ho; exact (hp.ev hok).1.off ho
/-- the page that Fresh names, from page n on: none, or the lowest -/
def FrW (S:StM) (told:Int→Bool) (n:Nat) (S2:StM) (r:Int):Prop:=
 (r= -1∧(∀ m:Nat,n≤m→m < S.D.pgs.length→told (m:Int)=true∨(contF S.L (m:Int)).1≠0)∧WI S2 told)∨
 (∃ k:Nat,r=(k:Int)∧n≤k∧k < S.D.pgs.length∧told (k:Int)=false∧(contF S.L (k:Int)).1=0∧(∀ m:Nat,n≤m→m < k→told (m:Int)=true∨(contF S.L (m:Int)).1≠0)∧WI S2 (fun x=>if x=(k:Int) then true else told x))
theorem FrR.run {S S2:StM} {n:Nat} {r:Int} (h:FrR S n S2 r):∀ {c:Nat} {told:Int→Bool},SOk S c→WI S told→S2.D.off=true∨(S2.D.pgs.length=S.D.pgs.length∧S2.L=S.L∧FrW S told n S2 r):=by
 induction h with
 | stop h=>intro c told hok hw; exact .inr ⟨rfl,rfl, .inl ⟨rfl,fun m h1 h2=>by omega,hw⟩⟩
 | told h ht hr ih=>
   rename_i S S2 n r
   intro c told hok hw
   have h0:told (n:Int)=true:=by rw [← hw.told (n:Int) (by omega) (by omega)]; exact ht
   refine (ih hok hw).imp id fun ⟨a,b,h⟩=>⟨a,b,?_⟩
   rcases h with ⟨e,h1,h2⟩ | ⟨k,e,k1,k2,k3,k4,k5,k6⟩
   ·exact .inl ⟨e,fun m m1 m2=>by
     rcases Nat.eq_or_lt_of_le m1 with rfl | m1
     ·exact .inl h0
     ·exact h1 m m1 m2,h2⟩
   ·exact .inr ⟨k,e,by omega,k2,k3,k4,fun m m1 m2=>by
     rcases Nat.eq_or_lt_of_le m1 with rfl | m1
     ·exact .inl h0
     ·exact k5 m m1 m2,k6⟩
 | no h ht hp hk hr ih=>
   rename_i S S1 S2 n r ok
   intro c told hok hw
   obtain ⟨ev,hno, _⟩:=hp.ev hok
   have hok1:=hp.ok hok
   cases hk1:ok with
   | false=>
     refine .inl (hr.off hok1 ((hno hk1).resolve_right (fun h1=>h1 (by omega))))
   | true=>
     have hk0:(contF S.L (n:Int)).1≠0:=by rw [← hw.cur (n:Int) (by omega) (by omega)]; exact fun h0=>hk ⟨hk1,h0⟩
     refine (ih hok1 (ev.wi hw)).imp id fun ⟨a,b,h⟩=>⟨a.trans ev.len,b.trans ev.L,?_⟩
     have eL:=ev.L
     have el:=ev.len
     rcases h with ⟨e,h1,h2⟩ | ⟨k,e,k1,k2,k3,k4,k5,k6⟩
     ·exact .inl ⟨e,fun m m1 m2=>by
       rcases Nat.eq_or_lt_of_le m1 with rfl | m1
       ·exact .inr hk0
       ·rw [← eL]; exact h1 m m1 (by omega),h2⟩
     ·exact .inr ⟨k,e,by omega,by omega,k3,by rw [← eL]; exact k4,fun m m1 m2=>by
       rcases Nat.eq_or_lt_of_le m1 with rfl | m1
       ·exact .inr hk0
       ·rw [← eL]; exact k5 m m1 m2,k6⟩
 | yes h ht hp hk=>
   rename_i S S1 n
   intro c told hok hw
   obtain ⟨ev, _, _⟩:=hp.ev hok
   have hw1:=ev.wi hw
   refine .inr ⟨ev.len,ev.L, .inr ⟨n,rfl,Nat.le_refl _,h,by rw [← hw.told (n:Int) (by omega) (by omega)]; exact ht,by rw [← hw.cur (n:Int) (by omega) (by omega)]; exact hk,fun m m1 m2=>by omega,⟨hw1.cur,hw1.im,hw1.frm,fun m m0 m1=>?_⟩⟩⟩
   show (putX S1.told (n:Int) (some true) m).getD false= _
   unfold putX
   split
   ·rfl
   ·exact hw1.told m m0 m1
theorem FrR.sok {S S2:StM} {n:Nat} {r:Int} (h:FrR S n S2 r):∀ {c:Nat},SOk S c→SOk S2 (c+3*(S.D.pgs.length - n)+1):=by
 induction h with
 | stop h=>intro c hok; exact hok.mono (by omega)
 | told h ht hr ih=>intro c hok; exact (ih hok).mono (by omega)
 | no h ht hp hk hr ih=>
   intro c hok
   have h1:=ih (hp.ok hok)
   rw [(hp.ev hok).1.len] at h1
   exact h1.mono (by omega)
 | yes h ht hp hk=>intro c hok; exact ((hp.ok hok).told _ true).mono (by omega)
end
section
open Go.RowKit
theorem PutR.noarm {S S2:StM} {c:Nat} {n er:Int} {pg:PgR} (h:SOk S c) (hp:PutR S n pg S2 er) (ha:S.D.armed=false):S2.D.off=S.D.off∧S2.D.armed=false:=by
 obtain ⟨S1,h1,h2⟩:=hp
 have ev:=(Ev.load h h1).1
 have hD:S2.D=S1.D:=by
  rcases h2 with ⟨_,rfl⟩ | ⟨_, _,rfl⟩<;>rfl
 rw [hD]
 exact ⟨ev.noarm ha,ev.armed.trans ha⟩
theorem PuA.noarm {cur N:Int→PgS} {lsn:Int} {S S2:StM} {l:List Int} {er:Int} (h:PuA cur N lsn S l S2 er):∀ {c:Nat},SOk S c→(∀ n∈l,rightP (setL lsn (N n)))→S.D.armed=false→S2.D.off=S.D.off∧S2.D.armed=false:=by
 induction h with
 | nil S=>intro c _ _ h; exact ⟨rfl,h⟩
 | bad hp h he=>
   rename_i S S2 n er l pg
   intro c hok hri ha
   have hokx:SOk (if (cur n).1≠0∧(N n).1=0 then toldS S n false else S) (c+1):=by
    split
    ·exact hok.told n false
    ·exact hok.mono (by omega)
   have e:(if (cur n).1≠0∧(N n).1=0 then toldS S n false else S).D=S.D:=by split<;>rfl
   have:=h.noarm hokx (by rw [e]; exact ha)
   rw [e] at this; exact this
 | cons hp h hr ih=>
   rename_i S S1 S2 n er l pg
   intro c hok hri ha
   have hokx:SOk (if (cur n).1≠0∧(N n).1=0 then toldS S n false else S) (c+1):=by
    split
    ·exact hok.told n false
    ·exact hok.mono (by omega)
   have e:(if (cur n).1≠0∧(N n).1=0 then toldS S n false else S).D=S.D:=by split<;>rfl
   obtain ⟨a,b⟩:=h.noarm hokx (by rw [e]; exact ha)
   rw [e] at a
   obtain ⟨a2,b2⟩:=ih (hokx.put (by rw [hp]; exact hri n (by simp)) h) (fun m hm=>hri m (by simp [hm])) b
   exact ⟨a2.trans a,b2⟩
theorem DoQ.noarm {S S2:StM} {r:RecM} {n er:Int} {c:Nat} (hok:SOk S c) (h:DoQ S r S2 n er) (ha:S.D.armed=false):S2.D.off=S.D.off∧S2.D.armed=false:=by
 have hev:∀ S':StM,Ev S S'→S'.D.off=S.D.off∧S'.D.armed=false:=fun S' ev=>⟨ev.noarm ha,ev.armed.trans ha⟩
 cases h with
 | arg h=>exact ⟨rfl,ha⟩
 | page h hp he=>exact hev _ he
 | pow h hp he ho=>exact hev _ he
 | err h hp he h0=>exact hev _ he
 | full h hp he h0 hf=>exact hev _ he
 | img h hp he hk h0 hf hi hn=>
   obtain ⟨k,o⟩:=hi.run
   obtain ⟨a,b⟩:=hev _ he
   exact ⟨(o.noarm b).trans a,o.armed.trans b⟩
 | app h hp he hk h0 hf hi hr hn=>
   rename_i S1 S2 rt
   obtain ⟨k,o⟩:=hi.run
   obtain ⟨a,b⟩:=hev _ he
   have s:=appF_s S2 rt
   have b2:=o.armed.trans b
   exact ⟨(s.noarm b2).trans ((o.noarm b).trans a),s.armed.trans b2⟩
 | put h hp he hk h0 hf hi hr ha2 hu=>
   rename_i S1 S3 rt
   obtain ⟨c1,hk⟩:=hk
   obtain ⟨k,o⟩:=hi.run
   obtain ⟨a,b⟩:=hev _ he
   have s:=appF_s S3 rt
   have b2:=o.armed.trans b
   have hro:∀ n∈ordF r.eds,0≤n∧n < (S.D.pgs.length:Int):=fun n hn=>by obtain ⟨e,he,rfl⟩:=ord_mem.1 hn; exact out_in hp he
   have hokI:=hi.sok hk (fun x hx=>by obtain ⟨n,hn,rfl⟩:=List.mem_map.1 hx; exact img_right hok (hro n (need_mem hn)))
   have hok4:=hokI.append (rt:=rt) (by rw [hr]; exact h.1)
   have hlb:0≤lsnF S r∧lsnF S r≤2147483647:=by
    have h1:=hok.recs_len
    have h2:=need_len S (ordF r.eds)
    have h3:=ord_len r.eds
    have h4:=(recR_ok h.1).many
    unfold lsnF; omega
   obtain ⟨a3,b3⟩:=hu.noarm hok4 (fun n _=>setL_right (now_right (fun m=>cur_right hok m) h0 n) hlb) (s.armed.trans b2)
   exact ⟨a3.trans ((s.noarm b2).trans ((o.noarm b).trans a)),b3⟩
/-- a store whose power is on and stays on; its log, the pages told, the number of pages -/
structure Nice (S:StM) (L:List RecM) (told:Int→Bool) (p c:Nat):Prop where
 ok:SOk S c
 wi:WI S told
 on:S.D.off=false
 ar:S.D.armed=false
 eL:S.L=L
 ep:S.D.pgs.length=p
theorem Ev.nice {S S':StM} {L:List RecM} {told:Int→Bool} {p c c':Nat} (h:Ev S S') (ho:SOk S' c') (hn:Nice S L told p c):Nice S' L told p c':=
 ⟨ho,h.wi hn.wi,(h.noarm hn.ar).trans hn.on,h.armed.trans hn.ar,h.L.trans hn.eL,h.len.trans hn.ep⟩
theorem NewS.nice {S:StM} {n:Nat} {note:ByteArray} {bufs:Int} (h:NewS S n note bufs):Nice S [chkR note] (fun _=>false) n 0:=⟨h.ok,h.wi,by rw [h.D]; rfl,by rw [h.D]; rfl,h.L,h.pgs⟩
theorem Nice.do {S S2:StM} {L:List RecM} {told:Int→Bool} {p c c':Nat} {r:RecM} {n er:Int} (h:Nice S L told p c) (hq:DoQ S r S2 n er) (ho:SOk S2 c'):n=(rfD p L told r).2.1∧er=rfE p L r∧Nice S2 (rfD p L told r).1 (rfD p L told r).2.2.2 p c':=by
 obtain ⟨a,b⟩:=hq.noarm h.ok h.ar
 have e1:=h.eL
 have e2:=h.ep
 rcases hq.run h.ok h.wi with ⟨h1, _⟩ | ⟨h1,h2,h3,h4,h5,h6⟩
 ·rw [a,h.on] at h1; cases h1
 ·rw [e1,e2] at h2 h3 h4 h6
  exact ⟨h2,h3,⟨ho,h6,h1,b,h4,h5.trans e2⟩⟩
theorem Nice.page {S S2:StM} {L:List RecM} {told:Int→Bool} {p c:Nat} {n:Int} {ok:Bool} (h:Nice S L told p c) (hq:PaQ S n S2 ok):ok=decide (0≤n∧n < (p:Int))∧pgF S n ok=(if 0≤n∧n < (p:Int) then contF L n else pgs0)∧Nice S2 L told p (c+3):=by
 obtain ⟨ev,h1,h2⟩:=hq.ev h.ok
 have hS2:=ev.nice (hq.ok h.ok) h
 rw [h.ep] at h1 h2
 cases ok with
 | true=>
   have h3:=h2 rfl
   refine ⟨(decide_eq_true h3).symm,?_,hS2⟩
   rw [if_pos h3,pgF,if_pos rfl,h.wi.cur n h3.1 (by rw [h.ep]; exact h3.2),h.eL]
 | false=>
   rcases h1 rfl with h3 | h3
   ·rw [hS2.on] at h3; cases h3
   ·exact ⟨(decide_eq_false h3).symm,by rw [if_neg h3]; rfl,hS2⟩
/-- the page that Fresh names -/
def frO (p:Nat) (L:List RecM) (told:Int→Bool):Option Nat:=(List.range p).find? fun k=>!told (k:Int)&&(contF L (k:Int)).1==0
def frF (p:Nat) (L:List RecM) (told:Int→Bool):Int:=match frO p L told with | some k=>(k:Int) | none=> -1
def frT (p:Nat) (L:List RecM) (told:Int→Bool):Int→Bool:=match frO p L told with | some k=>fun x=>if x=(k:Int) then true else told x | none=>told
theorem frO_none {p:Nat} {L:List RecM} {told:Int→Bool} (h:∀ m:Nat,0≤m→m < p→told (m:Int)=true∨(contF L (m:Int)).1≠0):frO p L told=none:=by
 rw [frO,List.find?_eq_none]
 intro k hk
 rcases h k (Nat.zero_le _) (List.mem_range.1 hk) with h1 | h1<;>simp [h1]
theorem frO_some {p k:Nat} {L:List RecM} {told:Int→Bool} (hk:k < p) (h1:told (k:Int)=false) (h2:(contF L (k:Int)).1=0) (h:∀ m:Nat,0≤m→m < k→told (m:Int)=true∨(contF L (m:Int)).1≠0):frO p L told=some k:=by
 have e:List.range p=List.range k++k::(List.range' (k+1) (p - k - 1)):=by
  have h3:p=k+(1+(p - k - 1)):=by omega
  conv=>lhs; rw [h3,List.range_eq_range',← List.range'_append_1 (s:=0) (m:=k)]
  rw [List.range_eq_range',Nat.zero_add]
  congr 1
  rw [Nat.add_comm 1,List.range'_succ]
 rw [frO,e,List.find?_append,List.find?_eq_none.2 (fun m hm=>by rcases h m (Nat.zero_le _) (List.mem_range.1 hm) with h1 | h1<;>simp [h1])]
 simp [h1,h2]
theorem Nice.fresh {S S2:StM} {L:List RecM} {told:Int→Bool} {p c:Nat} {r:Int} (h:Nice S L told p c) (hq:FrR S 0 S2 r):r=frF p L told∧Nice S2 L (frT p L told) p (c+3*p+1):=by
 have ho:=hq.sok h.ok
 rw [h.ep,Nat.sub_zero] at ho
 have hno:S2.D.off=S.D.off∧S2.D.armed=false:=by
  have hk:∀ {S S2:StM} {n:Nat} {r:Int},FrR S n S2 r→∀ {c:Nat},SOk S c→S.D.armed=false→S2.D.off=S.D.off∧S2.D.armed=false:=by
   intro S S2 n r h
   induction h with
   | stop h=>intro c _ ha; exact ⟨rfl,ha⟩
   | told h ht hr ih=>intro c hok ha; exact ih hok ha
   | no h ht hp hk hr ih=>
     intro c hok ha
     obtain ⟨ev, _, _⟩:=hp.ev hok
     obtain ⟨a,b⟩:=ih (hp.ok hok) (ev.armed.trans ha)
     exact ⟨a.trans (ev.noarm ha),b⟩
   | yes h ht hp hk=>intro c hok ha; have ev:=(hp.ev hok).1; exact ⟨ev.noarm ha,ev.armed.trans ha⟩
  exact hk hq h.ok h.ar
 rcases hq.run h.ok h.wi with h1 | ⟨h1,h2,h3⟩
 ·rw [hno.1,h.on] at h1; cases h1
 ·have e1:=h.ep
  have e2:=h.eL
  rcases h3 with ⟨rfl,a,b⟩ | ⟨k,rfl,k1,k2,k3,k4,k5,k6⟩
  ·have e:=frO_none (p:=p) (L:=L) (told:=told) (fun m m1 m2=>by rw [← e2]; exact a m m1 (by omega))
   refine ⟨by rw [frF,e],?_⟩
   rw [frT,e]
   exact ⟨ho,b,hno.1.trans h.on,hno.2,h2.trans e2,h1.trans e1⟩
  ·have e:=frO_some (p:=p) (L:=L) (told:=told) (by omega) k3 (by rw [← e2]; exact k4) (fun m m1 m2=>by rw [← e2]; exact k5 m m1 m2)
   refine ⟨by rw [frF,e],?_⟩
   rw [frT,e]
   exact ⟨ho,k6,hno.1.trans h.on,hno.2,h2.trans e2,h1.trans e1⟩
end
section
open Go.RowKit
theorem Nice.rr {S:StM} {L:List RecM} {told:Int→Bool} {p c:Nat} (h:Nice S L told p c) (q:List RcT):Nice {S with rr:=q} L told p c:=⟨h.ok.rr q,⟨h.wi.cur,h.wi.im,h.wi.frm,h.wi.told⟩,h.on,h.ar,h.eL,h.ep⟩
theorem ClA.run {S S2:StM} {l:List Int} {er:Int} (h:ClA S l S2 er):∀ {c:Nat},SOk S c→Ev S S2∧SOk S2 (c+l.length)∧(er≠0→S2.D.off=true):=by
 induction h with
 | nil S=>intro c h; exact ⟨Ev.refl S,h,fun h=>absurd rfl h⟩
 | bad ht he=>
   intro c h
   obtain ⟨a,b⟩:=Ev.clean h ht
   exact ⟨a,(h.clean _ ht).mono (by simp only [List.length_cons]; omega),b⟩
 | cons ht he hr ih=>
   intro c h
   obtain ⟨a, _⟩:=Ev.clean h ht
   obtain ⟨a2,b2,d2⟩:=ih (h.clean _ ht)
   exact ⟨a.trans a2 h.fl,b2.mono (by simp only [List.length_cons]; omega),d2⟩
theorem shP_sync {D:DkM} (n:Int):shP (opD D 0 syD).1 n=shP D n:=opD_ind (P:=fun D'=>shP D' n=shP D n) rfl rfl fun _=>by
 show rdP (rdT ((D.pgs.map syS).getD n.toNat shd0)).1= _
 have e:(D.pgs.map syS).getD n.toNat shd0=syS (D.pgs.getD n.toNat shd0):=by
  rw [List.getD,List.getD,List.getElem?_map]
  cases D.pgs[n.toNat]? <;>rfl
 rw [e]; rfl
theorem cur_sync (S:StM) (n:Int):curF (setD S (opD S.D 0 syD).1) n=curF S n:=by
 show (match S.pool.find? (fun t=>t.n==n) with | some t=>t.pg.p | none=>shP (opD S.D 0 syD).1 n)=curF S n
 rw [shP_sync]; rfl
theorem Nice.sync {S:StM} {L:List RecM} {told:Int→Bool} {p c:Nat} (h:Nice S L told p c):(opD S.D 0 syD).2=0∧Nice (setD S (opD S.D 0 syD).1) L told p c:=by
 have hl:(opD S.D 0 syD).1.pgs.length=S.D.pgs.length:=opD_ind (P:=fun D'=>D'.pgs.length=S.D.pgs.length) rfl rfl fun _=>List.length_map ..
 rcases opD_cases S.D 0 syD with ⟨h1, _⟩ | ⟨_,h1, _⟩ | ⟨_, _,h1, _⟩ | ⟨_, _,e⟩
 ·rw [h.on] at h1; cases h1
 ·exact absurd rfl h1
 ·rw [h.ar] at h1; cases h1
 ·have hw:WI (setD S (opD S.D 0 syD).1) told:=⟨fun n n0 n1=>by
   rw [cur_sync]
   exact h.wi.cur n n0 (by rw [← hl]; exact n1),fun n n0 n1=>h.wi.im n n0 (by rw [← hl]; exact n1),h.wi.frm,fun n n0 n1=>h.wi.told n n0 (by rw [← hl]; exact n1)⟩
  refine ⟨by rw [e],⟨h.ok.sync,hw,?_,?_,h.eL,hl.trans h.ep⟩⟩
  ·show (opD S.D 0 syD).1.off=false
   rw [e]; exact h.on
  ·show (opD S.D 0 syD).1.armed=false
   rw [e]; exact h.ar
def ckrE (L:List RecM) (note:ByteArray):Int:=if 60000 < note.size then 1 else if 1048576 < szF L+(frameR (chkR note)).size then 31 else 0
def ckL (L:List RecM) (note:ByteArray):List RecM:=if ckrE L note=0 then L++[chkR note] else L
theorem Nice.app {S S2:StM} {L:List RecM} {told:Int→Bool} {p c:Nat} {note:ByteArray} (h:Nice S L told p c) (hn:note.size≤60000) (he:appF S (rcI (chkR note))=(S2,0)):SOk S2 c∧(∀ n:Int,0≤n→n < (p:Int)→curF S2 n=contF (L++[chkR note]) n)∧S2.D.off=false∧S2.D.armed=false∧S2.L=L++[chkR note]∧S2.D.pgs.length=p∧S2.told=S.told∧S2.recs.length=S.recs.length+1:=by
 have s:=appF_s S (rcI (chkR note))
 have hok:=h.ok.append (rt:=rcI (chkR note)) (chk_right hn)
 rw [he] at s hok
 obtain ⟨s1,s2,s3⟩:=s.ok rfl
 refine ⟨hok,fun n n0 n1=>?_,s1,s.armed.trans h.ar,?_,?_,s.told,?_⟩
 ·rw [contF_snoc]
  show curF S2 n=contF L n
  rw [curF,s.pool,shP_eq s.pgs,← h.eL,← h.wi.cur n n0 (by rw [h.ep]; exact n1)]; rfl
 ·show S2.recs.map RcT.r= _
  rw [s2,List.map_append,← h.eL]; rfl
 ·rw [s.pgs]; exact h.ep
 ·rw [s2]; simp
theorem Nice.check {S S2:StM} {L:List RecM} {told:Int→Bool} {p c c':Nat} {note:ByteArray} {er:Int} (h:Nice S L told p c) (hq:CkQ S note S2 er) (ho:SOk S2 c'):er=ckrE L note∧Nice S2 (ckL L note) told p c':=by
 have hlz:S.D.log.size=szF L:=by rw [h.ok.log,logF_size,h.eL]
 have hno:∀ e:Int,ckrE L note=e→e≠0→ckL L note=L:=fun e h1 h2=>if_neg (by rw [h1]; exact h2)
 have hcl:∀ {q:List RcT} {ns:List Int} {S1:StM} {e:Int},ClA {S with rr:=q} ns S1 e→Nice S1 L told p (c+ns.length)∧e=0:=fun {q ns S1 e} hc=>by
  obtain ⟨ev,ok,off⟩:=hc.run (h.rr q).ok
  have hN:=ev.nice ok (h.rr q)
  refine ⟨hN,Classical.byContradiction fun h1=>?_⟩
  have:=off h1
  rw [hN.on] at this; cases this
 cases hq with
 | arg h1=>
   have e:ckrE L note=1:=if_pos h1
   exact ⟨e.symm,by rw [hno 1 e (by decide)]; exact ⟨ho,h.wi,h.on,h.ar,h.eL,h.ep⟩⟩
 | full h1 hf=>
   have e:ckrE L note=31:=by rw [ckrE,if_neg (by omega),if_pos (by omega)]
   rw [hno 31 e (by decide)]
   exact ⟨e.symm,⟨ho,(h.rr _).wi,h.on,h.ar,h.eL,h.ep⟩⟩
 | cl h1 hf hns hc he=>exact absurd (hcl hc).2 he
 | sync h1 hf hns hc he=>exact absurd (hcl hc).1.sync.1 he
 | app h1 hf hns hc h3 he=>
   rename_i q ns S1
   have hN:=(hcl hc).1.sync.2
   exfalso
   rcases ((appF_s _ _).no he).2.2 with ⟨_,c1⟩ | ⟨_, _,c2⟩
   ·have:=(appF_s (setD S1 (opD S1.D 0 syD).1) (rcI (chkR note))).noarm hN.ar
    rw [this,hN.on] at c1; cases c1
   ·have:szF L+(frameR (chkR note)).size≤1048576:=by omega
    have h5:(setD S1 (opD S1.D 0 syD).1).D.log.size=szF L:=by rw [hN.ok.log,logF_size,hN.eL]
    rw [h5] at c2
    have h6:(frameR (rcI (chkR note)).r).size=(frameR (chkR note)).size:=rfl
    omega
 | flush h1 hf hns hc h3 h2 he=>
   rename_i q ns S1 S3
   have hN:=(hcl hc).1.sync.2
   obtain ⟨a1,a2,a3,a4,a5,a6,a7,a8⟩:=hN.app h1 h2
   exfalso
   rcases fl_cases S3.D with ⟨c1, _⟩ | ⟨_,c1, _⟩ | ⟨_,c1⟩
   ·rw [a3] at c1; cases c1
   ·rw [a4] at c1; cases c1
   ·rw [c1] at he; exact he rfl
 | ok h1 hf hns hc h3 h2 he=>
   rename_i q ns S1 S3
   have hN:=(hcl hc).1.sync.2
   obtain ⟨a1,a2,a3,a4,a5,a6,a7,a8⟩:=hN.app h1 h2
   have e:ckrE L note=0:=by rw [ckrE,if_neg (by omega),if_neg (by omega)]
   have eL:ckL L note=L++[chkR note]:=if_pos e
   refine ⟨e.symm,?_⟩
   rw [eL]
   have hp:(opD S3.D 0 flD).1.pgs=S3.D.pgs:=opD_ind (P:=fun D'=>D'.pgs=S3.D.pgs) rfl rfl fun _=>rfl
   have hoff:(opD S3.D 0 flD).1.off=false:=by rw [(opD_ok he).2.2]; exact a3
   have har:(opD S3.D 0 flD).1.armed=false:=by rw [(opD_ok he).2.2]; exact a4
   have hlen:(opD S3.D 0 flD).1.pgs.length=p:=by rw [hp]; exact a6
   refine ⟨ho,⟨fun n n0 n1=>?_,fun n n0 n1=>?_,?_,fun n n0 n1=>?_⟩,hoff,har,a5,hlen⟩
   ·have n1:n < ((opD S3.D 0 flD).1.pgs.length:Int):=n1
    rw [hlen] at n1
    show (match S3.pool.find? (fun t=>t.n==n) with | some t=>t.pg.p | none=>shP (opD S3.D 0 flD).1 n)=contF S3.L n
    rw [a5,← a2 n n0 n1,shP_eq hp]; rfl
   ·show false=imgF S3.L n
    rw [a5,imgF_snoc,if_pos (show (chkR note).kind=9 from rfl)]
   ·show (S3.recs.length:Int)=(fromF S3.L:Int)
    rw [a5,fromF_snoc,if_pos (show (chkR note).kind=9 from rfl),a8]
    have:(setD S1 (opD S1.D 0 syD).1).recs.length=L.length:=by rw [← hN.eL]; exact (List.length_map ..).symm
    rw [this]
   ·have n1:n < ((opD S3.D 0 flD).1.pgs.length:Int):=n1
    rw [hlen] at n1
    show (S3.told n).getD false=told n
    rw [a7]
    exact hN.wi.told n n0 (by rw [hN.ep]; exact n1)
end
section
open Go.RowKit
theorem rsum_any (s:ByteArray) (w:World) (hs:s.size≤9223372036854775807):
  Calls Tryz.prog 75 #[.string s] w (Ret1 (.int .u32 (sumF s)) w):=by
 go_enter Tryz.func75,Tryz.ntmps75
 go_wp2
 go_loop [3,4,5] (fun x y v=>∃ k:Nat,v= .int .i64 k∧k≤s.size∧x= .int .i64 (adl (s.data.toList.take k)).1∧y= .int .i64 (adl (s.data.toList.take k)).2) (fun _ _ v=>s.size - (intOf v).toNat)
 case atStart=>exact ⟨0,rfl,Nat.zero_le _,rfl,rfl⟩
 case round=>
  obtain ⟨k,rfl,hk,rfl,rfl⟩:=hrel
  have hlt:=adl_lt (s.data.toList.take k)
  rcases Nat.lt_or_ge k s.size with hk1 | hk1
  ·have HS:=Lib.hid (adl_snoc s k hk1)
   obtain ⟨a,ha⟩:∃ a,a=(adl (s.data.toList.take k)).1:=⟨_,rfl⟩
   obtain ⟨b,hb⟩:∃ b,b=(adl (s.data.toList.take k)).2:=⟨_,rfl⟩
   rw [← ha,← hb] at HS hlt ⊢
   obtain ⟨hlt1,hlt2⟩:=hlt
   have hcb:s[k].toNat < 256:=UInt8.toNat_lt _
   clear ha hb
   obtain ⟨c,hc⟩:∃ c:UInt8,c=s[k]:=⟨_,rfl⟩
   have HC:=Lib.hid hc
   have hk2:(k:Int) < (s.size:Int):=by omega
   have hk3:(0:Int)≤(k:Int):=by omega
   clear hc
   go_wp2
   go_round
   case rel=>exact ⟨k+1,by go_num,by omega,by rw [HS.out]; congr 1,by rw [HS.out]; congr 1⟩
   case measure=>simp [intOf]; omega
  ·obtain rfl:k=s.size:=by omega
   have e:s.data.toList.take s.size=s.data.toList:=List.take_of_length_le (by simp)
   rw [e] at hlt ⊢
   obtain ⟨a,ha⟩:∃ a,a=(adl s.data.toList).1:=⟨_,rfl⟩
   obtain ⟨b,hb⟩:∃ b,b=(adl s.data.toList).2:=⟨_,rfl⟩
   rw [← ha,← hb] at hlt ⊢
   obtain ⟨hlt1,hlt2⟩:=hlt
   have HF:=Lib.hid (show sumF s=b*65536+a by rw [sumF,← ha,← hb])
   clear e ha hb
   go_wp2
   go_ret
   exact Ret1.int (by rw [HF.out]; omega) (Ext.refl _)
def shN (N:Int) (k:Nat):Int:=N / 256 ^ k
theorem shN_0 (N:Int):shN N 0=N:=by simp [shN]
theorem shN_succ (N:Int) (k:Nat):(shN N k).fdiv (2 ^ 8)=shN N (k+1):=by
 rw [shN,shN,Int.fdiv_eq_ediv_of_nonneg _ (by decide),Int.pow_succ]
 exact Int.ediv_ediv_of_nonneg (Int.le_of_lt (Int.pow_pos (by decide)))
theorem putS_0 (N:Int):putS N 0=⟨#[]⟩:=rfl
theorem putS_succ (N:Int) {k:Nat} (h:k < 8):putS N (k+1)=strOfNums [shN N k % 256]++putS N k:=by
 apply bl_inj
 rw [bl_append]
 unfold putS bl
 rw [strOfNums_data,strOfNums_data,strOfNums_data,← List.map_append]
 congr 1
 have hu:IntKind.u64.wrap N=N % 18446744073709551616:=by rw [IntKind.wrap_u64]
 unfold oct8 shN
 rw [hu]
 rcases (by omega:k=0∨k=1∨k=2∨k=3∨k=4∨k=5∨k=6∨k=7) with rfl | rfl | rfl | rfl | rfl | rfl | rfl | rfl<;>
  simp only [Nat.reduceSub,Nat.reduceAdd,Int.reducePow,List.drop_succ_cons,List.drop_zero,List.cons_append,List.nil_append,List.cons.injEq,and_true]<;>omega
theorem ed_out {x sl:Int} {s:ByteArray} (h:(decide (x < 0)||decide (399 < x))=true):false=edR (x,sl,s):=by
 have:inB x 0 399=false:=by
  simp only [Bool.or_eq_true,decide_eq_true_eq] at h
  unfold inB
  rcases h with h | h
  ·rw [decide_eq_false (by omega)]; rfl
  ·rw [decide_eq_false (p:=x≤399) (by omega)]; simp
 rw [edR_in,this]; rfl
theorem ed_inB {x:Int} (h:(decide (x < 0)||decide (399 < x))=false):inB x 0 399=true:=by
 simp only [Bool.or_eq_false_iff,decide_eq_false_iff_not] at h
 unfold inB
 rw [decide_eq_true (by omega),decide_eq_true (by omega)]; rfl
theorem ed_page {x sl:Int} {s:ByteArray} (h:(decide (x < 0)||decide (399 < x))=false) (h2:(sl== -1)=true):(((s.size:Int)==1)&&decide (byteI (bl s) 0≤2))=edR (x,sl,s):=by
 rw [edR_in,ed_inB h,if_pos (by simpa using h2),Bool.true_and,kindBad,Bool.not_or]
 congr 1
 ·rw [Bool.eq_iff_iff]; simp; omega
 ·rw [Bool.eq_iff_iff]; simp
theorem ed_slot {x sl:Int} {s:ByteArray} (h:(decide (x < 0)||decide (399 < x))=false) (h2:(sl== -1)=false):((decide (0≤sl)&&decide (sl≤23))&&decide ((s.size:Int)≤400))=edR (x,sl,s):=by
 rw [edR_in,ed_inB h,if_neg (by simpa using h2),Bool.true_and]; rfl
theorem rec_bad {r:RecM} (h:recR r=true→False):false=recR r:=by
 cases hr:recR r
 ·rfl
 ·exact (h hr).elim
theorem rec_good {r:RecM} (h:RecOk r):true=recR r:=by
 symm
 simp only [recR,inB,Bool.and_eq_true,decide_eq_true_eq,List.all_eq_true]
 exact ⟨h.kind,h.xid,h.tbl,by have:=h.many; omega,h.eds,by have:=h.note; omega⟩
theorem apn (s:ByteArray):s++(⟨#[]⟩:ByteArray)=s:=by apply bl_inj; rw [bl_append]; exact List.append_nil _
theorem catL3b (a b c:ByteArray):(a++b)++c=catS [a,b,c]:=by rw [catS_cons,catS_cons,catS_cons,catS_nil,apn,ByteArray.append_assoc]
theorem catL3 (a b c:ByteArray):(a++b)++c=catS [catS [a,b],c]:=by rw [catS_cons,catS_cons,catS_cons,catS_cons,catS_nil,apn,apn,ByteArray.append_assoc]
theorem catL4 (a b c d:ByteArray):catS [a,b,c,d]=((a++b)++c)++d:=by rw [catS_cons,catS_cons,catS_cons,catS_cons,catS_nil,apn,ByteArray.append_assoc,ByteArray.append_assoc]
theorem catL6 (a b c d e f:ByteArray):((((a++b)++c)++d)++e)++f=catS [a,b,c,d,e,f]:=by rw [catS_cons,catS_cons,catS_cons,catS_cons,catS_cons,catS_cons,catS_nil,apn,ByteArray.append_assoc,ByteArray.append_assoc,ByteArray.append_assoc,ByteArray.append_assoc]
section
variable {P:Program} {o:Oper} {ρ:Operand→Value} {W:World}
theorem run_shr {t t':TypeId} {x y:Operand} {k k':IntKind} {a b z:Int} (h:o.op= .binOp .shr t x y t') (hx:ρ x= .int k a) (hy:ρ y= .int k' b) (hb:0≤b) (hz:a.fdiv (2 ^ min b.toNat k.bits)=z):(execOp ρ o).run P W= .ok (.value (.int k z)) W:=by
 subst hz
 unfold execOp; rw [h]
 have:¬ b < 0:=by omega
 simp [hx,hy,eqGuard,binOp,Op.shift,this]
end
theorem r04num_any (N:Int) (m:Nat) (w:World) (hm:m≤8):
  Calls Tryz.prog 74 #[.int .i64 N, .int .i64 ((m:Int))] w (Ret (.string (putS N m)) w):=by
 go_enter Tryz.func74,Tryz.ntmps74
 have hst0:=St.start w
 refine wp_seq (sqr (sqp [.k 4 (.string ⟨#[]⟩)] ?_))
 refine then_normal (wp_seq (sqr (sqp [.k 5 (.string ⟨#[]⟩)] ?_)))
 refine then_normal (wp_seq (wp_seq (sqr (sqp [.k 6 (vi 0)] ?_))))
 refine then_normal (wp_block ?_)
 refine wp_loopT (fun t_ mz az W=>∃ k:Nat,k≤m∧mz=m - k∧az=⟨(ovr (jv az) [(0,0,0,[vi (shN N k)]),(4,5,0,[.string (putS N k),vi ((k:Int))]),(0,7,14,[])] t_).toArray,[]⟩∧St w [] [] W) (m - 0) ?_ ?_
 · -- the loop begins
   exact ⟨0,by omega,rfl,(by rw [shN_0,putS_0]; rfl),hst0.pk []⟩
 rintro n4 a4 W4 ⟨k,hk,rfl,hj_,hst4⟩
 refine ovz hj_ fun u4_=>?_
 refine wp_seq (wp_seq (sqr (sqp [.m 7 6, .m 8 1, .k 9 (.bool (decide ((k:Int) < (m:Int))))] ?_)))
 refine then_normal (wds (fun hs8 hs8p=>?_) fun hs8 hs8p=>?_)
 ·refine wp_skip (then_normal (wp_seq (wp_block (wp_seq (sqr (sqp [.m 12 0,sAn 13 .i64 (shN N k) 255 ((shN N k) % 256) (bits_mask (shN N k) 8 (by decide)),sW 14 .u8 ((shN N k) % 256) ((shN N k) % 256) (IntWalk.u8_in _ (by omega))] ?_))))))
  refine sqn1 (fun x_=>sA x_) (fun A15_12=> .slice A15_12 1 1) (fun A15_12=>eO 5 1 (.slice A15_12 1 1) 1 ([.int .u8 ((shN N k) % 256)])) hst4 (by
    refine svA fun ρ β W X cx=>?_
    have fF14:ρ (.tmp 14)= .int .u8 ((shN N k) % 256):=(cx.ou 14)
    exact dv_lit (e:=5) (xs:=[.int .u8 ((shN N k) % 256)]) rfl (by simp [go_sem,fF14]) rfl (by decide) rfl rfl (fun σ β' X' hs hb hv hx=>⟨hv,hx⟩)) fun A15_12 W12 hst12=>?_
  refine sql (.string (strOfNums ([((shN N k) % 256)]))) hst12 (fun cx=>run_convB (e:=5) rfl (by kernel_rfl) (by kernel_rfl) (by kernel_rfl) (cx.ou 15) (cx.ri 0 rfl)) ?_
  refine sqp [.m 17 5] ?_
  refine sql (.string (putS N (k+1))) hst12 (fun cx=>(by rw [putS_succ N (by omega)]; exact run_strcat rfl (cx.ou 16) (cx.ou 17) (by rw [strOfNums_size,putS_size N k (by omega)]; first | omega | (simp only [List.length_cons,List.length_nil]; omega)))) ?_
  refine sqp [.m 5 18] ?_
  refine then_normal (sqr (sqp [.m 19 0] ?_))
  refine sql (vi (shN N (k+1))) hst12 (fun cx=>run_shr rfl (cx.ou 19) (cx.co _) (by decide) (shN_succ N k)) ?_
  refine sqp [.m 0 20] ?_
  refine blk_normal (then_normal (sqr (sqp [.m 10 6,sI 11 ((k:Int)+1) (by omega), .m 6 11] ?_)))
  refine then_normal ?_
  refine ⟨m - ((k+1)),by omega,?_⟩
  exact ⟨(k+1),by omega,rfl,(by kernel_rfl),hst12.pk []⟩
 refine wp_exit (then_exit (then_exit (blk_eq (then_normal (wp_seq (sqr (sqp [.m 21 5, .m 4 21] ?_)))))))
 refine then_normal (wp_ret ?_)
 refine bpr (.string (putS N k)) (results_1 Tryz.results74 rpt) ?_
 exact Ret.of (by rw [show k=m by omega]) hst4.ext
theorem r04text_any (s:ByteArray) (w:World) (hs:s.size≤65535):
  Calls Tryz.prog 139 #[.string s] w (Ret (.string (textO s)) w):=by
 have hp:=putS_size (s.size:Int) 2 (by omega)
 go_enter Tryz.func139,Tryz.ntmps139
 have hst0:=St.start w
 refine wp_seq (sqr (sqp [.k 2 (.string ⟨#[]⟩)] ?_))
 refine then_normal (wp_seq (sqr (sqp [.m 3 0, .k 4 (vi ((s.size:Int)))] ?_)))
 refine sqk (.string (putS (s.size:Int) 2)) hst0 (fun cx=>⟨_,r04num_any (s.size:Int) 2 _ (by omega),(map2 (cx.ou 4) (cx.co _))⟩) fun W4 hst4=>?_
 refine sqp [.m 6 0,sS 7 (putS (s.size:Int) 2) s (by omega), .m 2 7] ?_
 refine then_normal (wp_ret ?_)
 refine bpr (.string ((putS (s.size:Int) 2)++s)) (results_1 Tryz.results139 rpt) ?_
 exact Ret.of rfl hst4.ext
theorem r04edit_any (x sl:Int) (s:ByteArray) (w:World) (hs:s.size≤9223372036854775807):
  Calls Tryz.prog 49 #[.agg #[.int .i64 x, .int .i64 sl, .string s]] w (Ret (.bool (edR (x,sl,s))) w):=by
 go_enter Tryz.func49,Tryz.ntmps49
 have hst0:=St.start w
 refine wp_seq (sqr ?_)
 refine sqbx #[vi x,vi sl, .string s] hst0 fun B1_1 W1 hst1=>?_
 refine sqp [.k 2 (.bool false)] ?_
 refine then_normal (wp_seq (wp_seq (sqr (sqp [.k 3 (vp B1_1)] ?_))))
 refine sqld 0 hst1 ?_
 refine sqp [.k 5 (.bool (decide (x < 0))), .m 6 5] ?_
 refine sqw' 6 [7,8,9] ?_ rfl (fun hq=>?_) ?_
 rotate_left
 ·refine sqp [.k 7 (vp B1_1)] ?_
  refine sqld 0 hst1 ?_
  refine sqp [.k 9 (.bool (decide (399 < x)))] ?_
  exact sqe
 refine sqwx ?_
 refine sqp [sPo 10 (decide (x < 0)) (decide (399 < x))] ?_
 refine then_normal (wbs (fun hs11=>?_) fun hs11=>?_)
 ·have hs11p:=hs11
  simp only [zB] at hs11p
  refine wp_seq (sqr (sqp [.k 2 (.bool false)] ?_))
  refine then_normal (wp_ret (then_ret ?_))
  refine bpr (.bool false) (results_1 Tryz.results49 rpt) ?_
  exact Ret.bool (ed_out hs11) hst1.ext
 have hs11p:=hs11
 simp only [zB] at hs11p
 obtain ⟨hs11p1,hs11p2⟩:=hs11p
 refine wp_skip (then_normal (wp_seq (wp_seq (sqr (sqp [.k 11 (.pointer (some ⟨B1_1,1,none⟩))] ?_)))))
 refine sqld 0 hst1 ?_
 refine sqp [.k 13 (.bool (sl==(-1)))] ?_
 refine then_normal (wbs (fun hs16=>?_) fun hs16=>?_)
 ·have hs16p:=beq_iff_eq.1 hs16
  refine wp_seq (sqr (sqp [.k 14 (.pointer (some ⟨B1_1,2,none⟩))] ?_))
  refine sqld 0 hst1 ?_
  refine sqp [.k 16 (vi ((s.size:Int))), .k 17 (.bool ((s.size:Int)==1)), .m 18 17] ?_
  refine sqw' 18 [19,20,21,22] ?_ rfl (fun hq=>?_) ?_
  rotate_left
  ·have hq_:=hq
   try simp only [zB] at hq_
   refine sqp [.k 19 (.pointer (some ⟨B1_1,2,none⟩))] ?_
   refine sqld 0 hst1 ?_
   refine sql (.int .u8 (byteI (bl s) 0)) hst1 (fun cx=>run_indexS (m:=0) rfl (by kernel_rfl) (cx.ou 20) (cx.co _) (by omega) (by omega)) ?_
   refine sqp [.k 22 (.bool (decide (byteI (bl s) 0≤2)))] ?_
   exact sqe
  refine sqwx ?_
  refine sqp [sPa 23 ((s.size:Int)==1) (decide (byteI (bl s) 0≤2)), .m 2 23] ?_
  refine then_normal (wp_ret (then_ret ?_))
  refine bpr (.bool (((s.size:Int)==1)&&(decide (byteI (bl s) 0≤2)))) (results_1 Tryz.results49 rpt) ?_
  exact Ret.bool (ed_page hs11 hs16) hst1.ext
 have hs16p:=beq_eq_false_iff_ne.1 hs16
 refine wp_skip (then_normal (wp_seq (sqr (sqp [.k 24 (.pointer (some ⟨B1_1,1,none⟩))] ?_))))
 refine sqld 0 hst1 ?_
 refine sqp [.k 26 (.bool (decide (0≤sl))), .m 27 26] ?_
 refine sqw' 27 [28,29,30] ?_ rfl (fun hq=>?_) ?_
 rotate_left
 ·refine sqp [.k 28 (.pointer (some ⟨B1_1,1,none⟩))] ?_
  refine sqld 0 hst1 ?_
  refine sqp [.k 30 (.bool (decide (sl≤23)))] ?_
  exact sqe
 refine sqwx ?_
 refine sqp [sPa 31 (decide (0≤sl)) (decide (sl≤23)), .m 32 31] ?_
 refine sqw' 32 [33,34,35,36] ?_ rfl (fun hq=>?_) ?_
 rotate_left
 ·refine sqp [.k 33 (.pointer (some ⟨B1_1,2,none⟩))] ?_
  refine sqld 0 hst1 ?_
  refine sqp [.k 35 (vi ((s.size:Int))), .k 36 (.bool (decide ((s.size:Int)≤400)))] ?_
  exact sqe
 refine sqwx ?_
 refine sqp [sPa 37 ((decide (0≤sl))&&(decide (sl≤23))) (decide ((s.size:Int)≤400)), .m 2 37] ?_
 refine then_normal (wp_ret ?_)
 refine bpr (.bool (((decide (0≤sl))&&(decide (sl≤23)))&&(decide ((s.size:Int)≤400)))) (results_1 Tryz.results49 rpt) ?_
 exact Ret.bool (ed_slot hs11 hs16) hst1.ext
theorem r02row_0 (w:World):
  Calls Tryz.prog 50 #[.slice none 0 0] w (Ret (.bool true) w):=by
 go_enter Tryz.func50,Tryz.ntmps50
 have hst0:=St.start w
 refine wp_seq (sqr (sqp [.k 2 (.bool false)] ?_))
 refine then_normal (wp_seq (wp_seq (sqr (sqp [.k 3 (vi 0)] ?_))))
 refine then_normal (wp_block ?_)
 refine wp_loopT (fun t_ mz az W=>∃ j:Nat,j≤0∧mz=0 - j∧az=⟨(ovr (jv az) [(2,2,1,[vi ((j:Int))]),(0,4,12,[])] t_).toArray,[]⟩∧St w [] [] W) (0 - 0) ?_ ?_
 · -- the loop begins
   exact ⟨0,Nat.zero_le _,rfl,(by kernel_rfl),hst0.pk []⟩
 rintro n3 a3 W3 ⟨j,hj,rfl,hj_,hst3⟩
 refine ovz hj_ fun u3_=>?_
 refine wp_seq (wp_seq (sqr ?_))
 have hd8:(decide ((j:Int) < 0))=false:=(decide_eq_false (by omega))
 refine sqp [.m 4 3, .m 5 0, .k 6 (vi 0), .e 7 (.bool (decide ((j:Int) < 0))) (.bool false) (congrArg Value.bool hd8)] ?_
 refine then_normal (wcf rfl (wp_exit (then_exit (then_exit (blk_eq (then_normal (wp_seq (sqr (sqp [.m 16 0, .k 17 (vi 0), .k 18 (.bool true), .k 2 (.bool true)] ?_)))))))))
 refine then_normal (wp_ret ?_)
 refine bpr (.bool true) (results_1 Tryz.results50 rpt) ?_
 exact Ret.bool (by decide) hst3.ext
theorem r02one_0 (w:World):
  Calls Tryz.prog 170 #[.int .i64 0] w (Ret (.string ⟨#[0]⟩) w):=by
 go_enter Tryz.func170,Tryz.ntmps170
 have hst0:=St.start w
 refine wp_seq (sqr (sqp [.k 2 (.string ⟨#[]⟩)] ?_))
 refine then_normal (wp_seq (sqr (sqp [.m 3 0,sW 4 .u8 0 0 (by decide)] ?_)))
 refine sqn1 (fun x_=>sA x_) (fun A5_4=> .slice A5_4 1 1) (fun A5_4=>eO 5 1 (.slice A5_4 1 1) 1 ([.int .u8 0])) hst0 (by
   refine svA fun ρ β W X cx=>?_
   have fF4:ρ (.tmp 4)= .int .u8 0:=(cx.ou 4)
   exact dv_lit (e:=5) (xs:=[.int .u8 0]) rfl (by simp [go_sem,fF4]) rfl (by decide) rfl rfl (fun σ β' X' hs hb hv hx=>⟨hv,hx⟩)) fun A5_4 W4 hst4=>?_
 refine sql (.string (strOfNums ([0]))) hst4 (fun cx=>run_convB (e:=5) rfl (by kernel_rfl) (by kernel_rfl) (by kernel_rfl) (cx.ou 5) (cx.ri 0 rfl)) ?_
 refine sqp [.m 2 6] ?_
 refine then_normal (wp_ret ?_)
 refine bpr (.string (strOfNums ([0]))) (results_1 Tryz.results170 rpt) ?_
 exact Ret.of rfl hst4.ext
theorem r02bytes_0 (w:World):
  Calls Tryz.prog 140 #[.slice none 0 0] w (Ret (.string ⟨#[0]⟩) w):=by
 go_enter Tryz.func140,Tryz.ntmps140
 have hst0:=St.start w
 refine wp_seq (sqr (sqp [.k 2 (.string ⟨#[]⟩)] ?_))
 refine then_normal (wp_seq (wp_seq (sqr (sqp [.m 5 0] ?_))))
 refine sqk (.bool true) hst0 (fun cx=>⟨_,r02row_0 _,(map1 (cx.ou 5))⟩) fun W3 hst3=>?_
 refine sqp [.k 7 (.bool false)] ?_
 refine then_normal (wcf rfl (wp_skip (then_normal (wp_seq (sqr (sqp [.m 8 0, .k 9 (vi 0)] ?_))))))
 refine sqk (.string ((⟨#[0]⟩:ByteArray))) hst3 (fun cx=>⟨_,r02one_0 _,(map1 (cx.ou 9))⟩) fun W7 hst7=>?_
 refine sqp [.m 3 10] ?_
 refine then_normal (wp_seq (wp_seq (sqr (sqp [.k 4 (vi 0)] ?_))))
 refine then_normal (wp_block ?_)
 refine wp_loopT (fun t_ mz az W=>∃ j:Nat,j≤0∧mz=0 - j∧az=⟨(ovr (jv az) [(4,4,0,[vi ((j:Int))]),(6,11,49,[])] t_).toArray,[]⟩∧St w [] [] W) (0 - 0) ?_ ?_
 · -- the loop begins
   exact ⟨0,Nat.zero_le _,rfl,(by kernel_rfl),hst7.pk []⟩
 rintro n10 a10 W10 ⟨j,hj,rfl,hj_,hst10⟩
 refine ovz hj_ fun u10_=>?_
 refine wp_seq (wp_seq (sqr ?_))
 have hd15:(decide ((j:Int) < 0))=false:=(decide_eq_false (by omega))
 refine sqp [.m 11 4, .m 12 0, .k 13 (vi 0), .e 14 (.bool (decide ((j:Int) < 0))) (.bool false) (congrArg Value.bool hd15)] ?_
 refine then_normal (wcf rfl (wp_exit (then_exit (then_exit (blk_eq (then_normal (wp_seq (sqr (sqp [.m 60 3, .m 2 60] ?_)))))))))
 refine then_normal (wp_ret ?_)
 refine bpr (.string ((⟨#[0]⟩:ByteArray))) (results_1 Tryz.results140 rpt) ?_
 exact Ret.of rfl hst10.ext
theorem r04right_any (k x t:Int) (A:Option Addr) (c:Nat) (l:List EdT) (note:ByteArray) (w:World) (hA:At w A (l.flatMap edC)) (hl:l.length≤1000000) (hz:∀ e∈l,e.2.2.size≤9223372036854775807) (hns:note.size≤9223372036854775807):
  Calls Tryz.prog 16 #[.agg #[.int .i64 k, .int .i64 x, .int .i64 t, .slice none 0 0, .slice none 0 0, .slice A l.length c, .slice none 0 0, .string note]] w (Ret (.bool (recR ⟨k,x,t,l,note⟩)) w):=by
 go_enter Tryz.func16,Tryz.ntmps16
 have hst0:=St.start w
 refine wp_seq (sqr ?_)
 refine sqbx #[vi k,vi x,vi t, .slice none 0 0, .slice none 0 0, .slice A l.length c, .slice none 0 0, .string note] hst0 fun B1_1 W1 hst1=>?_
 refine sqp [.k 2 (.bool false)] ?_
 refine then_normal (wp_seq (wp_seq (sqr (sqp [.k 6 (vp B1_1)] ?_))))
 refine sqld 0 hst1 ?_
 refine sqp [.k 8 (.bool (decide (k < 1))), .m 9 8] ?_
 refine sqw' 9 [10,11,12] ?_ rfl (fun hq=>?_) ?_
 rotate_left
 ·refine sqp [.k 10 (vp B1_1)] ?_
  refine sqld 0 hst1 ?_
  refine sqp [.k 12 (.bool (decide (10 < k)))] ?_
  exact sqe
 refine sqwx ?_
 refine sqp [sPo 13 (decide (k < 1)) (decide (10 < k)), .m 14 13] ?_
 refine sqw' 14 [15,16,17] ?_ rfl (fun hq=>?_) ?_
 rotate_left
 ·refine sqp [.k 15 (.pointer (some ⟨B1_1,1,none⟩))] ?_
  refine sqld 0 hst1 ?_
  refine sqp [.k 17 (.bool (decide (x < 0)))] ?_
  exact sqe
 refine sqwx ?_
 refine sqp [sPo 18 ((decide (k < 1))||(decide (10 < k))) (decide (x < 0)), .m 19 18] ?_
 refine sqw' 19 [20,21,22] ?_ rfl (fun hq=>?_) ?_
 rotate_left
 ·refine sqp [.k 20 (.pointer (some ⟨B1_1,1,none⟩))] ?_
  refine sqld 0 hst1 ?_
  refine sqp [.k 22 (.bool (decide (127 < x)))] ?_
  exact sqe
 refine sqwx ?_
 refine sqp [sPo 23 (((decide (k < 1))||(decide (10 < k)))||(decide (x < 0))) (decide (127 < x)), .m 24 23] ?_
 refine sqw' 24 [25,26,27] ?_ rfl (fun hq=>?_) ?_
 rotate_left
 ·refine sqp [.k 25 (.pointer (some ⟨B1_1,2,none⟩))] ?_
  refine sqld 0 hst1 ?_
  refine sqp [.k 27 (.bool (decide (t < 0)))] ?_
  exact sqe
 refine sqwx ?_
 refine sqp [sPo 28 ((((decide (k < 1))||(decide (10 < k)))||(decide (x < 0)))||(decide (127 < x))) (decide (t < 0)), .m 29 28] ?_
 refine sqw' 29 [30,31,32] ?_ rfl (fun hq=>?_) ?_
 rotate_left
 ·refine sqp [.k 30 (.pointer (some ⟨B1_1,2,none⟩))] ?_
  refine sqld 0 hst1 ?_
  refine sqp [.k 32 (.bool (decide (65535 < t)))] ?_
  exact sqe
 refine sqwx ?_
 refine sqp [sPo 33 (((((decide (k < 1))||(decide (10 < k)))||(decide (x < 0)))||(decide (127 < x)))||(decide (t < 0))) (decide (65535 < t)), .m 34 33] ?_
 refine sqw' 34 [35,36,37,38] ?_ rfl (fun hq=>?_) ?_
 rotate_left
 ·refine sqp [.k 35 (.pointer (some ⟨B1_1,5,none⟩))] ?_
  refine sqld 0 hst1 ?_
  refine sqp [.k 37 (vi ((l.length:Int))), .k 38 (.bool (decide (64 < (l.length:Int))))] ?_
  exact sqe
 refine sqwx ?_
 refine sqp [sPo 39 ((((((decide (k < 1))||(decide (10 < k)))||(decide (x < 0)))||(decide (127 < x)))||(decide (t < 0)))||(decide (65535 < t))) (decide (64 < (l.length:Int))), .m 40 39] ?_
 refine sqw' 40 [41,42,43,44] ?_ rfl (fun hq=>?_) ?_
 rotate_left
 ·refine sqp [.k 41 (.pointer (some ⟨B1_1,6,none⟩))] ?_
  refine sqld 0 hst1 ?_
  refine sqp [.k 43 (vi 0), .k 44 (.bool false)] ?_
  exact sqe
 refine sqwx ?_
 refine sqp [sPo 45 (((((((decide (k < 1))||(decide (10 < k)))||(decide (x < 0)))||(decide (127 < x)))||(decide (t < 0)))||(decide (65535 < t)))||(decide (64 < (l.length:Int)))) false, .m 46 45] ?_
 refine sqw' 46 [47,48,49,50] ?_ rfl (fun hq=>?_) ?_
 rotate_left
 ·refine sqp [.k 47 (.pointer (some ⟨B1_1,7,none⟩))] ?_
  refine sqld 0 hst1 ?_
  refine sqp [.k 49 (vi ((note.size:Int))), .k 50 (.bool (decide (60000 < (note.size:Int))))] ?_
  exact sqe
 refine sqwx ?_
 refine sqp [sPo 51 ((((((((decide (k < 1))||(decide (10 < k)))||(decide (x < 0)))||(decide (127 < x)))||(decide (t < 0)))||(decide (65535 < t)))||(decide (64 < (l.length:Int))))||false) (decide (60000 < (note.size:Int)))] ?_
 refine then_normal (wbs (fun hs49=>?_) fun hs49=>?_)
 ·have hs49p:=hs49
  simp only [zB] at hs49p
  refine wp_seq (sqr (sqp [.k 2 (.bool false)] ?_))
  refine then_normal (wp_ret (then_ret ?_))
  refine bpr (.bool false) (results_1 Tryz.results16 rpt) ?_
  exact Ret.bool (rec_bad fun hh=>by have h1:=recR_ok hh; have a1:=h1.kind; have a2:=h1.xid; have a3:=h1.tbl; have a4:=h1.many; have a5:=h1.note; dsimp only at a1 a2 a3 a4 a5; have h_:=hs49; simp at h_; omega) hst1.ext
 have hs49p:=hs49
 simp only [zB] at hs49p
 obtain ⟨⟨⟨⟨⟨⟨⟨⟨hs49p1,hs49p2⟩,hs49p3⟩,hs49p4⟩,hs49p5⟩,hs49p6⟩,hs49p7⟩,hs49p8⟩,hs49p9⟩:=hs49p
 refine wp_skip (then_normal (wp_seq (wp_seq (sqr (sqp [.k 3 (vi 0)] ?_)))))
 refine then_normal (wp_block ?_)
 refine wp_loopT (fun t_ mz az W=>∃ j:Nat,j≤l.length∧(∀ i x,i < j→l[i]? =some x→edR x=true)∧mz=l.length - j∧az=⟨(ovr (jv az) [(2,2,1,[vi ((j:Int))]),(0,4,1,[]),(47,52,15,[])] t_).toArray,[]⟩∧St w [] [eB B1_1 27 #[vi k,vi x,vi t, .slice none 0 0, .slice none 0 0, .slice A l.length c, .slice none 0 0, .string note]] W) (l.length - 0) ?_ ?_
 · -- the loop begins
   exact ⟨0,Nat.zero_le _,fun i x h=>absurd h (Nat.not_lt_zero i),rfl,(by kernel_rfl),hst1.pk [0]⟩
 rintro n52 a52 W52 ⟨j,hj,ha,rfl,hj_,hst52⟩
 refine ovz hj_ fun u52_=>?_
 refine wp_seq (wp_seq (sqr (sqp [.m 52 3, .k 53 (.pointer (some ⟨B1_1,5,none⟩))] ?_)))
 refine sqld 0 hst52 ?_
 refine sqp [.k 55 (vi ((l.length:Int))), .k 56 (.bool (decide ((j:Int) < (l.length:Int))))] ?_
 refine then_normal (wds (fun hs58 hs58p=>?_) fun hs58 hs58p=>?_)
 ·refine wp_skip (then_normal (wp_seq (wp_block (wp_seq ?_))))
  obtain ⟨ep,es,eb,hek⟩:=getEdT (l:=l) (k:=j) (by omega)
  have hez:eb.size≤9223372036854775807:=hz _ (List.mem_of_getElem? hek)
  refine sqr (sqp [.k 59 (.pointer (some ⟨B1_1,5,none⟩))] ?_)
  refine sqld 0 hst52 ?_
  refine sqp [.m 61 3] ?_
  refine sql (.pointer (some ((ad A).add (j*3)))) hst52 (fun cx=>run_indexSlM (e:=84) (m:=j) (sz:=3) rfl (by kernel_rfl) (by kernel_rfl) (cx.ou 60) (cx.ou 61) (by omega) (by omega) (hA.ext cx.upd.to_ext) (flatPos (sz:=3) edC_len (by decide) (by omega))) ?_
  refine sql (.agg #[vi ep,vi es, .string eb]) hst52 (fun cx=>run_loadElt (f:=edC) (m:=j) (sz:=3) (off:=0) (n:=3) rfl (by kernel_rfl) (by kernel_rfl) (cx.ou 62) rfl edC_len (hA.ext cx.upd.to_ext) hek (fun k hk=>match k,hk with | 0, _=>rfl | 1, _=>rfl | 2, _=>rfl | k+3,hk=>absurd hk (by omega))) ?_
  refine sqk (.bool (edR (ep,es,eb))) hst52 (fun cx=>⟨_,r04edit_any ep es eb _ hez,(map1 (cx.ou 63))⟩) fun W64 hst64=>?_
  refine sqp [.m 4 64] ?_
  refine then_normal (wp_seq (sqr (sqp [.m 65 4, .k 66 (.bool (!(edR (ep,es,eb))))] ?_)))
  refine then_normal ?_
  rcases Bool.eq_false_or_eq_true (edR (ep,es,eb)) with hs68 | hs68
  ·refine wp_cond_false (show Act.eval _ _= .bool false from (congrArg Value.bool (by rw [hs68]; rfl))) (wp_skip (blk_normal (then_normal (sqr (sqp [.m 57 3,sI 58 ((j:Int)+1) (by omega), .m 3 58] ?_)))))
   refine then_normal ?_
   refine ⟨l.length - ((j+1)),by omega,?_⟩
   exact ⟨(j+1),by omega,bad_step ha hek (by simpa using hs68),rfl,(by kernel_rfl),hst64.pk [0]⟩
  refine wp_cond_true (show Act.eval _ _= .bool true from (congrArg Value.bool (by rw [hs68]; rfl))) (wp_seq (sqr (sqp [.k 2 (.bool false)] ?_)))
  refine then_normal (wp_ret (blk_ret (then_ret (then_ret (blk_ret (then_ret ?_))))))
  refine bpr (.bool false) (results_1 Tryz.results16 rpt) ?_
  exact Ret.bool (rec_bad fun hh=>by have h1:=(recR_ok hh).eds _ (List.mem_of_getElem? hek); have h_:=hs68; simp [h1] at h_) hst64.ext
 refine wp_exit (then_exit (then_exit (blk_eq (then_normal (wp_seq (wp_seq (sqr (sqp [.k 5 (vi 0)] ?_))))))))
 refine then_normal (wp_block ?_)
 refine wp_loopT (fun t_ mz az W=>∃ j2:Nat,j2≤0∧mz=0 - j2∧az=⟨(ovr (jv az) [(2,2,1,[]),(2,5,0,[vi ((j2:Int))]),(61,67,21,[])] t_).toArray,[]⟩∧St w [] [eB B1_1 27 #[vi k,vi x,vi t, .slice none 0 0, .slice none 0 0, .slice A l.length c, .slice none 0 0, .string note]] W) (0 - 0) ?_ ?_
 · -- the loop begins
   exact ⟨0,Nat.zero_le _,rfl,(by kernel_rfl),hst52.pk [0]⟩
 rintro n74 a74 W74 ⟨j2,hj2,rfl,hj_,hst74⟩
 refine ovz hj_ fun u74_=>?_
 refine wp_seq (wp_seq (sqr (sqp [.m 67 5, .k 68 (.pointer (some ⟨B1_1,6,none⟩))] ?_)))
 refine sqld 0 hst74 ?_
 have hd80:(decide ((j2:Int) < 0))=false:=(decide_eq_false (by omega))
 refine sqp [.k 70 (vi 0), .e 71 (.bool (decide ((j2:Int) < 0))) (.bool false) (congrArg Value.bool hd80)] ?_
 refine then_normal (wcf rfl (wp_exit (then_exit (then_exit (blk_eq (then_normal (wp_seq (sqr (sqp [.k 88 (.pointer (some ⟨B1_1,3,none⟩))] ?_)))))))))
 refine sqld 0 hst74 ?_
 refine sqk (.bool true) hst74 (fun cx=>⟨_,r02row_0 _,(map1 (cx.ou 89))⟩) fun W83 hst83=>?_
 refine sqp [.k 91 (.bool true)] ?_
 refine sqgy 91 [92,93,94] rfl rfl ?_
 refine sqp [.k 92 (.pointer (some ⟨B1_1,4,none⟩))] ?_
 refine sqld 0 hst83 ?_
 refine sqk (.bool true) hst83 (fun cx=>⟨_,r02row_0 _,(map1 (cx.ou 93))⟩) fun W87 hst87=>?_
 refine sqp [.k 95 (.bool true), .k 2 (.bool true)] ?_
 refine then_normal (wp_ret ?_)
 refine bpr (.bool true) (results_1 Tryz.results16 rpt) ?_
 exact Ret.bool (rec_good (by have h_:=hs49; simp at h_; exact ⟨by dsimp only; omega,by dsimp only; omega,by dsimp only; omega,by dsimp only; omega,fun y hy=>by obtain ⟨i,hi,rfl⟩:=List.mem_iff_getElem.1 hy; exact ha i _ (by dsimp only at hi; omega) (List.getElem?_eq_getElem hi),by dsimp only; omega⟩)) hst87.ext
theorem r04bytes_any (k x t:Int) (A:Option Addr) (c:Nat) (l:List EdT) (note:ByteArray) (w:World) (hA:At w A (l.flatMap edC)) (hl:l.length≤1000000) (hz:∀ e∈l,e.2.2.size≤9223372036854775807) (hns:note.size≤9223372036854775807):
  Calls Tryz.prog 73 #[.agg #[.int .i64 k, .int .i64 x, .int .i64 t, .slice none 0 0, .slice none 0 0, .slice A l.length c, .slice none 0 0, .string note]] w (Ret (.string (bytesR ⟨k,x,t,l,note⟩)) w):=by
 go_enter Tryz.func73,Tryz.ntmps73
 have hst0:=St.start w
 refine wp_seq (sqr ?_)
 refine sqbx #[vi k,vi x,vi t, .slice none 0 0, .slice none 0 0, .slice A l.length c, .slice none 0 0, .string note] hst0 fun B1_1 W1 hst1=>?_
 refine sqp [.k 2 (.string ⟨#[]⟩)] ?_
 refine then_normal (wp_seq (wp_seq (sqr ?_)))
 refine sqlb 0 8 hst1 ?_
 refine sqk (.bool (recR ⟨k,x,t,l,note⟩)) hst1 (fun cx=>⟨_,r04right_any k x t _ _ l note _ (hA.ext cx.upd.to_ext) hl hz hns,(map1 (cx.ou 6))⟩) fun W4 hst4=>?_
 refine sqp [.k 8 (.bool (!(recR ⟨k,x,t,l,note⟩)))] ?_
 refine then_normal ?_
 rcases Bool.eq_false_or_eq_true (recR ⟨k,x,t,l,note⟩) with hs6 | hs6
 ·refine wp_cond_false (show Act.eval _ _= .bool false from (congrArg Value.bool (by rw [hs6]; rfl))) (wp_skip (then_normal (wp_seq ?_)))
  have hrr:=hs6
  have hro:=recR_ok hrr
  have hrm:l.length≤64:=hro.many
  have hrn:note.size≤60000:=hro.note
  have hp1:∀ z:Int,(putS z 1).size=1:=fun z=>putS_size z 1 (by omega)
  have hp2:∀ z:Int,(putS z 2).size=2:=fun z=>putS_size z 2 (by omega)
  have htz:(textO ⟨#[0]⟩).size=3:=textO_sz _
  refine wp_region_Z [0,1,3,0,8,31,63,0,128,447,1023,0,2048,7103,15295,32767,0,65536,228287,490431,1048575,0,2097152,6291456,15694783,33554431,67108863] [[],[0],[],[],[0],[],[],[],[0],[],[],[],[0],[],[],[],[],[0],[],[],[],[],[0]] [.k 9 (vp B1_1), .c 10 (vi k), .c 11 (.string (putS k 1)), .k 12 (.pointer (some ⟨B1_1,1,none⟩)), .c 13 (vi x), .c 14 (.string (putS x 1)),tS 15 (putS k 1) (putS x 1) (by simp only [ByteArray.size_append,hp1,hp2,htz]; omega), .k 16 (.pointer (some ⟨B1_1,2,none⟩)), .c 17 (vi t), .c 18 (.string (putS t 2)),tS 19 ((putS k 1)++(putS x 1)) (putS t 2) (by simp only [ByteArray.size_append,hp1,hp2,htz]; omega), .k 20 (.pointer (some ⟨B1_1,3,none⟩)), .c 21 (.slice none 0 0), .c 22 (.string ((⟨#[0]⟩:ByteArray))), .c 23 (.string (textO (⟨#[0]⟩:ByteArray))),tS 24 (((putS k 1)++(putS x 1))++(putS t 2)) (textO (⟨#[0]⟩:ByteArray)) (by simp only [ByteArray.size_append,hp1,hp2,htz]; omega), .k 25 (.pointer (some ⟨B1_1,4,none⟩)), .c 26 (.slice none 0 0), .c 27 (.string ((⟨#[0]⟩:ByteArray))), .c 28 (.string (textO (⟨#[0]⟩:ByteArray))),tS 29 ((((putS k 1)++(putS x 1))++(putS t 2))++(textO (⟨#[0]⟩:ByteArray))) (textO (⟨#[0]⟩:ByteArray)) (by simp only [ByteArray.size_append,hp1,hp2,htz]; omega), .k 30 (.pointer (some ⟨B1_1,5,none⟩)), .c 31 (.slice A l.length c), .k 32 (vi ((l.length:Int))), .c 33 (.string (putS (l.length:Int) 1)),tS 34 (((((putS k 1)++(putS x 1))++(putS t 2))++(textO (⟨#[0]⟩:ByteArray)))++(textO (⟨#[0]⟩:ByteArray))) (putS (l.length:Int) 1) (by simp only [ByteArray.size_append,hp1,hp2,htz]; omega), .k 3 (.string ((((((putS k 1)++(putS x 1))++(putS t 2))++(textO (⟨#[0]⟩:ByteArray)))++(textO (⟨#[0]⟩:ByteArray)))++(putS (l.length:Int) 1)))] [0] [1,2,4,5,8,9,12,13,14,17,18,19,22,24] [(3,26,1,4),(5,0,26,31)] hst4 ?_ fun W7 hst7=>?_
  ·refine ⟨?_,?_,?_,?_,?_,?_,?_,?_,?_,?_,?_,?_,?_,?_,trivial⟩
   ·exact xs4 rfl id fun cx=>run_load1 rfl (by kernel_rfl) (cx.an 0) ((cx.bi 0 rfl).cell 0)
   ·exact xsc rfl id rfl rfl fun cx=>⟨_,r04num_any k 1 _ (by omega),(map2 (cx.an 1) (cx.co _))⟩
   ·exact xs4 rfl id fun cx=>run_load1 rfl (by kernel_rfl) (cx.an 3) ((cx.bi 0 rfl).cell 1)
   ·exact xsc rfl id rfl rfl fun cx=>⟨_,r04num_any x 1 _ (by omega),(map2 (cx.an 4) (cx.co _))⟩
   ·exact xs4 rfl id fun cx=>run_load1 rfl (by kernel_rfl) (cx.an 7) ((cx.bi 0 rfl).cell 2)
   ·exact xsc rfl id rfl rfl fun cx=>⟨_,r04num_any t 2 _ (by omega),(map2 (cx.an 8) (cx.co _))⟩
   ·exact xs4 rfl id fun cx=>run_load1 rfl (by kernel_rfl) (cx.an 11) ((cx.bi 0 rfl).cell 3)
   ·exact xsc rfl id rfl rfl fun cx=>⟨_,r02bytes_0 _,(map1 (cx.an 12))⟩
   ·exact xsc rfl id rfl rfl fun cx=>⟨_,r04text_any (⟨#[0]⟩:ByteArray) _ (by decide),(map1 (cx.an 13))⟩
   ·exact xs4 rfl id fun cx=>run_load1 rfl (by kernel_rfl) (cx.an 16) ((cx.bi 0 rfl).cell 4)
   ·exact xsc rfl id rfl rfl fun cx=>⟨_,r02bytes_0 _,(map1 (cx.an 17))⟩
   ·exact xsc rfl id rfl rfl fun cx=>⟨_,r04text_any (⟨#[0]⟩:ByteArray) _ (by decide),(map1 (cx.an 18))⟩
   ·exact xs4 rfl id fun cx=>run_load1 rfl (by kernel_rfl) (cx.an 21) ((cx.bi 0 rfl).cell 5)
   ·exact xsc rfl id rfl rfl fun cx=>⟨_,r04num_any (l.length:Int) 1 _ (by omega),(map2 (cx.an 23) (cx.co _))⟩
  refine then_normal (wp_seq (wp_seq (sqr (sqp [.k 4 (vi 0)] ?_))))
  refine then_normal (wp_block ?_)
  refine wp_loopT (fun t_ mz az W=>∃ j:Nat,∃ sj:ByteArray,j≤l.length∧sj=edsF (hdB ⟨k,x,t,l,note⟩) (l.take j)∧mz=l.length - j∧az=⟨(ovr (jv az) [(3,3,0,[.string sj,vi ((j:Int))]),(30,35,33,[])] t_).toArray,[]⟩∧St w [] [eB B1_1 27 #[vi k,vi x,vi t, .slice none 0 0, .slice none 0 0, .slice A l.length c, .slice none 0 0, .string note]] W) (l.length - 0) ?_ ?_
  · -- the loop begins
    exact ⟨0,(((((putS k 1)++(putS x 1))++(putS t 2))++(textO (⟨#[0]⟩:ByteArray)))++(textO (⟨#[0]⟩:ByteArray)))++(putS (l.length:Int) 1),Nat.zero_le _,catL6 _ _ _ _ _ _,rfl,(by kernel_rfl),hst7.pk [0]⟩
  rintro n9 a9 W9 ⟨j,sj,hj,hsj,rfl,hj_,hst9⟩
  refine ovz hj_ fun u9_=>?_
  refine wp_seq (wp_seq (sqr (sqp [.m 35 4, .k 36 (.pointer (some ⟨B1_1,5,none⟩))] ?_)))
  refine sqld 0 hst9 ?_
  refine sqp [.k 38 (vi ((l.length:Int))), .k 39 (.bool (decide ((j:Int) < (l.length:Int))))] ?_
  refine then_normal (wds (fun hs15 hs15p=>?_) fun hs15 hs15p=>?_)
  ·refine wp_skip (then_normal (wp_seq (wp_block ?_)))
   obtain ⟨ep,es,eb,hek⟩:=getEdT (l:=l) (k:=j) (by omega)
   have her:edR (ep,es,eb)=true:=hro.eds _ (List.mem_of_getElem? hek)
   have hez:eb.size≤400:=edR_item her
   obtain ⟨hep_,hes_⟩:=edR_bd her
   have hes_: -1≤es∧es≤23:=hes_
   have hsz:=edsF_size (l:=l.take j) (fun e he=>edR_item (hro.eds e (List.mem_of_mem_take he))) (hdB ⟨k,x,t,l,note⟩)
   rw [← hsj,hdB_size,List.length_take] at hsz
   have htb:=textO_sz eb
   refine wp_region_Z [0,0,2,0,14,30,62,126,255,0,512,0,3584,7680,15872,32256,65278,131071,0,262144,0,1835008,3932160,8126464,16645886,33554431,67108863] [[],[],[0],[],[],[],[],[],[],[],[0],[],[],[],[],[],[],[],[],[0]] [.k 42 (.string sj), .k 43 (.pointer (some ⟨B1_1,5,none⟩)), .c 44 (.slice A l.length c), .k 45 (vi ((j:Int))), .c 46 (.pointer (some ((ad A).add (j*3)))), .c 47 (.pointer (some ((ad A).add (j*3+0)))), .c 48 (vi ep), .c 49 (.string (putS ep 2)),tS 50 sj (putS ep 2) (by simp only [ByteArray.size_append,hp1,hp2,htz]; omega), .k 51 (.pointer (some ⟨B1_1,5,none⟩)), .c 52 (.slice A l.length c), .k 53 (vi ((j:Int))), .c 54 (.pointer (some ((ad A).add (j*3)))), .c 55 (.pointer (some ((ad A).add (j*3+1)))), .c 56 (vi es),tI 57 (es+1) (by omega), .c 58 (.string (putS (es+1) 1)),tS 59 (sj++(putS ep 2)) (putS (es+1) 1) (by simp only [ByteArray.size_append,hp1,hp2,htz]; omega), .k 60 (.pointer (some ⟨B1_1,5,none⟩)), .c 61 (.slice A l.length c), .k 62 (vi ((j:Int))), .c 63 (.pointer (some ((ad A).add (j*3)))), .c 64 (.pointer (some ((ad A).add (j*3+2)))), .c 65 (.string eb), .c 66 (.string (textO eb)),tS 67 ((sj++(putS ep 2))++(putS (es+1) 1)) (textO eb) (by simp only [ByteArray.size_append,hp1,hp2,htz]; omega), .k 3 (.string (((sj++(putS ep 2))++(putS (es+1) 1))++(textO eb)))] [0] [2,4,5,6,7,10,12,13,14,16,19,21,22,23,24] [(3,26,1,4),(38,0,26,64)] hst9 ?_ fun W16 hst16=>?_
   ·refine ⟨?_,?_,?_,?_,?_,?_,?_,?_,?_,?_,?_,?_,?_,?_,?_,trivial⟩
    ·exact xs4 rfl id fun cx=>run_load1 rfl (by kernel_rfl) (cx.an 1) ((cx.bi 0 rfl).cell 5)
    ·exact xs4 rfl id fun cx=>run_indexSlM (e:=84) (m:=j) (sz:=3) rfl (by kernel_rfl) (by kernel_rfl) (cx.an 2) (cx.an 3) (by omega) (by omega) (hA.ext cx.upd.to_ext) (flatPos (sz:=3) edC_len (by decide) (by omega))
    ·exact xs4 rfl id fun cx=>run_fieldAd rfl (by kernel_rfl) (cx.an 4)
    ·exact xs4 rfl id fun cx=>run_load1 rfl (by kernel_rfl) (cx.an 5) (At.eltc (f:=edC) (k:=0) edC_len (hA.ext cx.upd.to_ext) hek rfl)
    ·exact xsc rfl id rfl rfl fun cx=>⟨_,r04num_any ep 2 _ (by omega),(map2 (cx.an 6) (cx.co _))⟩
    ·exact xs4 rfl id fun cx=>run_load1 rfl (by kernel_rfl) (cx.an 9) ((cx.bi 0 rfl).cell 5)
    ·exact xs4 rfl id fun cx=>run_indexSlM (e:=84) (m:=j) (sz:=3) rfl (by kernel_rfl) (by kernel_rfl) (cx.an 10) (cx.an 11) (by omega) (by omega) (hA.ext cx.upd.to_ext) (flatPos (sz:=3) edC_len (by decide) (by omega))
    ·exact xs4 rfl id fun cx=>run_fieldAd rfl (by kernel_rfl) (cx.an 12)
    ·exact xs4 rfl id fun cx=>run_load1 rfl (by kernel_rfl) (cx.an 13) (At.eltc (f:=edC) (k:=1) edC_len (hA.ext cx.upd.to_ext) hek rfl)
    ·exact xsc rfl id rfl rfl fun cx=>⟨_,r04num_any (es+1) 1 _ (by omega),(map2 (cx.an 15) (cx.co _))⟩
    ·exact xs4 rfl id fun cx=>run_load1 rfl (by kernel_rfl) (cx.an 18) ((cx.bi 0 rfl).cell 5)
    ·exact xs4 rfl id fun cx=>run_indexSlM (e:=84) (m:=j) (sz:=3) rfl (by kernel_rfl) (by kernel_rfl) (cx.an 19) (cx.an 20) (by omega) (by omega) (hA.ext cx.upd.to_ext) (flatPos (sz:=3) edC_len (by decide) (by omega))
    ·exact xs4 rfl id fun cx=>run_fieldAd rfl (by kernel_rfl) (cx.an 21)
    ·exact xs4 rfl id fun cx=>run_load1 rfl (by kernel_rfl) (cx.an 22) (At.eltc (f:=edC) (k:=2) edC_len (hA.ext cx.upd.to_ext) hek rfl)
    ·exact xsc rfl id rfl rfl fun cx=>⟨_,r04text_any eb _ (by omega),(map1 (cx.an 23))⟩
   refine blk_normal (then_normal (sqr (sqp [.m 40 4,sI 41 ((j:Int)+1) (by omega), .m 4 41] ?_)))
   refine then_normal ?_
   refine ⟨l.length - ((j+1)),by omega,?_⟩
   exact ⟨(j+1),(((sj++(putS ep 2))++(putS (es+1) 1))++(textO eb)),by omega,by rw [edsF_take hek,← hsj]; exact (catL4 _ _ _ _).symm,rfl,(by kernel_rfl),hst16.pk [0]⟩
  refine wp_exit (then_exit (then_exit (blk_eq (then_normal (wp_seq ?_)))))
  obtain rfl:j=l.length:=by omega
  rw [List.take_length] at hsj
  have hsz:=edsF_size (l:=l) (fun e he=>edR_item (hro.eds e he)) (hdB ⟨k,x,t,l,note⟩)
  rw [← hsj,hdB_size] at hsz
  have htn:=textO_sz note
  refine sqr (sqp [.m 68 3, .k 69 (.pointer (some ⟨B1_1,6,none⟩))] ?_)
  refine sqld 0 hst9 ?_
  refine sqp [.k 71 (vi 0)] ?_
  refine sqk (.string (putS 0 1)) hst9 (fun cx=>⟨_,r04num_any 0 1 _ (by omega),(map2 (cx.ou 71) (cx.co _))⟩) fun W24 hst24=>?_
  refine sqp [sS 73 sj (putS 0 1) (by simp only [ByteArray.size_append,hp1,hp2,htz]; omega), .m 3 73] ?_
  refine then_normal (wp_seq (wp_seq (sqr (sqp [.k 5 (vi 0)] ?_))))
  refine then_normal (wp_block ?_)
  refine wp_loopT (fun t_ mz az W=>∃ j2:Nat,j2≤0∧mz=0 - j2∧az=⟨(ovr (jv az) [(5,5,0,[vi ((j2:Int))]),(68,74,15,[])] t_).toArray,[]⟩∧St w [] [eB B1_1 27 #[vi k,vi x,vi t, .slice none 0 0, .slice none 0 0, .slice A l.length c, .slice none 0 0, .string note]] W) (0 - 0) ?_ ?_
  · -- the loop begins
    exact ⟨0,Nat.zero_le _,rfl,(by kernel_rfl),hst24.pk [0]⟩
  rintro n28 a28 W28 ⟨j2,hj2,rfl,hj_,hst28⟩
  refine ovz hj_ fun u28_=>?_
  refine wp_seq (wp_seq (sqr (sqp [.m 74 5, .k 75 (.pointer (some ⟨B1_1,6,none⟩))] ?_)))
  refine sqld 0 hst28 ?_
  have hd34:(decide ((j2:Int) < 0))=false:=(decide_eq_false (by omega))
  refine sqp [.k 77 (vi 0), .e 78 (.bool (decide ((j2:Int) < 0))) (.bool false) (congrArg Value.bool hd34)] ?_
  refine then_normal (wcf rfl (wp_exit (then_exit (then_exit (blk_eq (then_normal (wp_seq (sqr (sqp [.m 89 3, .k 90 (.pointer (some ⟨B1_1,7,none⟩))] ?_)))))))))
  refine sqld 0 hst28 ?_
  refine sqk (.string (textO note)) hst28 (fun cx=>⟨_,r04text_any note _ (by omega),(map1 (cx.ou 91))⟩) fun W38 hst38=>?_
  refine sqp [sS 93 (sj++(putS 0 1)) (textO note) (by simp only [ByteArray.size_append,hp1,hp2,htz]; omega), .m 2 93] ?_
  refine then_normal (wp_ret ?_)
  refine bpr (.string ((sj++(putS 0 1))++(textO note))) (results_1 Tryz.results73 rpt) ?_
  exact Ret.of (congrArg Value.string (by rw [bytesR,if_pos hrr,← hsj]; exact (catL3 _ _ _))) hst38.ext
 refine wp_cond_true (show Act.eval _ _= .bool true from (congrArg Value.bool (by rw [hs6]; rfl))) (wp_seq (sqr (sqp [.k 2 (.string ⟨#[]⟩)] ?_)))
 refine then_normal (wp_ret (then_ret ?_))
 refine bpr (.string ⟨#[]⟩) (results_1 Tryz.results73 rpt) ?_
 exact Ret.of (by rw [bytesR,hs6]; rfl) hst4.ext
theorem r04frame_any (k x t:Int) (A:Option Addr) (c:Nat) (l:List EdT) (note:ByteArray) (w:World) (hA:At w A (l.flatMap edC)) (hl:l.length≤1000000) (hz:∀ e∈l,e.2.2.size≤9223372036854775807) (hns:note.size≤9223372036854775807):
  Calls Tryz.prog 29 #[.agg #[.int .i64 k, .int .i64 x, .int .i64 t, .slice none 0 0, .slice none 0 0, .slice A l.length c, .slice none 0 0, .string note]] w (Ret (.string (frameR ⟨k,x,t,l,note⟩)) w):=by
 go_enter Tryz.func29,Tryz.ntmps29
 have hst0:=St.start w
 refine wp_seq (sqr ?_)
 refine sqbx #[vi k,vi x,vi t, .slice none 0 0, .slice none 0 0, .slice A l.length c, .slice none 0 0, .string note] hst0 fun B1_1 W1 hst1=>?_
 refine sqp [.k 2 (.string ⟨#[]⟩)] ?_
 refine then_normal (wp_seq (wp_seq (sqr ?_)))
 refine sqlb 0 8 hst1 ?_
 refine sqk (.bool (recR ⟨k,x,t,l,note⟩)) hst1 (fun cx=>⟨_,r04right_any k x t _ _ l note _ (hA.ext cx.upd.to_ext) hl hz hns,(map1 (cx.ou 4))⟩) fun W4 hst4=>?_
 refine sqp [.k 6 (.bool (!(recR ⟨k,x,t,l,note⟩)))] ?_
 refine then_normal ?_
 rcases Bool.eq_false_or_eq_true (recR ⟨k,x,t,l,note⟩) with hs6 | hs6
 ·refine wp_cond_false (show Act.eval _ _= .bool false from (congrArg Value.bool (by rw [hs6]; rfl))) (wp_skip (then_normal (wp_seq (sqr ?_))))
  refine sqlb 0 8 hst4 ?_
  refine sqk (.string (bytesR ⟨k,x,t,l,note⟩)) hst4 (fun cx=>⟨_,r04bytes_any k x t _ _ l note _ (hA.ext cx.upd.to_ext) hl hz hns,(map1 (cx.ou 7))⟩) fun W8 hst8=>?_
  refine sqp [.m 3 8] ?_
  refine then_normal (wp_seq ?_)
  have hbz:=bytesR_size ⟨k,x,t,l,note⟩
  have hsl:=sumF_lt (bytesR ⟨k,x,t,l,note⟩)
  have hp4:∀ z:Int,(putS z 4).size=4:=fun z=>putS_size z 4 (by omega)
  refine sqr (sqp [.m 9 3, .k 10 (vi (((bytesR ⟨k,x,t,l,note⟩).size:Int)))] ?_)
  refine sqk (.string (putS ((bytesR ⟨k,x,t,l,note⟩).size:Int) 4)) hst8 (fun cx=>⟨_,r04num_any ((bytesR ⟨k,x,t,l,note⟩).size:Int) 4 _ (by omega),(map2 (cx.ou 10) (cx.co _))⟩) fun W12 hst12=>?_
  refine sqp [.m 12 3] ?_
  refine sqk (.int .u32 ((sumF (bytesR ⟨k,x,t,l,note⟩):Int))) hst12 (fun cx=>⟨_,rsum_any (bytesR ⟨k,x,t,l,note⟩) _ (by omega),(map1 (cx.ou 12))⟩) fun W14 hst14=>?_
  refine sqp [sW 14 .i64 (sumF (bytesR ⟨k,x,t,l,note⟩):Int) (sumF (bytesR ⟨k,x,t,l,note⟩):Int) (IntWalk.i64_in _ (by omega))] ?_
  refine sqk (.string (putS (sumF (bytesR ⟨k,x,t,l,note⟩):Int) 4)) hst14 (fun cx=>⟨_,r04num_any (sumF (bytesR ⟨k,x,t,l,note⟩):Int) 4 _ (by omega),(map2 (cx.ou 14) (cx.co _))⟩) fun W16 hst16=>?_
  refine sqp [sS 16 (putS ((bytesR ⟨k,x,t,l,note⟩).size:Int) 4) (putS (sumF (bytesR ⟨k,x,t,l,note⟩):Int) 4) (by simp only [ByteArray.size_append,hp4]; omega), .m 17 3,sS 18 ((putS ((bytesR ⟨k,x,t,l,note⟩).size:Int) 4)++(putS (sumF (bytesR ⟨k,x,t,l,note⟩):Int) 4)) (bytesR ⟨k,x,t,l,note⟩) (by simp only [ByteArray.size_append,hp4]; omega), .m 2 18] ?_
  refine then_normal (wp_ret ?_)
  refine bpr (.string (((putS ((bytesR ⟨k,x,t,l,note⟩).size:Int) 4)++(putS (sumF (bytesR ⟨k,x,t,l,note⟩):Int) 4))++(bytesR ⟨k,x,t,l,note⟩))) (results_1 Tryz.results29 rpt) ?_
  exact Ret.of (congrArg Value.string (by rw [frameR,if_pos hs6]; exact catL3b _ _ _)) hst16.ext
 refine wp_cond_true (show Act.eval _ _= .bool true from (congrArg Value.bool (by rw [hs6]; rfl))) (wp_seq (sqr (sqp [.k 2 (.string ⟨#[]⟩)] ?_)))
 refine then_normal (wp_ret (then_ret ?_))
 refine bpr (.string ⟨#[]⟩) (results_1 Tryz.results29 rpt) ?_
 exact Ret.of (by rw [frameR,hs6]; rfl) hst4.ext
end
section
open Go.RowKit
theorem tail_end {s:ByteArray} {L:List RecM} (h:s=logF L):TailP s (szF L):= .inl (by rw [h,logF_size]; omega)
theorem log_ap {s:ByteArray} {L:List RecM} (h:s=logF L):s=logF L++⟨#[]⟩:=by rw [ap_nil]; exact h
abbrev nS:ByteArray:=⟨#[110]⟩
def kS (k:Nat):ByteArray:=⟨#[UInt8.ofNat k]⟩
def r1:RecM:=⟨1,0,0,[(1, -1,kS 1)],⟨#[]⟩⟩
theorem r1_right:recR r1=true:=by decide
theorem r1_ord:ordF r1.eds=[1]:=rfl
theorem r1_out:r1.eds.any (outR 2)=false:=by decide
theorem r1_da:DoA r1:=⟨r1_right,by decide,by decide⟩
theorem r1_err:errF (contF [chkR nS]) r1.eds=0:=by decide+kernel
theorem r1_E:rfE 2 [chkR nS] r1=0:=rfE_0 r1_da r1_out r1_err (by
 have h1:=fr_size r1_right
 have h2:=fr_size (chk_right (note:=nS) (by decide))
 have h3:szF (imgsL [chkR nS] (ordF r1.eds))≤200000:=by
  rw [r1_ord]
  show szF [⟨8,0,1,[],bytesP pgs0⟩]≤ _
  have h4:recR ⟨8,0,1,[],bytesP pgs0⟩=true:=by
   have h1:=bytesP_size right0
   have a2:decide (((bytesP pgs0).size:Int)≤60000)=true:=decide_eq_true (by omega)
   show (inB 8 1 10&&(inB 0 0 127&&(inB 1 0 65535&&(decide ((([]:List EdT).length:Int)≤64)&&((([]:List EdT).all edR)&&decide (((bytesP pgs0).size:Int)≤60000))))))=true
   rw [a2]; decide
  have:=fr_size h4
  have e0:szF []=0:=rfl
  rw [szF_cons,e0]; omega
 rw [sz_chk]; omega)
theorem r1_L:(rfL [chkR nS] r1).length=3:=by decide+kernel
theorem r1_cur:contF (rfL [chkR nS] r1) 1=(1,3,[]):=by decide+kernel
theorem r1_from:fromF (rfL [chkR nS] r1)=1:=rfl
theorem kind_any (p:Int) (k:Nat) (w:World) (hk:k < 256):
  Calls Tryz.prog 42 #[.int .i64 p, .int .i64 ((k:Int))] w (Ret (.agg #[.int .i64 p, .int .i64 (-1), .string (kS k)]) w):=by
 go_enter Tryz.func42,Tryz.ntmps42
 have hst0:=St.start w
 refine wp_seq (sqr (sqal #[vi 0,vi 0, .string ByteArray.empty] hst0 fun B4_1 W1 hst1=>?_))
 refine then_normal (wp_seq (sqr (sqp [.m 5 0, .m 6 1,sW 7 .u8 (k:Int) (k:Int) (IntWalk.u8_in _ (by omega))] ?_)))
 refine sqn1 (fun x_=>sA x_) (fun A8_5=> .slice A8_5 1 1) (fun A8_5=>eO 5 1 (.slice A8_5 1 1) 1 ([.int .u8 ((k:Int))])) hst1 (by
   refine svA fun ρ β W X cx=>?_
   have fF7:ρ (.tmp 7)= .int .u8 ((k:Int)):=(cx.ou 7)
   exact dv_lit (e:=5) (xs:=[.int .u8 ((k:Int))]) rfl (by simp [go_sem,fF7]) rfl (by decide) rfl rfl (fun σ β' X' hs hb hv hx=>⟨hv,hx⟩)) fun A8_5 W5 hst5=>?_
 refine sql (.string (strOfNums ([((k:Int))]))) hst5 (fun cx=>run_convB (e:=5) rfl (by kernel_rfl) (by kernel_rfl) (by kernel_rfl) (cx.ou 8) (cx.ri 1 rfl)) ?_
 refine sqp [.k 10 (.agg #[vi p,vi (-1), .string (strOfNums ([((k:Int))]))])] ?_
 refine sqst (n:=3) 0 #[vi p,vi (-1), .string (strOfNums ([((k:Int))]))] hst5 fun W8 hst8=>?_
 refine then_normal (wp_ret ?_)
 refine bpr (.agg #[vi p,vi (-1), .string (strOfNums ([((k:Int))]))]) (results_cell (n:=3) Tryz.results42 rfl (by kernel_rfl) (by kernel_rfl) (hst8.blk 0 rfl) rfl) ?_
 exact Ret.of (rfl) hst8.ext
end
section
open Go.RowKit
def eNi (sb db:Nat) (L:List RecM) (told:Int→Bool) (p c:Nat) (fp:List Nat):Ent:=eSx sb db (fun S=>Nice S L told p c) fp
theorem eNi_self {e:Ent} {sb db:Nat} {L:List RecM} {told:Int→Bool} {p c:Nat} {fp:List Nat} (h:e=eNi sb db L told p c fp):e=eNi sb db L told p c e.fp:=by subst h; rfl
theorem St.sxm {w0 W:World} {bor:List Nat} {L1 L2:List Ent} {sb db:Nat} {Φ Ψ:StM→Prop} {fp:List Nat} (h:St w0 bor (L1++eSx sb db Φ fp::L2) W) (hi:∀ S,Φ S→Ψ S):St w0 bor (L1++eSx sb db Ψ fp::L2) W:=St.repl h rfl (fun ⟨S,a,b⟩=>⟨S,hi S a,b⟩) (eSx_loc _ _ _ _)
theorem St.sxe {w0 W:World} {bor:List Nat} {L1 L2:List Ent} {sb db:Nat} {Φ:StM→Prop} {fp:List Nat} (h:St w0 bor (L1++eSx sb db Φ fp::L2) W):∃ S,Φ S:=let ⟨S,a, _⟩:=(h.ok (eSx sb db Φ fp) (by simp)).holds; ⟨S,a⟩
section
variable {sb db:Nat} {L:List RecM} {told:Int→Bool} {p c:Nat} {fp:List Nat} {w:World}
theorem ndo_any (r:RecM) (A:Option Addr) (rc:Nat) (hB:(eNi sb db L told p c fp).holds w) (hlt:∀ k∈fp,k < w.heap.size) (hc:c≤800000) (hA:∀ W,Upd fp w W→At W A (r.eds.flatMap edC)) (hI:r.eds.length≤100000) (hz:∀ e∈r.eds,e.2.2.size≤9223372036854775807) (hns:r.note.size≤9223372036854775807):
  Calls Tryz.prog 17 #[.pointer (some ⟨sb,0,none⟩), .agg #[.int .i64 r.kind, .int .i64 r.xid, .int .i64 r.tbl, .slice none 0 0, .slice none 0 0, .slice A r.eds.length rc, .slice none 0 0, .string r.note]] w
   (fun e w'=>e= .returned (.tuple #[.int .i64 (rfD p L told r).2.1, .int .i64 (rfE p L r)])∧∃ fp',St w fp [eNi sb db (rfD p L told r).1 (rfD p L told r).2.2.2 p (c+700) fp'] w'):=by
 obtain ⟨S,hN,hS⟩:=hB
 refine (sdo_any sb db S r A rc c fp w hS hlt hN.ok hc hA hI hz hns).mono ?_
 rintro e w' ⟨n,er,rfl,fp',hs⟩
 obtain ⟨S2,h1,h2⟩:=St.sxe (L1:=[]) (L2:=[]) hs
 obtain ⟨rfl,rfl, _⟩:=hN.do h1 h2
 exact ⟨rfl,fp',St.sxm (L1:=[]) (L2:=[]) hs fun S2 h=>(hN.do h.1 h.2).2.2⟩
noncomputable def pgC (L:List RecM) (p:Nat) (n:Int):PgS:=if 0≤n∧n < (p:Int) then contF L n else pgs0
theorem npage_any (n:Int) (hB:(eNi sb db L told p c fp).holds w) (hlt:∀ k∈fp,k < w.heap.size) (hc:c≤800000) (hn:kcI.ok n):
  Calls Tryz.prog 21 #[.pointer (some ⟨sb,0,none⟩), .int .i64 n] w
   (fun e w'=>∃ A cc,e= .returned (.tuple #[.agg #[.int .i64 (pgC L p n).1, .int .i64 (pgC L p n).2.1, .slice A (pgC L p n).2.2.length cc], .bool (decide (0≤n∧n < (p:Int)))])∧∃ fp',St w fp [eNi sb db L told p (c+3) fp',eO 9 1 (.slice A (pgC L p n).2.2.length cc) (pgC L p n).2.2.length ((pgC L p n).2.2.map Value.string)] w'):=by
 obtain ⟨S,hN,hS⟩:=hB
 refine (spage_any sb db S n c fp w hS hlt hN.ok (by omega) hn).mono ?_
 rintro e w' ⟨ok,A,cc,rfl,fp',hs⟩
 obtain ⟨S2,h1⟩:=St.sxe (L1:=[]) hs
 obtain ⟨e1,e2, _⟩:=hN.page h1
 have hs2:=St.sxm (L1:=[]) (Ψ:=fun S=>Nice S L told p (c+3)) hs fun S2 h=>(hN.page h).2.2
 subst e1
 rw [show pgF S n _=pgC L p n from e2] at hs2 ⊢
 exact ⟨A,cc,rfl,fp',hs2⟩
theorem nfresh_any (hB:(eNi sb db L told p c fp).holds w) (hlt:∀ k∈fp,k < w.heap.size) (hc:c≤800000):
  Calls Tryz.prog 22 #[.pointer (some ⟨sb,0,none⟩)] w
   (fun e w'=>e= .returned (.int .i64 (frF p L told))∧∃ fp',St w fp [eNi sb db L (frT p L told) p (c+3*p+1) fp'] w'):=by
 obtain ⟨S,hN,hS⟩:=hB
 refine (sfresh_any sb db S c fp w hS hlt hN.ok (by omega)).mono ?_
 rintro e w' ⟨r,rfl,fp',hs⟩
 obtain ⟨S2,h1⟩:=St.sxe (L1:=[]) (L2:=[]) hs
 obtain ⟨rfl, _⟩:=hN.fresh h1
 exact ⟨rfl,fp',St.sxm (L1:=[]) (L2:=[]) hs fun S2 h=>(hN.fresh h).2⟩
theorem ncheck_any (note:ByteArray) (hB:(eNi sb db L told p c fp).holds w) (hlt:∀ k∈fp,k < w.heap.size) (hc:c≤800000) (hn:note.size≤9000000):
  Calls Tryz.prog 28 #[.pointer (some ⟨sb,0,none⟩), .string note] w
   (fun e w'=>e= .returned (.int .i64 (ckrE L note))∧∃ fp',St w fp [eNi sb db (ckL L note) told p (c+500) fp'] w'):=by
 obtain ⟨S,hN,hS⟩:=hB
 refine (scheck_any sb db S note c fp w hS hlt hN.ok hc hn).mono ?_
 rintro e w' ⟨er,rfl,fp',hs⟩
 obtain ⟨S2,h1,h2⟩:=St.sxe (L1:=[]) (L2:=[]) hs
 obtain ⟨rfl, _⟩:=hN.check h1 h2
 exact ⟨rfl,fp',St.sxm (L1:=[]) (L2:=[]) hs fun S2 h=>(hN.check h.1 h.2).2⟩
end
end
section
open Go.RowKit
section
variable {sb db:Nat} {L:List RecM} {told:Int→Bool} {p c:Nat} {fp:List Nat} {w:World}
theorem eNi_at (hB:(eNi sb db L told p c fp).holds w):∃ S,Nice S L told p c∧StAt w sb db S:=let ⟨S,a,b⟩:=hB; ⟨S,a,eSt_at b⟩
theorem Nice.len {S:StM} (h:Nice S L told p c):S.recs.length=L.length:=by rw [← h.eL]; exact (List.length_map ..).symm
theorem nfrom_any (hB:(eNi sb db L told p c fp).holds w):Calls Tryz.prog 45 #[.pointer (some ⟨sb,0,none⟩)] w (Ret (.int .i64 (fromF L:Int)) w):=by
 obtain ⟨S,h,hs⟩:=eNi_at hB
 have e:=h.wi.frm
 rw [h.eL] at e
 rw [← e]; exact sfrom_any sb db S w hs
/-- the note of the last checkpoint -/
def noteF (L:List RecM):ByteArray:=(L[fromF L - 1]?.map RecM.note).getD ⟨#[]⟩
theorem nnote_any (hB:(eNi sb db L told p c fp).holds w) (h0:0 < fromF L):Calls Tryz.prog 25 #[.pointer (some ⟨sb,0,none⟩)] w (Ret (.string (noteF L)) w):=by
 obtain ⟨S,h,hs⟩:=eNi_at hB
 have hl:=h.len
 have hb:=h.ok.recs_len
 have hf:=fromF_le L
 have e:=h.wi.frm
 rw [h.eL] at e
 obtain ⟨rt,hrt⟩:∃ rt,S.recs[fromF L - 1]? =some rt:=⟨_,List.getElem?_eq_getElem (by omega)⟩
 have e2:noteF L=rt.r.note:=by
  have:L[fromF L - 1]? =some rt.r:=by rw [← h.eL]; exact (List.getElem?_map ..).trans (by rw [h.eL,hrt]; rfl)
  rw [noteF,this]; rfl
 rw [e2]
 exact snote_any sb db S (fromF L - 1) rt w hs (by rw [e]; omega) hrt (by omega)
theorem nlog_any (hB:(eNi sb db L told p c fp).holds w):Calls Tryz.prog 15 #[.pointer (some ⟨db,0,none⟩)] w (Ret (.string (logF L)) w):=by
 obtain ⟨S,h,mb,RA,rc,EA,ec,ib,tb,hs⟩:=eNi_at hB
 have e:=h.ok.log
 rw [h.eL] at e
 rw [← e]; exact klog_any db S.D w hs.dk
theorem nformat_any (n:Nat) (note:ByteArray) (hB:(eDk db (newD n) fp).holds w) (hlt:∀ k∈fp,k < w.heap.size) (hn:note.size≤60000):
  Calls Tryz.prog 20 #[.pointer (some ⟨db,0,none⟩), .string note] w (fun e w'=>e= .returned (.int .i64 0)∧∃ fp',St w fp [eDk db (bgD n note) fp'] w'):=by
 refine (sformat_any db (newD n) note fp w hB hlt (Nat.zero_le _) (by omega)).mono ?_
 rintro e w' ⟨rfl,fp',hs⟩
 rw [fmt_new n hn] at hs ⊢
 exact ⟨rfl,fp',hs⟩
theorem nopen_any (n:Nat) (note:ByteArray) (bufs:Int) (hB:(eDk db (bgD n note) fp).holds w) (hlt:∀ k∈fp,k < w.heap.size) (hn:note.size≤60000) (hp:n≤400) (hb:1≤bufs∧bufs≤64):
  Calls Tryz.prog 18 #[.pointer (some ⟨db,0,none⟩), .int .i64 bufs] w (fun e w'=>∃ sb,e= .returned (.tuple #[.pointer (some ⟨sb,0,none⟩), .int .i64 0])∧∃ fp',St w fp [eNi sb db [chkR note] (fun _=>false) n 0 fp'] w'):=by
 have hf:=fr_size (chk_right hn)
 have hl:(bgD n note).log=logF [chkR note]:=(log_chk note).symm
 have hz:(bgD n note).log.size=(frameR (chkR note)).size:=rfl
 have hL:∀ r∈[chkR note],recR r=true:=fun r hr=>by rw [List.mem_singleton.1 hr]; exact chk_right hn
 refine (sopen_any db (bgD n note) bufs [chkR note] ⟨#[]⟩ 0 fp w hB hlt (log_ap hl) hL (tail_end hl) (by omega) (Nat.le_refl _) (by show (List.replicate n _).length≤ _; rw [List.length_replicate]; exact hp) (fun x hx=>by rw [List.eq_of_mem_replicate hx]; exact Nat.le_refl _) (by show 0+200*1≤900000; decide) (fun r hr h8=>by rw [List.mem_singleton.1 hr] at h8; cases h8)).mono ?_
 rintro e w' ⟨v,er,rfl,fp',hs⟩
 obtain ⟨sb,S,rfl,rfl,hN,hs2⟩:=St.opnN (L:=[]) hs hp hn hb
 exact ⟨sb,rfl,fp',St.sx (L:=[]) hs2 hN.nice⟩
end
theorem r1_D:rfD 2 [chkR nS] (fun _=>false) r1=(rfL [chkR nS] r1,3,0,rfT (fun _=>false) [chkR nS] r1):=by rw [rfD_ok r1_E,r1_L]; rfl
def t1:Int→Bool:=rfT (fun _=>false) [chkR nS] r1
def L1:List RecM:=rfL [chkR nS] r1
theorem r1_f1:frF 2 L1 t1=0:=by decide+kernel
theorem r1_f2:frF 2 L1 (frT 2 L1 t1)= -1:=by decide+kernel
theorem r1_note:noteF L1=nS:=by decide+kernel
theorem r1_pg:pgC L1 2 1=(1,3,[]):=by rw [pgC,if_pos (by decide)]; exact r1_cur
section
variable {sb db c:Nat} {fp:List Nat} {w:World}
theorem ndo_r1 (A:Option Addr) (rc:Nat) (hB:(eNi sb db [chkR nS] (fun _=>false) 2 0 fp).holds w) (hlt:∀ k∈fp,k < w.heap.size) (hA:∀ W,Upd fp w W→At W A (r1.eds.flatMap edC)):
  Calls Tryz.prog 17 #[.pointer (some ⟨sb,0,none⟩), .agg #[.int .i64 1, .int .i64 0, .int .i64 0, .slice none 0 0, .slice none 0 0, .slice A 1 rc, .slice none 0 0, .string ⟨#[]⟩]] w
   (fun e w'=>e= .returned (.tuple #[.int .i64 3, .int .i64 0])∧∃ fp',St w fp [eNi sb db L1 t1 2 700 fp'] w'):=by
 have h:=ndo_any r1 A rc hB hlt (by decide) hA (by decide) (by decide) (by decide)
 rw [r1_D,r1_E] at h
 exact h
theorem npage_r1 (hB:(eNi sb db L1 t1 2 c fp).holds w) (hlt:∀ k∈fp,k < w.heap.size) (hc:c≤800000):
  Calls Tryz.prog 21 #[.pointer (some ⟨sb,0,none⟩), .int .i64 1] w
   (fun e w'=>∃ A cc,e= .returned (.tuple #[.agg #[.int .i64 1, .int .i64 3, .slice A 0 cc], .bool true])∧∃ fp',St w fp [eNi sb db L1 t1 2 (c+3) fp',eO 9 1 (.slice A 0 cc) 0 []] w'):=by
 have h:=npage_any 1 hB hlt hc (by constructor<;>decide)
 rw [r1_pg] at h
 exact h
theorem nfresh_r1 (hB:(eNi sb db L1 t1 2 c fp).holds w) (hlt:∀ k∈fp,k < w.heap.size) (hc:c≤800000):
  Calls Tryz.prog 22 #[.pointer (some ⟨sb,0,none⟩)] w (fun e w'=>e= .returned (.int .i64 0)∧∃ fp',St w fp [eNi sb db L1 (frT 2 L1 t1) 2 (c+7) fp'] w'):=by
 have h:=nfresh_any hB hlt hc
 rw [r1_f1] at h
 exact h
theorem nfresh_r2 (hB:(eNi sb db L1 (frT 2 L1 t1) 2 c fp).holds w) (hlt:∀ k∈fp,k < w.heap.size) (hc:c≤800000):
  Calls Tryz.prog 22 #[.pointer (some ⟨sb,0,none⟩)] w (fun e w'=>e= .returned (.int .i64 (-1))∧∃ fp',St w fp [eNi sb db L1 (frT 2 L1 (frT 2 L1 t1)) 2 (c+7) fp'] w'):=by
 have h:=nfresh_any hB hlt hc
 rw [r1_f2] at h
 exact h
theorem nnote_r1 {told:Int→Bool} (hB:(eNi sb db L1 told 2 c fp).holds w):Calls Tryz.prog 25 #[.pointer (some ⟨sb,0,none⟩)] w (Ret (.string ⟨#[110]⟩) w):=by
 have h:=nnote_any hB (by decide+kernel)
 rw [r1_note] at h
 exact h
theorem nfrom_r1 {told:Int→Bool} (hB:(eNi sb db L1 told 2 c fp).holds w):Calls Tryz.prog 45 #[.pointer (some ⟨sb,0,none⟩)] w (Ret (.int .i64 1) w):=by
 have h:=nfrom_any hB
 rw [show fromF L1=1 from r1_from] at h
 exact h
end
end
section
open Go.RowKit
theorem sanity_any (w:World):
  Calls Tryz.prog 13 #[] w (Ret (.bool true) w):=by
 go_enter Tryz.func13,Tryz.ntmps13
 have hst0:=St.start w
 refine wp_seq (sqr (sqp [.k 0 (.bool false)] ?_))
 refine then_normal (wp_seq (sqr ?_))
 refine sqk1s (fun D9_2=>vp D9_2) (fun D9_2 r0_2=>eDk D9_2 (newD 2) r0_2) hst0 (fun cx=>⟨_,(knew_any 2 _ (by decide)).mono (by rintro e W1 ⟨b4,rfl,fp4,hs4⟩; exact ⟨_, _,rfl,hs4⟩),(map1 (cx.co _))⟩) fun D9_2 r0_2 W2 hst2=>?_
 refine sqp [.m 1 9] ?_
 refine then_normal (wp_seq (sqr (sqp [.m 10 1] ?_)))
 refine sqc0s (fun X_=>X_.fp) (vi 0) (fun r1_5=>eDk D9_2 (bgD 2 (⟨#[110]⟩:ByteArray)) r1_5) 0 hst2 (by
   refine svA fun ρ β W X cx=>?_
   refine DoesU.call (run_callF (args:=#[vp D9_2, .string ⟨#[110]⟩]) rfl cx.sees rfl (by kernel_rfl) (map2 (cx.ou 10) (cx.co _))) ?_
   refine (nformat_any 2 (⟨#[110]⟩:ByteArray) (CtxV.holdF cx (cx.init 0 _ rfl) rfl) (CtxV.ltF cx (cx.init 0 _ rfl) rfl) (by decide)).mono ?_
   rintro e W1 ⟨rfl,fp4,hs4⟩
   refine ⟨_,rfl,post_obj (E:=eDk D9_2 (newD 2) r0_2) [eDk D9_2 (bgD 2 (⟨#[110]⟩:ByteArray)) fp4] (cx.init 0 _ rfl) rfl rfl hs4 (fun σ β' X' hs hb hv hN=>?_)⟩
   have hv1:=(hv 11 rfl).1; have hv2:=(hv 11 rfl).2
   exact ⟨hv1.trans rfl,eDk_self ((List.cons.inj hN).1)⟩) fun r1_5 W5 hst5=>?_
 refine sqp [.m 2 11] ?_
 refine then_normal (wp_seq (sqr (sqp [.m 13 1] ?_)))
 refine sqc1s (fun x_=>pb (tg x_ 0)) (fun X_=>X_.fp) (fun S14_8=> .tuple #[vp S14_8,vi 0]) (fun S14_8 r1_8=>eNi S14_8 D9_2 ([chkR (⟨#[110]⟩:ByteArray)]) (fun _=>false) 2 0 r1_8) 0 hst5 (by
   refine svA fun ρ β W X cx=>?_
   refine DoesU.call (run_callF (args:=#[vp D9_2,vi 1]) rfl cx.sees rfl (by kernel_rfl) (map2 (cx.ou 13) (cx.co _))) ?_
   refine (nopen_any 2 (⟨#[110]⟩:ByteArray) 1 (CtxV.holdF cx (cx.init 0 _ rfl) rfl) (CtxV.ltF cx (cx.init 0 _ rfl) rfl) (by decide) (by decide) (by decide)).mono ?_
   rintro e W1 ⟨sb4,rfl,fp4,hs4⟩
   refine ⟨_,rfl,post_obj (E:=eDk D9_2 (bgD 2 (⟨#[110]⟩:ByteArray)) r1_5) [eNi sb4 D9_2 [chkR (⟨#[110]⟩:ByteArray)] (fun _=>false) 2 0 fp4] (cx.init 0 _ rfl) rfl rfl hs4 (fun σ β' X' hs hb hv hN=>?_)⟩
   have hv1:=(hv 14 rfl).1; have hv2:=(hv 14 rfl).2
   exact ⟨hv1.trans (by rw [hv2]; exact rfl),(by rw [hv2]; exact eNi_self ((List.cons.inj hN).1))⟩) fun S14_8 r1_8 W8 hst8=>?_
 refine sqp [.m 12 14, .k 15 (vp S14_8), .k 16 (vi 0), .m 3 15, .m 4 16] ?_
 refine then_normal (wp_seq (wp_seq (sqr (sqp [.m 17 2, .k 18 (.bool false), .k 19 (.bool false)] ?_))))
 refine sqgy 19 [20,21] rfl rfl ?_
 refine sqp [.m 20 4, .k 21 (.bool false)] ?_
 refine sqp [.k 22 (.bool false), .k 23 (.bool false)] ?_
 refine sqgy 23 [24,25] rfl rfl ?_
 refine sqp [.m 24 3] ?_
 refine sqv (.bool false) hst8 (by
   exact sv0 rfl rfl rfl rfl rfl (fun _ _ _ h=>h) fun ρ β W X cx=>by
    have fF24:ρ (.tmp 24)=vp S14_8:=(cx.ou 24)
    simp [go_sem,cx.sees.const,fF24]) fun W22 hst22=>?_
 refine sqp [.k 26 (.bool false)] ?_
 refine then_normal (wcf rfl (wp_skip (then_normal (wp_seq (sqr (sqp [.m 28 3] ?_))))))
 refine sqk (.agg #[vi 1,vi ((-1)), .string ((kS 1))]) hst22 (fun cx=>⟨_,kind_any 1 1 _ (by decide),(map2 (cx.co _) (cx.co _))⟩) fun W25 hst25=>?_
 refine sqli 84 3 1 [vi 1,vi ((-1)), .string ((kS 1))] hst25 (@fun ρ β W X cx=>by have fF29:ρ (.tmp 29)= .agg #[vi 1,vi ((-1)), .string ((kS 1))]:=(cx.ou 29); simp [go_sem,fF29]) fun B30_26 W26 hst26=>?_
 refine sqp [.k 31 (.agg #[vi 1,vi 0,vi 0, .slice none 0 0, .slice none 0 0, .slice ((some ⟨B30_26,0,none⟩)) 1 1, .slice none 0 0, .string ByteArray.empty])] ?_
 refine sqc0s (fun X_=>X_.fp) (.tuple #[vi 3,vi 0]) (fun r2_28=>eNi S14_8 D9_2 L1 t1 2 700 r2_28) 0 hst26 (by
   refine svA fun ρ β W X cx=>?_
   refine DoesU.call (run_callF (args:=#[vp S14_8, .agg #[vi 1,vi 0,vi 0, .slice none 0 0, .slice none 0 0, .slice ((some ⟨B30_26,0,none⟩)) 1 1, .slice none 0 0, .string ByteArray.empty]]) rfl cx.sees rfl (by kernel_rfl) (map2 (cx.ou 28) (cx.ou 31))) ?_
   refine (ndo_r1 _ _ (CtxV.holdF cx (cx.init 0 _ rfl) rfl) (CtxV.ltF cx (cx.init 0 _ rfl) rfl) (CtxV.keepAt cx (cx.init 1 _ rfl) (cx.init 0 _ rfl) rfl rfl (by decide))).mono ?_
   rintro e W1 ⟨rfl,fp4,hs4⟩
   refine ⟨_,rfl,post_obj (E:=eNi S14_8 D9_2 ([chkR (⟨#[110]⟩:ByteArray)]) (fun _=>false) 2 0 r1_8) [eNi S14_8 D9_2 L1 t1 2 700 fp4] (cx.init 0 _ rfl) rfl rfl hs4 (fun σ β' X' hs hb hv hN=>?_)⟩
   have hv1:=(hv 32 rfl).1; have hv2:=(hv 32 rfl).2
   exact ⟨hv1.trans rfl,eNi_self ((List.cons.inj hN).1)⟩) fun r2_28 W28 hst28=>?_
 refine sqp [.m 27 32, .k 33 (vi 3), .k 34 (vi 0), .m 5 33, .m 6 34] ?_
 refine then_normal (wp_seq (wp_region_Y [0,1,3,7,7,0,47,127] [[],[0],[],[],[],[],[4]] [[],[2,3],[],[],[],[4],[5]] [[],[0],[],[],[],[],[4]] [.k 36 (vp S14_8), .a 37, .a 35, .a 38, .c 39 (.bool true), .a 7, .n, .k 8 (.bool true)] (fun ix σ β X=>match ix with | 0=>True | 1=>σ 37= .tuple #[.agg #[vi 1,vi 3, .slice (sA (tg (tg (β 37) 0) 2)) 0 (sC (tg (tg (β 37) 0) 2))], .bool true]∧X 2=eNi S14_8 D9_2 L1 t1 2 (700+3) ((X 2).fp)∧X 3=eO 9 1 (.slice (sA (tg (tg (β 37) 0) 2)) 0 (sC (tg (tg (β 37) 0) 2))) 0 ([]) | 2=>σ 35= .tuple #[.agg #[vi 1,vi 3, .slice (sA (tg (tg (β 37) 0) 2)) 0 (sC (tg (tg (β 37) 0) 2))], .bool true] | 3=>σ 38= .agg #[vi 1,vi 3, .slice (sA (tg (tg (β 37) 0) 2)) 0 (sC (tg (tg (β 37) 0) 2))] | 4=>True | 5=>σ 7=vp (pb (β 7))∧X 4=eB (pb (β 7)) 48 #[vi 0,vi 0, .slice none 0 0] | 6=>X 5=eB (pb (β 7)) 48 #[vi 1,vi 3, .slice (sA (tg (tg (β 37) 0) 2)) 0 (sC (tg (tg (β 37) 0) 2))] | _=>True) [1,2,3,5] [1,2,3,4,5,6] [(7,5,3,9),(26,2,1,27),(0,0,2,2),(0,3,2,2)] hst28 ?_ ?_ ?_))
 ·exact fun ix _ _ _ _ _ _ hs hb hx h=>match ix,h with
  | 1,h=>by dsimp only; rw [← hs 37 rfl,← hb 37 rfl,← hx 2 rfl,← hx 3 rfl]; exact h
  | 2,h=>by dsimp only; rw [← hs 35 rfl,← hb 37 rfl]; exact h
  | 3,h=>by dsimp only; rw [← hs 38 rfl,← hb 37 rfl]; exact h
  | 5,h=>by dsimp only; rw [← hs 7 rfl,← hb 7 rfl,← hx 4 rfl]; exact h
  | 6,h=>by dsimp only; rw [← hb 7 rfl,← hb 37 rfl,← hx 5 rfl]; exact h
  | 0, _ | 4, _ | _+7, _=>trivial
 ·refine ⟨?_,?_,?_,?_,?_,?_,trivial⟩
  ·refine svA fun ρ β W X cx=>?_
   refine DoesU.call (run_callF (args:=#[vp S14_8,vi 1]) rfl cx.sees rfl (by kernel_rfl) (map2 (cx.an 0) (cx.co _))) ?_
   refine (npage_r1 (CtxV.holdF cx (cx.init 0 _ rfl) rfl) (CtxV.ltF cx (cx.init 0 _ rfl) rfl) (by decide)).mono ?_
   rintro e W1 ⟨A4,c4,rfl,fp4,hs4⟩
   refine ⟨_,rfl,post_obj (E:=eNi S14_8 D9_2 L1 t1 2 700 r2_28) [eNi S14_8 D9_2 L1 t1 2 (700+3) fp4,eO 9 1 (.slice A4 0 c4) 0 []] (cx.init 0 _ rfl) rfl rfl hs4 (fun σ β' X' hs hb hv hN=>?_)⟩
   have hv1:=(hv 37 rfl).1; have hv2:=(hv 37 rfl).2
   exact ⟨hv1.trans (by rw [hv2]; exact rfl),eNi_self ((List.cons.inj hN).1),(by rw [hv2]; exact (List.cons.inj (List.cons.inj hN).2).1)⟩
  ·exact sv rfl rfl rfl rfl rfl _ (fun _ _ _ h=>h) (fun β β' h=>by rw [h 37 (by decide)]) fun ρ β W X cx=>run_move' rfl (dTn (cx.an 1)).1
  ·exact sv rfl rfl rfl rfl rfl _ (fun _ _ _ h=>h) (fun β β' h=>by rw [h 37 (by decide)]) fun ρ β W X cx=>run_extract' rfl (dTn (cx.an 2)) rfl
  ·exact xs4 rfl id fun cx=>run_extract' rfl (dTn (cx.an 2)) rfl
  ·refine svA fun ρ β W X cx=>?_
   exact dv_alloc (cs:=#[vi 0,vi 0, .slice none 0 0]) rfl (by kernel_rfl) rfl rfl (fun σ β' X' hs hb hv hx=>⟨hv,hx⟩)
  ·refine svA fun ρ β W X cx=>?_
   exact dv_store (n:=3) rfl (dTn (cx.an 5)).1 (dTn (cx.an 3)) (by kernel_rfl) (by kernel_rfl) (by kernel_rfl) cx (dTn (cx.an 5)).2 rfl (nle rfl) (by kernel_rfl) rfl rfl rfl (fun σ β' X' hs hb hx=>by rw [hb 7,hb 37]; exact hx)
 intro σ β X W34 hD hst34 fr hfr
 obtain ⟨A37_34,hu_A37_34⟩:∃ z,sA (tg (tg (β 37) 0) 2)=z:=⟨_,rfl⟩
 obtain ⟨c37_34,hu_c37_34⟩:∃ z,sC (tg (tg (β 37) 0) 2)=z:=⟨_,rfl⟩
 obtain ⟨B7_34,hu_B7_34⟩:∃ z,pb (β 7)=z:=⟨_,rfl⟩
 have xX2:X 2= _:=(dTn (hD 1 lq)).2.1
 obtain ⟨r2_34,hu_r2_34⟩:∃ z,(X 2).fp=z:=⟨_,rfl⟩
 rw [hu_r2_34] at xX2
 clear hu_r2_34
 simp only [xX2,exq 3 ((dTn (hD 1 lq)).2.2),exq 5 ((dTn (hD 6 lq))),hu_A37_34,hu_c37_34,hu_B7_34] at hst34
 simp only [ed 37 ((dTn (hD 1 lq)).1),ed 35 ((dTn (hD 2 lq))),ed 38 ((dTn (hD 3 lq))),ed 7 ((dTn (hD 5 lq)).1),hu_A37_34,hu_c37_34,hu_B7_34] at hfr
 clear hD xX2 hu_A37_34 hu_c37_34 hu_B7_34; subst hfr; clear σ β X
 refine then_normal (wp_seq (sqr (sqp [.m 40 5, .k 41 (.bool true), .k 42 (.bool true)] ?_)))
 refine sqgy 42 [43,44] rfl rfl ?_
 refine sqp [.m 43 6, .k 44 (.bool true)] ?_
 refine sqp [.k 45 (.bool true), .k 46 (.bool true)] ?_
 refine sqgy 46 [47] rfl rfl ?_
 refine sqp [.k 47 (.bool true)] ?_
 refine sqp [.k 48 (.bool true), .k 49 (.bool true)] ?_
 refine sqgy 49 [50,51,52] rfl rfl ?_
 refine sqp [.k 50 (vp B7_34)] ?_
 refine sqld 3 hst34 ?_
 refine sqp [.k 52 (.bool true)] ?_
 refine sqp [.k 53 (.bool true), .k 54 (.bool true)] ?_
 refine sqgy 54 [55,56,57] rfl rfl ?_
 refine sqp [.k 55 (.pointer (some ⟨B7_34,1,none⟩))] ?_
 refine sqld 3 hst34 ?_
 refine sqp [.k 57 (.bool true)] ?_
 refine sqp [.k 58 (.bool true), .k 59 (.bool true)] ?_
 refine sqgy 59 [60,61,62] rfl rfl ?_
 refine sqp [.m 60 3] ?_
 refine sqc0s (fun X_=>X_.fp) (vi 0) (fun r4_56=>eNi S14_8 D9_2 L1 (frT 2 L1 t1) 2 ((700+3)+7) r4_56) 1 hst34 (by
   refine svA fun ρ β W X cx=>?_
   refine DoesU.call (run_callF (args:=#[vp S14_8]) rfl cx.sees rfl (by kernel_rfl) (map1 (cx.ou 60))) ?_
   refine (nfresh_r1 (CtxV.holdF cx (cx.init 1 _ rfl) rfl) (CtxV.ltF cx (cx.init 1 _ rfl) rfl) (by decide)).mono ?_
   rintro e W1 ⟨rfl,fp4,hs4⟩
   refine ⟨_,rfl,post_obj (E:=eNi S14_8 D9_2 L1 t1 2 (700+3) r2_34) [eNi S14_8 D9_2 L1 (frT 2 L1 t1) 2 ((700+3)+7) fp4] (cx.init 1 _ rfl) rfl rfl hs4 (fun σ β' X' hs hb hv hN=>?_)⟩
   have hv1:=(hv 61 rfl).1; have hv2:=(hv 61 rfl).2
   exact ⟨hv1.trans rfl,eNi_self ((List.cons.inj hN).1)⟩) fun r4_56 W56 hst56=>?_
 refine sqp [.k 62 (.bool true)] ?_
 refine sqp [.k 63 (.bool true), .k 64 (.bool true)] ?_
 refine sqgy 64 [65,66,67] rfl rfl ?_
 refine sqp [.m 65 3] ?_
 refine sqc0s (fun X_=>X_.fp) (vi ((-1))) (fun r4_61=>eNi S14_8 D9_2 L1 (frT 2 L1 (frT 2 L1 t1)) 2 (((700+3)+7)+7) r4_61) 1 hst56 (by
   refine svA fun ρ β W X cx=>?_
   refine DoesU.call (run_callF (args:=#[vp S14_8]) rfl cx.sees rfl (by kernel_rfl) (map1 (cx.ou 65))) ?_
   refine (nfresh_r2 (CtxV.holdF cx (cx.init 1 _ rfl) rfl) (CtxV.ltF cx (cx.init 1 _ rfl) rfl) (by decide)).mono ?_
   rintro e W1 ⟨rfl,fp4,hs4⟩
   refine ⟨_,rfl,post_obj (E:=eNi S14_8 D9_2 L1 (frT 2 L1 t1) 2 ((700+3)+7) r4_56) [eNi S14_8 D9_2 L1 (frT 2 L1 (frT 2 L1 t1)) 2 (((700+3)+7)+7) fp4] (cx.init 1 _ rfl) rfl rfl hs4 (fun σ β' X' hs hb hv hN=>?_)⟩
   have hv1:=(hv 66 rfl).1; have hv2:=(hv 66 rfl).2
   exact ⟨hv1.trans rfl,eNi_self ((List.cons.inj hN).1)⟩) fun r4_61 W61 hst61=>?_
 refine sqp [.k 67 (.bool ((-1)==(-1)))] ?_
 refine sqp [.k 68 (.bool ((-1)==(-1))), .m 69 68] ?_
 refine sqwW 69 [70,71,72] ?_ hst61 rfl (fun hq=>?_) fun W68 hst68=>?_
 rotate_left
 ·refine sqp [.m 70 3] ?_
  refine sqk (.string ((⟨#[110]⟩:ByteArray))) hst61 (fun cx=>⟨_,nnote_r1 (CtxV.holdF cx (cx.init 1 _ rfl) rfl),(map1 (cx.ou 70))⟩) fun W66 hst66=>?_
  refine sqp [.k 72 (.bool (((⟨#[110]⟩:ByteArray)).toList==((⟨#[110]⟩:ByteArray)).toList))] ?_
  exact sqE hst66
 refine sqwx ?_
 refine sqp [sPa 73 ((-1)==(-1)) (((⟨#[110]⟩:ByteArray)).toList==((⟨#[110]⟩:ByteArray)).toList), .m 74 73] ?_
 refine sqwW 74 [75,76,77] ?_ hst68 rfl (fun hq=>?_) fun W74 hst74=>?_
 rotate_left
 ·refine sqp [.m 75 3] ?_
  refine sqk (vi 1) hst68 (fun cx=>⟨_,nfrom_r1 (CtxV.holdF cx (cx.init 1 _ rfl) rfl),(map1 (cx.ou 75))⟩) fun W72 hst72=>?_
  refine sqp [.k 77 (.bool true)] ?_
  exact sqE hst72
 refine sqwx ?_
 refine sqp [sPa 78 (((-1)==(-1))&&(((⟨#[110]⟩:ByteArray)).toList==((⟨#[110]⟩:ByteArray)).toList)) true, .m 0 78] ?_
 refine then_normal (wp_ret ?_)
 refine bpr (.bool ((((-1)==(-1))&&(((⟨#[110]⟩:ByteArray)).toList==((⟨#[110]⟩:ByteArray)).toList))&&true)) (results_1 Tryz.results13 rpt) ?_
 exact Ret.of (by first | rfl | simp) hst74.ext
end
section
open Go.RowKit
def bgS:ByteArray:=⟨#[98,101,103,117,110]⟩
def NwP0 (w:World) (e:Ending) (w':World):Prop:=∃ b,e= .returned (.pointer (some ⟨b,0,none⟩))∧Ext w w'
/-- begin: the world's block, the store -/
def BgPost (xb:Nat) (bufs:Int) (w:World) (e:Ending) (w':World):Prop:=e= .returned (.bool true)∧∃ db sb rb fp,St w [xb] [eB xb 34 #[.pointer (some ⟨db,0,none⟩), .pointer (some ⟨sb,0,none⟩), .pointer (some ⟨rb,0,none⟩), .int .i64 bufs, .int .i64 1],eNi sb db [chkR bgS] (fun _=>false) 5 0 fp] w'
theorem Tryz.infoBoolJ:(Tryz.prog.info? 4).map (fun i=>(i.zero,i.size,i.bytes))=some (some (.bool false),1,1):=by kernel_rfl
theorem radd_0 (rb:Nat) (p:Int) (TA:Option Addr) (tn tc:Nat) (note:ByteArray) (w:World) (hB:(eB rb 69 #[.int .i64 p, .slice none 0 0, .int .i64 0, .slice TA tn tc]).holds w) (hlt:rb < w.heap.size) (hn:note.size≤60000):
  Calls Tryz.prog 85 #[.pointer (some ⟨rb,0,none⟩), .agg #[.int .i64 9, .int .i64 0, .int .i64 0, .slice none 0 0, .slice none 0 0, .slice none 0 0, .slice none 0 0, .string note]] w ((fun e w2=>e= .returned (.tuple #[])∧St w [rb] [] w2)):=by
 have hfs:=fr_size (chk_right hn)
 have hfs:(frameR ⟨9,0,0,[],note⟩).size≤200000:=hfs
 have st1:St w [rb] [eB rb 69 #[.int .i64 p, .slice none 0 0, .int .i64 0, .slice TA tn tc]] w:=St.lend hB (eB_loc _ _ _) (fun k hk=>by rw [List.mem_singleton.1 hk]; exact hlt)
 go_enter Tryz.func85,Tryz.ntmps85
 have hst0:=st1
 refine wp_seq (sqr ?_)
 refine sqbx #[vi 9,vi 0,vi 0, .slice none 0 0, .slice none 0 0, .slice none 0 0, .slice none 0 0, .string note] hst0 fun B3_1 W1 hst1=>?_
 refine then_normal (wp_seq ?_)
 have hn2:=nilrowN hst1 27 8
 simp only [List.cons_append,List.nil_append] at hn2
 refine wp_region_Y [0,0,2,6,14,0,32,126,255,511,1023] [[],[],[],[],[0],[1],[],[3,2],[],[],[0]] [[],[],[],[],[],[],[3],[4],[],[],[5]] [[],[],[],[],[],[],[],[2],[],[],[0]] [.k 4 (vp rb), .k 5 (vp rb), .k 6 (vp rb), .k 7 (.pointer (some ⟨rb,1,none⟩)), .c 8 (.slice none 0 0), .c 9 (.agg #[vi 9,vi 0,vi 0, .slice none 0 0, .slice none 0 0, .slice none 0 0, .slice none 0 0, .string note]), .a 10, .a 11, .k 12 (vp rb), .k 13 (.pointer (some ⟨rb,1,none⟩)), .n] (fun ix σ β X=>match ix with | 0=>True | 1=>True | 2=>True | 3=>True | 4=>True | 5=>True | 6=>σ 10= .slice ((some ⟨(pb' (β 10)),0,none⟩)) 1 1∧X 3=eO 27 8 (.slice ((some ⟨(pb' (β 10)),0,none⟩)) 1 1) 1 ([vi 9,vi 0,vi 0, .slice none 0 0, .slice none 0 0, .slice none 0 0, .slice none 0 0, .string note]) | 7=>σ 11= .slice (sA (β 11)) 1 (sC (β 11))∧X 4=eO 27 8 (.slice (sA (β 11)) 1 (sC (β 11))) 1 ([vi 9,vi 0,vi 0, .slice none 0 0, .slice none 0 0, .slice none 0 0, .slice none 0 0, .string note]) | 8=>True | 9=>True | 10=>X 5=eB rb 69 #[vi p, .slice (sA (β 11)) 1 (sC (β 11)),vi 0, .slice TA tn tc] | _=>True) [1,3,4,5] [4,5,6,7,10] [(4,0,10,14)] hn2 ?_ ?_ ?_
 ·exact fun ix _ _ _ _ _ _ hs hb hx h=>match ix,h with
  | 6,h=>by dsimp only; rw [← hs 10 rfl,← hb 10 rfl,← hx 3 rfl]; exact h
  | 7,h=>by dsimp only; rw [← hs 11 rfl,← hb 11 rfl,← hx 4 rfl]; exact h
  | 10,h=>by dsimp only; rw [← hb 11 rfl,← hx 5 rfl]; exact h
  | 0, _ | 1, _ | 2, _ | 3, _ | 4, _ | 5, _ | 8, _ | 9, _ | _+11, _=>trivial
 ·refine ⟨?_,?_,?_,?_,?_,trivial⟩
  ·exact xs4 rfl id fun cx=>run_load1 rfl (by kernel_rfl) (cx.an 3) ((cx.bi 0 rfl).cell 1)
  ·exact xs4 rfl id fun cx=>run_loadB (n:=8) rfl (by kernel_rfl) (by kernel_rfl) (cx.ou 3) (cx.bi 1 rfl) (nle rfl) rfl
  ·refine svA fun ρ β W X cx=>?_
   have fF9:ρ (.tmp 9)= .agg #[vi 9,vi 0,vi 0, .slice none 0 0, .slice none 0 0, .slice none 0 0, .slice none 0 0, .string note]:=(cx.an 5)
   exact dv_litN (e:=27) (sz:=8) (xs:=[vi 9,vi 0,vi 0, .slice none 0 0, .slice none 0 0, .slice none 0 0, .slice none 0 0, .string note]) rfl (by simp [go_sem,fF9]) rfl (by decide) rfl rfl (fun σ β' X' hs hb hv hx=>⟨hv,hx⟩)
  ·refine svA fun ρ β W X cx=>?_
   obtain ⟨i0,hi0,hz0,hz1,hz2⟩:=info_parts Tryz.infoRecJ
   refine dv_appendN (n:=0) (m:=1) (nm:=1) (sz:=8) (xs:=[]) (news:=[vi 9,vi 0,vi 0, .slice none 0 0, .slice none 0 0, .slice none 0 0, .slice none 0 0, .string note]) (xs':=[vi 9,vi 0,vi 0, .slice none 0 0, .slice none 0 0, .slice none 0 0, .slice none 0 0, .string note]) rfl (ty:=66) rfl (by kernel_rfl) hi0 hz0 hz1 hz2 rfl (by decide) (cx.an 4) cx (cx.init 2 _ rfl) rfl (dTn (cx.an 6)).1 (by rfl) (At.of_ownN (cx.row (dTn (cx.an 6)).2 rfl)) (by simp [Value.oneCell']) (by simp only [maxLen]; omega) (by omega) rfl rfl rfl (by omega) (rfl) (fun σ β' X' hs hb hv hx=>?_)
   exact ⟨hv,hx⟩
  ·refine svA fun ρ β W X cx=>?_
   exact dv_store (n:=1) rfl (cx.an 9) (dTn (cx.an 7)).1 (by kernel_rfl) (by kernel_rfl) (by kernel_rfl) cx (cx.init 0 _ rfl) rfl (nle rfl) (by kernel_rfl) rfl rfl rfl (fun σ β' X' hs hb hx=>by rw [hb 11]; exact hx)
 intro σ β X W3 hD hst3 fr hfr
 obtain ⟨B10_3,hu_B10_3⟩:∃ z,pb' (β 10)=z:=⟨_,rfl⟩
 obtain ⟨A11_3,hu_A11_3⟩:∃ z,sA (β 11)=z:=⟨_,rfl⟩
 obtain ⟨c11_3,hu_c11_3⟩:∃ z,sC (β 11)=z:=⟨_,rfl⟩
 simp only [exq 3 ((dTn (hD 6 lq)).2),exq 4 ((dTn (hD 7 lq)).2),exq 5 ((dTn (hD 10 lq))),hu_B10_3,hu_A11_3,hu_c11_3] at hst3
 simp only [ed 10 ((dTn (hD 6 lq)).1),ed 11 ((dTn (hD 7 lq)).1),hu_B10_3,hu_A11_3,hu_c11_3] at hfr
 clear hD hu_B10_3 hu_A11_3 hu_c11_3; subst hfr; clear σ β X
 refine then_normal (wp_region_Y [0,0,2,6,14,0,32,96,254,511,1023,2047] [[],[],[],[],[3],[0],[],[],[],[],[],[3]] [[],[],[],[],[],[],[],[],[],[],[],[4]] [[],[],[],[],[],[],[],[],[],[],[],[3]] [.k 14 (vp rb), .k 15 (vp rb), .k 16 (vp rb), .k 17 (.pointer (some ⟨rb,2,none⟩)), .c 18 (vi 0), .c 19 (.agg #[vi 9,vi 0,vi 0, .slice none 0 0, .slice none 0 0, .slice none 0 0, .slice none 0 0, .string note]), .c 20 (.string ((frameR ⟨9,0,0,[],note⟩))), .k 21 (vi ((((frameR ⟨9,0,0,[],note⟩)).size:Int))),tI 22 (0+(((frameR ⟨9,0,0,[],note⟩)).size:Int)) (by omega), .k 23 (vp rb), .k 24 (.pointer (some ⟨rb,2,none⟩)), .n] (fun ix σ β X=>match ix with | 0=>True | 1=>True | 2=>True | 3=>True | 4=>True | 5=>True | 6=>True | 7=>True | 8=>True | 9=>True | 10=>True | 11=>X 4=eB rb 69 #[vi p, .slice A11_3 1 c11_3,vi (0+(((frameR ⟨9,0,0,[],note⟩)).size:Int)), .slice TA tn tc] | _=>True) [0,1,2,4] [4,5,6,11] [(14,0,11,25)] hst3 ?_ ?_ ?_)
 ·exact fun ix _ _ _ _ _ _ hs hb hx h=>match ix,h with
  | 11,h=>by dsimp only; rw [← hx 4 rfl]; exact h
  | 0, _ | 1, _ | 2, _ | 3, _ | 4, _ | 5, _ | 6, _ | 7, _ | 8, _ | 9, _ | 10, _ | _+12, _=>trivial
 ·refine ⟨?_,?_,?_,?_,trivial⟩
  ·exact xs4 rfl id fun cx=>run_load1 rfl (by kernel_rfl) (cx.an 3) ((cx.bi 3 rfl).cell 2)
  ·exact xs4 rfl id fun cx=>run_loadB (n:=8) rfl (by kernel_rfl) (by kernel_rfl) (cx.ou 3) (cx.bi 0 rfl) (nle rfl) rfl
  ·exact xsc rfl id rfl rfl fun cx=>⟨_,r04frame_any 9 0 0 none 0 [] note _ (fun j u h=>by cases j<;>cases h) (by decide) (fun e he=>by cases he) (by omega),(map1 (cx.an 5))⟩
  ·refine svA fun ρ β W X cx=>?_
   exact dv_store (n:=1) rfl (cx.an 10) (cx.an 8) (by kernel_rfl) (by kernel_rfl) (by kernel_rfl) cx (cx.init 3 _ rfl) rfl (nle rfl) (by kernel_rfl) rfl rfl rfl (fun σ β' X' hs hb hx=>hx)
 intro σ β X W4 hD hst4 fr hfr
 simp only [exq 4 ((dTn (hD 11 lq)))] at hst4
 clear hD; subst hfr; clear σ β X
 refine bpe (.tuple #[]) (by simp [results,Tryz.results85,go_sem]) ?_
 exact ⟨rfl,hst4.pick [] (by decide) rfl⟩
theorem rnew_0 (w:World):
  Calls Tryz.prog 48 #[.int .i64 5, .string bgS] w (NwP0 w):=by
 go_enter Tryz.func48,Tryz.ntmps48
 have hst0:=St.start w
 refine wp_seq (sqr (sqp [.k 4 (.pointer none)] ?_))
 refine then_normal (wp_seq (sqr (sqp [.m 6 0, .m 7 0] ?_)))
 refine sqn1 (fun x_=>sA x_) (fun A8_4=> .slice A8_4 5 5) (fun A8_4=>eO 4 1 (.slice A8_4 5 5) 5 (List.replicate 5 (.bool false))) hst0 (by
   refine svA fun ρ β W X cx=>?_
   obtain ⟨i0,hi0,hz0,hz1,hz2⟩:=info_parts Tryz.infoBoolJ
   exact dv_make (n:=5) rfl (by kernel_rfl) hi0 hz0 hz1 hz2 rfl (cx.ou 7) (cx.ou 7) (by omega) (by omega) (by omega) (by omega) rfl rfl (fun σ β' X' hs hb hv hx=>⟨hv,hx⟩)) fun A8_4 W4 hst4=>?_
 refine sqp [.k 9 (.agg #[vi 5, .slice none 0 0,vi 0, .slice A8_4 5 5])] ?_
 refine sqbx #[vi 5, .slice none 0 0,vi 0, .slice A8_4 5 5] hst4 fun B10_6 W6 hst6=>?_
 refine sqp [.m 5 10] ?_
 refine then_normal (wp_seq (wp_region_Y [0,0,2,7] [[],[],[],[1]] [] [[],[],[],[1]] [.k 11 (vp B10_6), .k 12 (.string bgS), .k 13 (.agg #[vi 9,vi 0,vi 0, .slice none 0 0, .slice none 0 0, .slice none 0 0, .slice none 0 0, .string bgS]), .a 14] (fun ix σ β X=>match ix with | 0=>True | 1=>True | 2=>True | 3=>σ 14= .tuple #[] | _=>True) [0] [3] [(11,0,4,15)] hst6 ?_ ?_ ?_))
 ·exact fun ix _ _ _ _ _ _ hs hb hx h=>match ix,h with
  | 3,h=>(hs _ rfl).symm.trans h
  | 0, _ | 1, _ | 2, _ | _+4, _=>trivial
 ·refine ⟨?_,trivial⟩
  ·refine svA fun ρ β W X cx=>?_
   refine DoesU.call (run_callF (args:=#[vp B10_6, .agg #[vi 9,vi 0,vi 0, .slice none 0 0, .slice none 0 0, .slice none 0 0, .slice none 0 0, .string bgS]]) rfl cx.sees rfl (by kernel_rfl) (map2 (cx.an 0) (cx.an 2))) ?_
   refine (radd_0 B10_6 5 A8_4 5 5 bgS _ (CtxV.holdF cx (cx.init 1 _ rfl) rfl) ((cx.bi 1 rfl)).lt (by decide)).mono ?_
   rintro e W1 ⟨rfl,hs4⟩
   refine ⟨_,rfl,post_obj (E:=eB B10_6 69 #[vi 5, .slice none 0 0,vi 0, .slice A8_4 5 5]) [] (cx.init 1 _ rfl) rfl rfl hs4 (fun σ β' X' hs hb hv hN=>?_)⟩
   have hv1:=(hv 14 rfl).1; have hv2:=(hv 14 rfl).2
   exact hv1.trans rfl
 intro σ β X W8 hD hst8 fr hfr
 simp only [ed 14 ((dTn (hD 3 lq)))] at hfr
 clear hD; subst hfr; clear σ β X
 refine then_normal (wp_seq (sqr (sqp [.m 15 5, .m 4 15] ?_)))
 refine then_normal (wp_ret ?_)
 refine bpr (vp B10_6) (results_1 Tryz.results48 rpt) ?_
 exact ⟨_,rfl,hst8.ext⟩
theorem begin_0 (xb:Nat) (bufs:Int) (w:World) (hB:(eB xb 34 #[.pointer none, .pointer none, .pointer none, .int .i64 0, .int .i64 0]).holds w) (hlt:xb < w.heap.size) (hb:1≤bufs∧bufs≤64):
  Calls Tryz.prog 14 #[.pointer (some ⟨xb,0,none⟩), .int .i64 bufs] w (BgPost xb bufs w):=by
 have st1:St w [xb] [eB xb 34 #[.pointer none, .pointer none, .pointer none, .int .i64 0, .int .i64 0]] w:=St.lend hB (eB_loc _ _ _) (fun k hk=>by rw [List.mem_singleton.1 hk]; exact hlt)
 go_enter Tryz.func14,Tryz.ntmps14
 have hst0:=st1
 refine wp_seq (sqr (sqp [.k 4 (.bool false)] ?_))
 refine then_normal (wp_seq (sqr (sqp [.m 8 0] ?_)))
 refine sqk1s (fun D9_3=>vp D9_3) (fun D9_3 r1_3=>eDk D9_3 (newD 5) r1_3) hst0 (fun cx=>⟨_,(knew_any 5 _ (by decide)).mono (by rintro e W1 ⟨b4,rfl,fp4,hs4⟩; exact ⟨_, _,rfl,hs4⟩),(map1 (cx.co _))⟩) fun D9_3 r1_3 W3 hst3=>?_
 refine sqp [.k 10 (vp xb), .k 11 (vp xb)] ?_
 refine sqst (n:=1) 0 #[vp D9_3, .pointer none, .pointer none,vi 0,vi 0] hst3 fun W6 hst6=>?_
 refine then_normal (wp_seq (sqr (sqp [.m 12 0, .m 13 1, .k 14 (vp xb), .k 15 (.pointer (some ⟨xb,3,none⟩))] ?_)))
 refine sqst (n:=1) 0 #[vp D9_3, .pointer none, .pointer none,vi bufs,vi 0] hst6 fun W11 hst11=>?_
 refine then_normal (wp_seq (sqr (sqp [.m 16 0, .k 17 (vp xb), .k 18 (vp xb)] ?_)))
 refine sqld 0 hst11 ?_
 refine sqc0s (fun X_=>X_.fp) (vi 0) (fun r2_16=>eDk D9_3 (bgD 5 (⟨#[98,101,103,117,110]⟩:ByteArray)) r2_16) 1 hst11 (by
   refine svA fun ρ β W X cx=>?_
   refine DoesU.call (run_callF (args:=#[vp D9_3, .string ⟨#[98,101,103,117,110]⟩]) rfl cx.sees rfl (by kernel_rfl) (map2 (cx.ou 19) (cx.co _))) ?_
   refine (nformat_any 5 (⟨#[98,101,103,117,110]⟩:ByteArray) (CtxV.holdF cx (cx.init 1 _ rfl) rfl) (CtxV.ltF cx (cx.init 1 _ rfl) rfl) (by decide)).mono ?_
   rintro e W1 ⟨rfl,fp4,hs4⟩
   refine ⟨_,rfl,post_obj (E:=eDk D9_3 (newD 5) r1_3) [eDk D9_3 (bgD 5 (⟨#[98,101,103,117,110]⟩:ByteArray)) fp4] (cx.init 1 _ rfl) rfl rfl hs4 (fun σ β' X' hs hb hv hN=>?_)⟩
   have hv1:=(hv 20 rfl).1; have hv2:=(hv 20 rfl).2
   exact ⟨hv1.trans rfl,eDk_self ((List.cons.inj hN).1)⟩) fun r2_16 W16 hst16=>?_
 refine sqp [.m 5 20] ?_
 refine then_normal (wp_seq (sqr (sqp [.m 22 0, .k 23 (vp xb), .k 24 (vp xb)] ?_)))
 refine sqld 0 hst16 ?_
 refine sqp [.m 26 1] ?_
 refine sqc1s (fun x_=>pb (tg x_ 0)) (fun X_=>X_.fp) (fun S27_23=> .tuple #[vp S27_23,vi 0]) (fun S27_23 r2_23=>eNi S27_23 D9_3 ([chkR (⟨#[98,101,103,117,110]⟩:ByteArray)]) (fun _=>false) 5 0 r2_23) 1 hst16 (by
   refine svA fun ρ β W X cx=>?_
   refine DoesU.call (run_callF (args:=#[vp D9_3,vi bufs]) rfl cx.sees rfl (by kernel_rfl) (map2 (cx.ou 25) (cx.ou 26))) ?_
   refine (nopen_any 5 (⟨#[98,101,103,117,110]⟩:ByteArray) bufs (CtxV.holdF cx (cx.init 1 _ rfl) rfl) (CtxV.ltF cx (cx.init 1 _ rfl) rfl) (by decide) (by decide) hb).mono ?_
   rintro e W1 ⟨sb4,rfl,fp4,hs4⟩
   refine ⟨_,rfl,post_obj (E:=eDk D9_3 (bgD 5 (⟨#[98,101,103,117,110]⟩:ByteArray)) r2_16) [eNi sb4 D9_3 [chkR (⟨#[98,101,103,117,110]⟩:ByteArray)] (fun _=>false) 5 0 fp4] (cx.init 1 _ rfl) rfl rfl hs4 (fun σ β' X' hs hb hv hN=>?_)⟩
   have hv1:=(hv 27 rfl).1; have hv2:=(hv 27 rfl).2
   exact ⟨hv1.trans (by rw [hv2]; exact rfl),(by rw [hv2]; exact eNi_self ((List.cons.inj hN).1))⟩) fun S27_23 r2_23 W23 hst23=>?_
 refine sqp [.m 21 27, .k 28 (vp S27_23), .k 29 (vi 0), .m 6 28, .m 7 29] ?_
 refine then_normal (wp_seq (sqr (sqp [.m 30 0, .m 31 6, .k 32 (vp xb), .k 33 (.pointer (some ⟨xb,1,none⟩))] ?_)))
 refine sqst (n:=1) 0 #[vp D9_3,vp S27_23, .pointer none,vi bufs,vi 0] hst23 fun W33 hst33=>?_
 refine then_normal (wp_seq (wp_region_Y [0,0,3,7,15] [[],[],[],[],[0]] [[],[],[],[],[2]] [[],[],[],[],[0]] [.k 34 (vp xb), .a 35, .k 36 (vp xb), .k 37 (.pointer (some ⟨xb,2,none⟩)), .n] (fun ix σ β X=>match ix with | 0=>True | 1=>σ 35=vp (pb (β 35)) | 2=>True | 3=>True | 4=>X 2=eB xb 34 #[vp D9_3,vp S27_23,vp (pb (β 35)),vi bufs,vi 0] | _=>True) [1,2] [1,4] [(34,0,4,38)] hst33 ?_ ?_ ?_))
 ·exact fun ix _ _ _ _ _ _ hs hb hx h=>match ix,h with
  | 1,h=>by dsimp only; rw [← hs 35 rfl,← hb 35 rfl]; exact h
  | 4,h=>by dsimp only; rw [← hb 35 rfl,← hx 2 rfl]; exact h
  | 0, _ | 2, _ | 3, _ | _+5, _=>trivial
 ·refine ⟨?_,?_,trivial⟩
  ·refine svA fun ρ β W X cx=>?_
   refine DoesU.call (run_callF (args:=#[vi 5, .string ⟨#[98,101,103,117,110]⟩]) rfl cx.sees rfl (by kernel_rfl) (map2 (cx.co _) (cx.co _))) ?_
   refine (rnew_0 _).mono ?_
   rintro e W1 ⟨b4,rfl,hx⟩
   refine ⟨_,rfl,post_call [] rfl rfl hx (by simp) List.Pairwise.nil (fun σ β' X' hs hb hv hN=>?_)⟩
   have hv1:=(hv 35 rfl).1; have hv2:=(hv 35 rfl).2
   exact hv1.trans (by rw [hv2]; exact rfl)
  ·refine svA fun ρ β W X cx=>?_
   exact dv_store (n:=1) rfl (cx.an 3) (dTn (cx.an 1)) (by kernel_rfl) (by kernel_rfl) (by kernel_rfl) cx (cx.init 0 _ rfl) rfl (nle rfl) (by kernel_rfl) rfl rfl rfl (fun σ β' X' hs hb hx=>by rw [hb 35]; exact hx)
 intro σ β X W34 hD hst34 fr hfr
 obtain ⟨R35_34,hu_R35_34⟩:∃ z,pb (β 35)=z:=⟨_,rfl⟩
 simp only [exq 2 ((dTn (hD 4 lq))),hu_R35_34] at hst34
 simp only [ed 35 ((dTn (hD 1 lq))),hu_R35_34] at hfr
 clear hD hu_R35_34; subst hfr; clear σ β X
 refine then_normal (wp_seq (sqr (sqp [.m 38 0, .k 39 (vp xb), .k 40 (.pointer (some ⟨xb,4,none⟩))] ?_)))
 refine sqst (n:=1) 1 #[vp D9_3,vp S27_23,vp R35_34,vi bufs,vi 1] hst34 fun W38 hst38=>?_
 refine then_normal (wp_seq (sqr (sqp [.m 41 5, .k 42 (.bool true), .k 43 (.bool true)] ?_)))
 refine sqgy 43 [44,45] rfl rfl ?_
 refine sqp [.m 44 7, .k 45 (.bool true)] ?_
 refine sqp [.k 46 (.bool true), .k 47 (.bool true)] ?_
 refine sqgy 47 [48,49] rfl rfl ?_
 refine sqp [.m 48 6] ?_
 refine sqv (.bool true) hst38 (by
   exact sv0 rfl rfl rfl rfl rfl (fun _ _ _ h=>h) fun ρ β W X cx=>by
    have fF48:ρ (.tmp 48)=vp S27_23:=(cx.ou 48)
    simp [go_sem,cx.sees.const,fF48]) fun W47 hst47=>?_
 refine sqp [.k 50 (.bool true), .k 4 (.bool true)] ?_
 refine then_normal (wp_ret ?_)
 refine bpr (.bool true) (results_1 Tryz.results14 rpt) ?_
 exact ⟨rfl, _, _, _, _,hst47.pick [1,0] (by decide) rfl⟩
def wlL (xb:Nat) (bufs safe:Int) (db sb rb:Nat) (L:List RecM) (told:Int→Bool) (p c:Nat) (fps:List Nat):List Ent:=[eB xb 34 #[.pointer (some ⟨db,0,none⟩), .pointer (some ⟨sb,0,none⟩), .pointer (some ⟨rb,0,none⟩), .int .i64 bufs, .int .i64 safe],eNi sb db L told p c fps]
/-- a world begun: its block and its store -/
def eWl (xb:Nat) (bufs safe:Int) (L:List RecM) (told:Int→Bool) (p c:Nat) (fp:List Nat):Ent:=⟨fp,fun W=>∃ db sb rb fps,fp=(wlL xb bufs safe db sb rb L told p c fps).flatMap (·.fp)∧(wlL xb bufs safe db sb rb L told p c fps).Pairwise Ent.apart∧∀ e∈wlL xb bufs safe db sb rb L told p c fps,e.holds W∧e.loc⟩
theorem eWl_loc (xb:Nat) (bufs safe:Int) (L:List RecM) (told:Int→Bool) (p c:Nat) (fp:List Nat):(eWl xb bufs safe L told p c fp).loc:=fun W W' hk h=>by
 obtain ⟨db,sb,rb,fps,h1,h2,h3⟩:=h
 exact ⟨db,sb,rb,fps,h1,h2,fun e he=>⟨(h3 e he).2 W W' (fun k hk'=>hk k (by rw [eWl,h1]; exact List.mem_flatMap.2 ⟨e,he,hk'⟩)) (h3 e he).1,(h3 e he).2⟩⟩
theorem eWl_self {e:Ent} {xb:Nat} {bufs safe:Int} {L:List RecM} {told:Int→Bool} {p c:Nat} {fp:List Nat} (h:e=eWl xb bufs safe L told p c fp):e=eWl xb bufs safe L told p c e.fp:=by subst h; rfl
theorem St.wl {w0 W:World} {bor:List Nat} {L0:List Ent} {xb:Nat} {bufs safe:Int} {db sb rb:Nat} {L:List RecM} {told:Int→Bool} {p c:Nat} {fps:List Nat} (h:St w0 bor (L0++wlL xb bufs safe db sb rb L told p c fps) W):∃ fp,St w0 bor (L0++[eWl xb bufs safe L told p c fp]) W:=by
 refine ⟨_,St.pack (E:=eWl xb bufs safe L told p c ((wlL xb bufs safe db sb rb L told p c fps).flatMap (·.fp))) h rfl ⟨db,sb,rb,fps,rfl,(List.pairwise_append.1 h.apart).2.1,fun e he=>?_⟩ (eWl_loc _ _ _ _ _ _ _ _)⟩
 have h3:=h.ok e (List.mem_append_right _ he)
 exact ⟨h3.holds,h3.loc⟩
theorem St.unwl {w0 W:World} {bor:List Nat} {L0:List Ent} {xb:Nat} {bufs safe:Int} {L:List RecM} {told:Int→Bool} {p c:Nat} {fp:List Nat} (h:St w0 bor (L0++[eWl xb bufs safe L told p c fp]) W):∃ db sb rb fps,St w0 bor (L0++wlL xb bufs safe db sb rb L told p c fps) W:=by
 obtain ⟨db,sb,rb,fps,h1,h2,h3⟩:=(h.ok (eWl xb bufs safe L told p c fp) (by simp)).holds
 exact ⟨db,sb,rb,fps,h.unpackL h1 h3 h2⟩
theorem begin_wl (xb:Nat) (bufs:Int) (w:World) (hB:(eB xb 34 #[.pointer none, .pointer none, .pointer none, .int .i64 0, .int .i64 0]).holds w) (hlt:xb < w.heap.size) (hb:1≤bufs∧bufs≤64):
  Calls Tryz.prog 14 #[.pointer (some ⟨xb,0,none⟩), .int .i64 bufs] w (fun e w'=>e= .returned (.bool true)∧∃ fp',St w [xb] [eWl xb bufs 1 [chkR bgS] (fun _=>false) 5 0 fp'] w'):=by
 refine (begin_0 xb bufs w hB hlt hb).mono ?_
 rintro e w' ⟨rfl,db,sb,rb,fp,hs⟩
 obtain ⟨fp',h⟩:=St.wl (L0:=[]) hs
 exact ⟨rfl,fp',h⟩
end
section
open Go.RowKit
abbrev tbR (note:ByteArray):RecM:=⟨10,0,0,[],note⟩
theorem tb_right {note:ByteArray} (h:note.size≤60000):recR (tbR note)=true:=by
 have:decide ((note.size:Int)≤60000)=true:=decide_eq_true (by omega)
 show (inB 10 1 10&&(inB 0 0 127&&(inB 0 0 65535&&(decide ((([]:List EdT).length:Int)≤64)&&((([]:List EdT).all edR)&&decide ((note.size:Int)≤60000))))))=true
 rw [this]; decide
theorem no_size {r:RecM} (h:recR r=true) (he:r.eds=[]):(frameR r).size=22+r.note.size:=by
 rw [frameR_size h,bytesR,if_pos h,cat2_size,cat2_size,he,textO_sz,putS_size _ _ (by decide)]
 show 8+(((hdB r).size+1)+ _)= _
 rw [hdB_size]; omega
theorem tb_size {note:ByteArray} (h:note.size≤60000):(frameR (tbR note)).size=22+note.size:=no_size (tb_right h) rfl
theorem chk_size {note:ByteArray} (h:note.size≤60000):(frameR (chkR note)).size=22+note.size:=no_size (chk_right h) rfl
section
variable {sb db:Nat} {L:List RecM} {told:Int→Bool} {p c:Nat} {fp:List Nat} {w:World} {note:ByteArray}
end
def zN (n:Nat):ByteArray:=strOfNums (List.replicate n (0:Int))
theorem zN_size (n:Nat):(zN n).size=n:=by rw [zN,strOfNums_size,List.length_replicate]
/-- begun, and k records of 60000 bytes -/
def bgL (k:Nat):List RecM:=chkR bgS::List.replicate k (tbR (zN 60000))
theorem bgL_succ (k:Nat):bgL k++[tbR (zN 60000)]=bgL (k+1):=by rw [bgL,bgL,List.replicate_succ',List.cons_append]
theorem bgL_sz (k:Nat):szF (bgL k)=27+60022*k:=by
 induction k with
 | zero=>rw [show bgL 0=[chkR bgS] from rfl,sz_chk,chk_size (by decide)]; rfl
 | succ k ih=>rw [← bgL_succ,szF_snoc,ih,tb_size (by rw [zN_size]; decide),zN_size]; omega
section
variable {sb db:Nat} {told:Int→Bool} {p c:Nat} {fp:List Nat} {w:World}
end
end
section
open Go.RowKit
section
variable {db:Nat} {fp:List Nat} {w:World}
theorem nopen_form (n:Nat) (bufs:Int) (hB:(eDk db (newD n) fp).holds w) (hlt:∀ k∈fp,k < w.heap.size) (hp:n≤400) (hb:1≤bufs∧bufs≤64):
  Calls Tryz.prog 18 #[.pointer (some ⟨db,0,none⟩), .int .i64 bufs] w (fun e w'=>e= .returned (.tuple #[.pointer none, .int .i64 11])∧∃ fp',St w fp [eDk db (newD n) fp'] w'):=by
 have hl:(newD n).log=logF []:=rfl
 refine (sopen_any db (newD n) bufs [] ⟨#[]⟩ 0 fp w hB hlt (log_ap hl) (fun r hr=>by cases hr) (tail_end hl) (by show 0≤ _; omega) (Nat.le_refl _) (by show (List.replicate n _).length≤ _; rw [List.length_replicate]; exact hp) (fun x hx=>by rw [List.eq_of_mem_replicate hx]; exact Nat.le_refl _) (by show 0+200*0≤900000; decide) (fun r hr h8=>by cases hr)).mono ?_
 rintro e w' ⟨v,er,rfl,fp',hs⟩
 obtain ⟨sb,R,h1,h2,h3⟩:=(hs.ok (eOx db (newD n) bufs [] v er fp') (by simp)).holds
 have h4:R= .inr (newD n)∧er=11:=by
  cases h1 with
  | bufs h=>exact absurd hb h
  | off _ h=>cases h
  | form _ _ _=>exact ⟨rfl,rfl⟩
  | cut _ _ h=>exact absurd rfl h
  | bad _ _ h=>exact absurd rfl h
  | ok _ _ h=>exact absurd rfl h
 obtain ⟨rfl,rfl⟩:=h4
 exact ⟨by rw [h2]; rfl,fp',St.repl (L1:=[]) (L2:=[]) hs rfl (fun _=>h3) (eDk_loc _ _ _)⟩
theorem nformat_long (n:Nat) (note:ByteArray) (hB:(eDk db (newD n) fp).holds w) (hlt:∀ k∈fp,k < w.heap.size) (hn:60000 < note.size) (hz:note.size≤9000000):
  Calls Tryz.prog 20 #[.pointer (some ⟨db,0,none⟩), .string note] w (fun e w'=>e= .returned (.int .i64 1)∧∃ fp',St w fp [eDk db (newD n) fp'] w'):=by
 refine (sformat_any db (newD n) note fp w hB hlt (Nat.zero_le _) hz).mono ?_
 rintro e w' ⟨rfl,fp',hs⟩
 have e1:fmtF (newD n) note=(newD n,1):=if_pos (.inr hn)
 rw [e1] at hs ⊢
 exact ⟨rfl,fp',hs⟩
theorem nformat_again (n:Nat) (note note2:ByteArray) (hB:(eDk db (bgD n note) fp).holds w) (hlt:∀ k∈fp,k < w.heap.size) (hn:note.size≤60000) (hz:note2.size≤9000000):
  Calls Tryz.prog 20 #[.pointer (some ⟨db,0,none⟩), .string note2] w (fun e w'=>e= .returned (.int .i64 1)∧∃ fp',St w fp [eDk db (bgD n note) fp'] w'):=by
 have hs:=chk_size hn
 have hs2:=fr_size (chk_right hn)
 refine (sformat_any db (bgD n note) note2 fp w hB hlt (by show (frameR (chkR note)).size≤ _; omega) hz).mono ?_
 rintro e w' ⟨rfl,fp',hs⟩
 have e1:fmtF (bgD n note) note2=(bgD n note,1):=if_pos (.inl (by show 0 < (frameR (chkR note)).size; omega))
 rw [e1] at hs ⊢
 exact ⟨rfl,fp',hs⟩
end
theorem bad_buf {b:Int} (h:¬ (1≤b∧b≤64)):(decide (b < 1)||decide (64 < b))=true:=by
 rw [Bool.or_eq_true,decide_eq_true_eq,decide_eq_true_eq]; omega
theorem sdo_nil (k x t:Int) (A:Option Addr) (n c:Nat) (note:ByteArray) (w:World):
  Calls Tryz.prog 17 #[.pointer none, .agg #[.int .i64 k, .int .i64 x, .int .i64 t, .slice none 0 0, .slice none 0 0, .slice A n c, .slice none 0 0, .string note]] w (Ret (.tuple #[.int .i64 0, .int .i64 1]) w):=by
 go_enter Tryz.func17,Tryz.ntmps17
 have hst0:=St.start w
 refine wp_seq (sqr ?_)
 refine sqbx #[.pointer none] hst0 fun B2_1 W1 hst1=>?_
 refine sqbx #[vi k,vi x,vi t, .slice none 0 0, .slice none 0 0, .slice A n c, .slice none 0 0, .string note] hst1 fun B3_2 W2 hst2=>?_
 refine sqp [.k 4 (vi 0), .k 5 (vi 0)] ?_
 refine then_normal (wp_seq (wp_seq (sqr (sqld 0 hst2 ?_))))
 refine sqv (.bool true) hst2 (by
   exact sv0 rfl rfl rfl rfl rfl (fun _ _ _ h=>h) fun ρ β W X cx=>by
    have fF32:ρ (.tmp 32)= .pointer none:=(cx.ou 32)
    simp [go_sem,cx.sees.const,fF32]) fun W6 hst6=>?_
 refine sqp [.k 34 (.bool true)] ?_
 refine sqgn 34 [35,36,37] rfl rfl ?_
 refine sqp [.k 38 (.bool true), .k 39 (.bool true)] ?_
 refine sqgn 39 [40,41,42] rfl rfl ?_
 refine sqp [.k 43 (.bool true), .k 44 (.bool true)] ?_
 refine sqgn 44 [45,46,47] rfl rfl ?_
 refine sqp [.k 48 (.bool true)] ?_
 refine then_normal (wct rfl (wp_seq (sqr (sqp [.k 4 (vi 0), .k 5 (vi 1)] ?_))))
 refine then_normal (wp_ret (then_ret ?_))
 refine bpr (.tuple #[vi 0,vi 1]) (results_2 Tryz.results17 rpt rpt) ?_
 exact Ret.of rfl hst6.ext
theorem sfresh_nil (w:World):
  Calls Tryz.prog 22 #[.pointer none] w (Ret (.int .i64 (-1)) w):=by
 go_enter Tryz.func22,Tryz.ntmps22
 have hst0:=St.start w
 refine wp_seq (sqr (sqp [.k 2 (vi 0)] ?_))
 refine then_normal (wp_seq (wp_seq (sqr (sqp [.m 6 0] ?_))))
 refine sqk (vi 0) hst0 (fun cx=>⟨_,spages_nil _,(map1 (cx.ou 6))⟩) fun W3 hst3=>?_
 refine sqp [.k 8 (vi 0)] ?_
 refine then_normal (wp_block ?_)
 refine wp_loopT (fun t_ mz az W=>∃ j:Nat,j≤0∧mz=0 - j∧az=⟨(ovr (jv az) [(2,2,4,[]),(2,8,0,[vi ((j:Int))]),(0,9,27,[])] t_).toArray,[]⟩∧St w [] [] W) (0 - 0) ?_ ?_
 · -- the loop begins
   exact ⟨0,Nat.zero_le _,rfl,(by kernel_rfl),hst3.pk []⟩
 rintro n5 a5 W5 ⟨j,hj,rfl,hj_,hst5⟩
 refine ovz hj_ fun u5_=>?_
 refine wp_seq (sqr ?_)
 have hd7:(decide ((j:Int) < 0))=false:=(decide_eq_false (by omega))
 refine sqp [.e 9 (.bool (decide ((j:Int) < 0))) (.bool false) (congrArg Value.bool hd7)] ?_
 refine then_normal (wp_seq (wcf rfl (wp_exit (then_exit (then_exit (blk_eq (then_normal (wp_seq (sqr (sqp [.k 2 (vi (-1))] ?_))))))))))
 refine then_normal (wp_ret ?_)
 refine bpr (vi (-1)) (results_1 Tryz.results22 rpt) ?_
 exact Ret.of rfl hst5.ext
theorem sopen_bad (v:Value) (bufs:Int) (w:World) (hb:¬ (1≤bufs∧bufs≤64)):
  Calls Tryz.prog 18 #[v, .int .i64 bufs] w (Ret (.tuple #[.pointer none, .int .i64 30]) w):=by
 go_enter Tryz.func18,Tryz.ntmps18
 have hst0:=St.start w
 refine wp_seq (sqr (sqp [.k 4 (.pointer none), .k 5 (vi 0)] ?_))
 refine then_normal (wp_seq (wp_seq (sqr (sqp [.m 13 1, .k 14 (.bool (decide (bufs < 1))), .m 15 14] ?_))))
 refine sqw 15 [16,17] rfl (fun _=>sqp [.m 16 1, .k 17 (.bool (decide (64 < bufs)))] sqe) ?_
 have hd9:((decide (bufs < 1))||(decide (64 < bufs)))=true:=(bad_buf hb)
 refine sqp [sPok 18 (decide (bufs < 1)) (decide (64 < bufs)) true hd9] ?_
 refine then_normal (wct rfl (wp_seq (sqr (sqp [.k 4 (.pointer none), .k 5 (vi 30)] ?_))))
 refine then_normal (wp_ret (then_ret ?_))
 refine bpr (.tuple #[.pointer none,vi 30]) (results_2 Tryz.results18 rpt rpt) ?_
 exact Ret.of rfl hst0.ext
end
section
open Go.RowKit
theorem CtxV.oldAt {ops:Array Oper} {L:List Nat} {a0:Act} {w0:World} {bor:List Nat} {X0:List Ent} {us:List (List Nat)} {D:Nat→(Tmp→Value)→(Tmp→Value)→(Nat→Ent)→Prop} {i:Nat} {ρ:Operand→Value} {β:Tmp→Value} {W:World} {X:Nat→Ent} {q:Nat} {E:Ent} {A:Option Addr} {xs:List Value} (cx:CtxV ops L a0 w0 bor X0 us D i ρ β W X) (hX:X q=E) (hu:(atV us i).contains q=true) (hb:bor=[]) (hA:At w0 A xs):∀ W',Upd E.fp W W'→At W' A xs:=fun W' hU=>by
 subst hb
 exact hA.ext (cx.upd.join hU (fun k hk=>((cx.ok q hu).own k (by rw [hX]; exact hk)).1)).to_ext
theorem at_one {w:World} {A:Option Addr} {l:List EdT} (h:At w A (l.flatMap edC)):At w A ((l.take 1).flatMap edC):=by
 cases l with
 | nil=>exact h
 | cons x l=>
   have h1:=h.take 3
   have e:((x::l).flatMap edC).take 3=([x]:List EdT).flatMap edC:=by
    rw [List.flatMap_cons,List.take_left' (edC_len x)]; simp
   rw [e] at h1
   exact h1
/-- a record of at most one edit, done by a store just begun -/
theorem rf_ways (r:RecM) (told:Int→Bool):
  (¬ DoA r∧rfE 5 [chkR bgS] r=1∧rfD 5 [chkR bgS] told r=([chkR bgS],0,1,told))∨
  (DoA r∧r.eds=[]∧rfE 5 [chkR bgS] r=0∧(rfD 5 [chkR bgS] told r).2.1=2)∨
  (DoA r∧r.eds≠[]∧rfE 5 [chkR bgS] r=0)∨
  (DoA r∧r.eds≠[]∧rfE 5 [chkR bgS] r≠0∧(rfD 5 [chkR bgS] told r).1=[chkR bgS]):=by
 by_cases h:DoA r
 ·by_cases he:r.eds=[]
  ·have h1:=fr_size h.1
   have h2:szF [chkR bgS]=27:=bgL_sz 0
   have hE:rfE 5 [chkR bgS] r=0:=rfE_0 h (by rw [he]; rfl) (by rw [he]; rfl) (by
    have e0:szF (imgsL [chkR bgS] (ordF r.eds))=0:=by rw [he]; rfl
    rw [e0,h2]; omega)
   refine .inr (.inl ⟨h,he,hE,?_⟩)
   rw [rfD_ok hE]
   show ((rfL [chkR bgS] r).length:Int)=2
   have:imgsL [chkR bgS] (ordF r.eds)=[]:=by rw [he]; rfl
   rw [rfL,this]; rfl
  ·by_cases hE:rfE 5 [chkR bgS] r=0
   ·exact .inr (.inr (.inl ⟨h,he,hE⟩))
   ·exact .inr (.inr (.inr ⟨h,he,hE,by rw [rfD_no rfl hE]⟩))
 ·exact .inl ⟨h,rfE_1 h,rfD_no (rfE_1 h) (by decide)⟩
theorem ncheck1 {sb db:Nat} {L:List RecM} {told:Int→Bool} {p c:Nat} {fp:List Nat} {w:World} {note:ByteArray} (hB:(eNi sb db L told p c fp).holds w) (hlt:∀ k∈fp,k < w.heap.size) (hc:c≤800000) (h1:60000 < note.size) (h2:note.size≤9000000):
  Calls Tryz.prog 28 #[.pointer (some ⟨sb,0,none⟩), .string note] w
   (fun e w'=>e= .returned (.int .i64 1)∧∃ fp',St w fp [eNi sb db L told p (c+500) fp'] w'):=by
 have h:=ncheck_any note hB hlt hc h2
 have e:ckrE L note=1:=if_pos h1
 have e2:ckL L note=L:=if_neg (by rw [e]; decide)
 rw [e,e2] at h
 exact h
end
section
open Go.RowKit
theorem storerefuses_any (k x t:Int) (OA NA XA A:Option Addr) (on oc nn nc xn xc c:Nat) (l0:List EdT) (note0:ByteArray) (bufs:Int) (note:ByteArray) (w:World) (hA:At w A (l0.flatMap edC)) (hl0:l0.length≤100000000000000) (hcap:l0.length≤c) (hz:∀ e∈l0,e.2.2.size≤9223372036854775807) (hn0:note0.size≤9223372036854775807) (hn:note.size≤9223372036854775807) (hb: -9223372036854775808≤bufs∧bufs≤9223372036854775807):
  Calls Tryz.prog 3 #[.agg #[.int .i64 k, .int .i64 x, .int .i64 t, .slice OA on oc, .slice NA nn nc, .slice A l0.length c, .slice XA xn xc, .string note0], .int .i64 bufs, .string note] w (Ret (.bool true) w):=by
 obtain ⟨l,hl⟩:∃ z,l0.take 1=z:=⟨_,rfl⟩
 have hAl:At w A (l.flatMap edC):=hl ▸ at_one hA
 have hll:l.length=min l0.length 1:=by rw [← hl,List.length_take]; omega
 have hzl:∀ e∈l,e.2.2.size≤9223372036854775807:=fun e he=>hz e (List.mem_of_mem_take (by rw [hl]; exact he))
 go_enter Tryz.func3,Tryz.ntmps3
 have hst0:=St.start w
 refine wp_seq (sqr ?_)
 refine sqbx #[vi k,vi x,vi t, .slice OA on oc, .slice NA nn nc, .slice A l0.length c, .slice XA xn xc, .string note0] hst0 fun B3_1 W1 hst1=>?_
 refine sqp [.k 6 (.bool false)] ?_
 refine then_normal (wp_seq (sqr (sqk (.bool true) hst1 (fun cx=>⟨_,sanity_any _,map0⟩) fun W3 hst3=>?_)))
 refine sqp [.k 7 (.bool true)] ?_
 refine then_normal (wp_seq (sqr (sqp [.k 37 (.agg #[.pointer none, .pointer none, .pointer none,vi 0,vi 0])] ?_)))
 refine sqbx #[.pointer none, .pointer none, .pointer none,vi 0,vi 0] hst3 fun B38_6 W6 hst6=>?_
 refine sqp [.m 8 38] ?_
 refine then_normal (wp_seq (wp_seq (sqr (sqp [.m 39 8] ?_))))
 refine sqc0s (fun X_=>X_.fp) (.bool true) (fun r2_9=>eWl B38_6 2 1 ([chkR bgS]) (fun _=>false) 5 0 r2_9) 1 hst6 (by
   refine svA fun ρ β W X cx=>?_
   refine DoesU.call (run_callF (args:=#[vp B38_6,vi 2]) rfl cx.sees rfl (by kernel_rfl) (map2 (cx.ou 39) (cx.co _))) ?_
   refine (begin_wl B38_6 2 _ (CtxV.holdF cx (cx.init 1 _ rfl) rfl) ((cx.bi 1 rfl)).lt (by decide)).mono ?_
   rintro e W1 ⟨rfl,fp4,hs4⟩
   refine ⟨_,rfl,post_obj (E:=eB B38_6 34 #[.pointer none, .pointer none, .pointer none,vi 0,vi 0]) [eWl B38_6 2 1 ([chkR bgS]) (fun _=>false) 5 0 fp4] (cx.init 1 _ rfl) rfl rfl hs4 (fun σ β' X' hs hb hv hN=>?_)⟩
   have hv1:=(hv 40 rfl).1; have hv2:=(hv 40 rfl).2
   exact ⟨hv1.trans rfl,eWl_self ((List.cons.inj hN).1)⟩) fun r2_9 W9 hst9=>?_
 refine sqp [.k 41 (.bool false)] ?_
 refine then_normal (wcf rfl (wp_skip (then_normal (wp_seq ?_))))
 obtain ⟨db,sb,rb,fps11_,hu11_⟩:=St.unwl (L0:=[eB B3_1 27 #[vi k,vi x,vi t, .slice OA on oc, .slice NA nn nc, .slice A l0.length c, .slice XA xn xc, .string note0]]) (hst9.pick [0,1] (by decide) rfl)
 have hv11_:St w [] [eB B3_1 27 #[vi k,vi x,vi t, .slice OA on oc, .slice NA nn nc, .slice A l0.length c, .slice XA xn xc, .string note0],eB B38_6 34 #[vp db,vp sb,vp rb,vi 2,vi 1],eNi sb db ([chkR bgS]) (fun _=>false) 5 0 fps11_] W9:=hu11_
 refine sqr (sqp [.k 42 (.pointer (some ⟨B3_1,7,none⟩))] ?_)
 refine sqld 0 hv11_ ?_
 refine sqp [.k 44 (.pointer (some ⟨B3_1,7,none⟩))] ?_
 refine sqld 0 hv11_ ?_
 refine sqp [.k 46 (vi ((note0.size:Int)))] ?_
 refine sql (vi (min (note0.size:Int) 100)) hv11_ (fun cx=>run_min2 rfl (cx.ou 46) (cx.co _) (rfl)) ?_
 refine sql (.string (note0.extract 0 ((min (note0.size:Int) 100).toNat))) hv11_ (fun cx=>run_slice_hi (l:=(min (note0.size:Int) 100).toNat) rfl (by kernel_rfl) (cx.ou 43) (cx.ou 47) (by omega) (by omega)) ?_
 refine sqp [.k 49 (.pointer (some ⟨B3_1,7,none⟩))] ?_
 refine sqst (n:=1) 0 #[vi k,vi x,vi t, .slice OA on oc, .slice NA nn nc, .slice A l0.length c, .slice XA xn xc, .string (note0.extract 0 ((min (note0.size:Int) 100).toNat))] hv11_ fun W20 hst20=>?_
 refine then_normal (wp_seq ?_)
 obtain ⟨nt,hnt⟩:∃ z,note0.extract 0 ((min (note0.size:Int) 100).toNat)=z:=⟨_,rfl⟩
 rw [hnt] at hst20
 have hntz:nt.size≤100:=by rw [← hnt,ByteArray.size_extract]; omega
 refine sqr (sqp [.k 50 (.pointer (some ⟨B3_1,3,none⟩))] ?_)
 refine sqst (n:=1) 0 #[vi k,vi x,vi t, .slice none 0 0, .slice NA nn nc, .slice A l0.length c, .slice XA xn xc, .string nt] hst20 fun W22 hst22=>?_
 refine then_normal (wp_seq (sqr (sqp [.k 51 (.pointer (some ⟨B3_1,4,none⟩))] ?_)))
 refine sqst (n:=1) 0 #[vi k,vi x,vi t, .slice none 0 0, .slice none 0 0, .slice A l0.length c, .slice XA xn xc, .string nt] hst22 fun W24 hst24=>?_
 refine then_normal (wp_seq (sqr (sqp [.k 52 (.pointer (some ⟨B3_1,6,none⟩))] ?_)))
 refine sqst (n:=1) 0 #[vi k,vi x,vi t, .slice none 0 0, .slice none 0 0, .slice A l0.length c, .slice none 0 0, .string nt] hst24 fun W26 hst26=>?_
 refine then_normal (wp_seq (sqr (sqp [.k 53 (.pointer (some ⟨B3_1,5,none⟩))] ?_)))
 refine sqld 0 hst26 ?_
 refine sqp [.k 55 (.pointer (some ⟨B3_1,5,none⟩))] ?_
 refine sqld 0 hst26 ?_
 refine sqp [.k 57 (vi ((l0.length:Int)))] ?_
 refine sql (vi ((l.length:Int))) hst26 (fun cx=>run_min2 rfl (cx.ou 57) (cx.co _) (by omega)) ?_
 refine sql (.slice A l.length c) hst26 (fun cx=>run_sliceL_hi (e:=84) (sz:=3) (m:=l.length) rfl (by kernel_rfl) (by kernel_rfl) (cx.ou 54) (cx.ou 58) (by omega) (by omega)) ?_
 refine sqp [.k 60 (.pointer (some ⟨B3_1,5,none⟩))] ?_
 refine sqst (n:=1) 0 #[vi k,vi x,vi t, .slice none 0 0, .slice none 0 0, .slice A l.length c, .slice none 0 0, .string nt] hst26 fun W35 hst35=>?_
 refine then_normal (wp_seq (sqr (sqp [.m 61 8, .k 62 (vp B38_6), .k 63 (vp B38_6)] ?_)))
 refine sqld 1 hst35 ?_
 refine sqk (.string ((logF ([chkR bgS])))) hst35 (fun cx=>⟨_,nlog_any (CtxV.holdF cx (cx.init 2 _ rfl) rfl),(map1 (cx.ou 64))⟩) fun W40 hst40=>?_
 refine sqp [.m 9 65] ?_
 refine then_normal (wp_seq (sqr ?_))
 refine sqlb 0 8 hst40 ?_
 refine sqk (.bool ((recR (⟨k,x,t,l,nt⟩:RecM)))) hst40 (fun cx=>⟨_,r04right_any k x t _ _ l nt _ (hAl.ext cx.upd.to_ext) (by omega) hzl (by omega),(map1 (cx.ou 66))⟩) fun W43 hst43=>?_
 refine sqp [.m 68 67] ?_
 refine sqw' 68 [69,70,71] ?_ rfl (fun hq=>?_) ?_
 rotate_left
 ·refine sqp [.k 69 (vp B3_1)] ?_
  refine sqld 0 hst43 ?_
  refine sqp [.k 71 (.bool (k != 8))] ?_
  exact sqe
 refine sqwx ?_
 refine sqp [sPa 72 (recR (⟨k,x,t,l,nt⟩:RecM)) (k != 8), .m 73 72] ?_
 refine sqw' 73 [74,75,76] ?_ rfl (fun hq=>?_) ?_
 rotate_left
 ·refine sqp [.k 74 (vp B3_1)] ?_
  refine sqld 0 hst43 ?_
  refine sqp [.k 76 (.bool (k != 9))] ?_
  exact sqe
 refine sqwx ?_
 refine sqp [sPa 77 ((recR (⟨k,x,t,l,nt⟩:RecM))&&(k != 8)) (k != 9), .m 10 77] ?_
 refine then_normal (wp_seq (wp_region_Y [0,1,3,7,0,31,63,127,127,255,1023] [[],[],[],[1],[0],[2]] [[],[],[],[],[],[3]] [[],[],[],[],[],[2]] [.k 79 (vp B38_6), .k 80 (vp B38_6), .k 81 (.pointer (some ⟨B38_6,1,none⟩)), .c 82 (vp sb), .c 83 (.agg #[vi k,vi x,vi t, .slice none 0 0, .slice none 0 0, .slice A l.length c, .slice none 0 0, .string nt]), .a 84, .c 78 (.tuple #[vi ((rfD 5 [chkR bgS] (fun _=>false) (⟨k,x,t,l,nt⟩:RecM)).2.1),vi ((rfE 5 [chkR bgS] (⟨k,x,t,l,nt⟩:RecM)))]), .k 85 (vi ((rfD 5 [chkR bgS] (fun _=>false) (⟨k,x,t,l,nt⟩:RecM)).2.1)), .k 86 (vi ((rfE 5 [chkR bgS] (⟨k,x,t,l,nt⟩:RecM)))), .k 11 (vi ((rfD 5 [chkR bgS] (fun _=>false) (⟨k,x,t,l,nt⟩:RecM)).2.1)), .k 12 (vi ((rfE 5 [chkR bgS] (⟨k,x,t,l,nt⟩:RecM))))] (fun ix σ β X=>match ix with | 0=>True | 1=>True | 2=>True | 3=>True | 4=>True | 5=>σ 84= .tuple #[vi ((rfD 5 [chkR bgS] (fun _=>false) (⟨k,x,t,l,nt⟩:RecM)).2.1),vi ((rfE 5 [chkR bgS] (⟨k,x,t,l,nt⟩:RecM)))]∧X 3=eNi sb db ((rfD 5 [chkR bgS] (fun _=>false) (⟨k,x,t,l,nt⟩:RecM)).1) ((rfD 5 [chkR bgS] (fun _=>false) (⟨k,x,t,l,nt⟩:RecM)).2.2.2) 5 (0+700) ((X 3).fp) | _=>True) [0,1,3] [3,4,5,6] [(11,9,2,13),(65,6,1,66),(0,0,6,6),(0,7,2,2)] hst43 ?_ ?_ ?_))
 ·exact fun ix _ _ _ _ _ _ hs hb hx h=>match ix,h with
  | 5,h=>by dsimp only; rw [← hs 84 rfl,← hx 3 rfl]; exact h
  | 0, _ | 1, _ | 2, _ | 3, _ | 4, _ | _+6, _=>trivial
 ·refine ⟨?_,?_,?_,?_,trivial⟩
  ·exact xs4 rfl id fun cx=>run_load1 rfl (by kernel_rfl) (cx.an 2) ((cx.bi 1 rfl).cell 1)
  ·exact xs4 rfl id fun cx=>run_loadB (n:=8) rfl (by kernel_rfl) (by kernel_rfl) (cx.ou 3) (cx.bi 0 rfl) (nle rfl) rfl
  ·refine svA fun ρ β W X cx=>?_
   refine DoesU.call (run_callF (args:=#[vp sb, .agg #[vi k,vi x,vi t, .slice none 0 0, .slice none 0 0, .slice A l.length c, .slice none 0 0, .string nt]]) rfl cx.sees rfl (by kernel_rfl) (map2 (cx.an 3) (cx.an 4))) ?_
   refine (ndo_any (L:=[chkR bgS]) (⟨k,x,t,l,nt⟩:RecM) _ _ (CtxV.holdF cx (cx.init 2 _ rfl) rfl) (CtxV.ltF cx (cx.init 2 _ rfl) rfl) (by decide) (cx.oldAt (cx.init 2 _ rfl) rfl rfl hAl) (by show l.length≤ _; omega) hzl (by show nt.size≤ _; omega)).mono ?_
   rintro e W1 ⟨rfl,fp4,hs4⟩
   refine ⟨_,rfl,post_obj (E:=eNi sb db ([chkR bgS]) (fun _=>false) 5 0 fps11_) [eNi sb db ((rfD 5 [chkR bgS] (fun _=>false) (⟨k,x,t,l,nt⟩:RecM)).1) ((rfD 5 [chkR bgS] (fun _=>false) (⟨k,x,t,l,nt⟩:RecM)).2.2.2) 5 (0+700) fp4] (cx.init 2 _ rfl) rfl rfl hs4 (fun σ β' X' hs hb hv hN=>?_)⟩
   have hv1:=(hv 84 rfl).1; have hv2:=(hv 84 rfl).2
   exact ⟨hv1.trans rfl,eNi_self ((List.cons.inj hN).1)⟩
  ·exact xs4 rfl id fun cx=>run_move' rfl (dTn (cx.an 5)).1
 intro σ β X W55 hD hst55 fr hfr
 have xX3:X 3= _:=(dTn (hD 5 lq)).2
 obtain ⟨r3_55,hu_r3_55⟩:∃ z,(X 3).fp=z:=⟨_,rfl⟩
 rw [hu_r3_55] at xX3
 clear hu_r3_55
 simp only [xX3] at hst55
 simp only [ed 84 ((dTn (hD 5 lq)).1)] at hfr
 clear hD xX3; subst hfr; clear σ β X
 refine then_normal ?_
 refine wp_cutT (fun t_ az W=>∃ L9:List RecM,∃ t9:Int→Bool,∃ fp9:List Nat,True∧az=⟨(ovr (jv az) [(6,6,1,[]),(80,87,40,[])] t_).toArray,[]⟩∧St w [] [eB B38_6 34 #[vp db,vp sb,vp rb,vi 2,vi 1],eB B3_1 27 #[vi k,vi x,vi t, .slice none 0 0, .slice none 0 0, .slice A l.length c, .slice none 0 0, .string nt],eNi sb db L9 t9 5 700 fp9] W) ?_ ?_
 ·refine wp_seq ?_
  rcases rf_ways (⟨k,x,t,l,nt⟩:RecM) (fun _=>false) with ⟨hw1,hw2,hw3⟩ | ⟨hw1,hw2,hw3,hw4⟩ | ⟨hw1,hw2,hw3⟩ | ⟨hw1,hw2,hw3,hw4⟩
  ·have hr57_:(((recR (⟨k,x,t,l,nt⟩:RecM))&&(k != 8))&&(k != 9))=false:=by have h_:=hw1; simp only [DoA] at h_; cases hc_:(((recR (⟨k,x,t,l,nt⟩:RecM))&&(k != 8))&&(k != 9))<;>simp_all
   rw [hw2,hw3]
   rw [hw3] at hst55
   refine sqr ?_
   refine sql (.bool false) hst55 (fun cx=>run_move' rfl (Eq.trans (cx.ou 10) (congrArg Value.bool hr57_))) ?_
   refine sqp [.k 88 (.bool true), .k 89 (.bool true)] ?_
   refine sqgy 89 [90,91,92,93,94,95] rfl rfl ?_
   refine sqp [.m 90 12, .k 91 (.bool false), .k 92 (.bool false)] ?_
   refine sqgy 92 [93,94] rfl rfl ?_
   refine sqp [.m 93 11, .k 94 (.bool false)] ?_
   refine sqp [.k 95 (.bool false)] ?_
   refine sqp [.k 96 (.bool false), .k 97 (.bool false)] ?_
   refine sqgy 97 [98,99,100,101,102,103,104,105,106,107,108,109,110,111,112] rfl rfl ?_
   refine sql (.bool false) hst55 (fun cx=>run_move' rfl (Eq.trans (cx.ou 10) (congrArg Value.bool hr57_))) ?_
   refine sqpn [.k 99 (.bool false)] 99 [100,101,102,103] ?_
   refine sqpn [.k 104 (.bool false), .k 105 (.bool false)] 105 [106,107,108,109,110,111] ?_
   refine sqp [.k 112 (.bool false)] ?_
   refine sqp [.k 113 (.bool false), .k 114 (.bool false)] ?_
   refine sqgy 114 [115,116,117,118,119,120,121,122,123,124,125] rfl rfl ?_
   refine sqp [.m 115 12, .k 116 (.bool true), .k 117 (.bool true)] ?_
   refine sqgy 117 [118,119,120,121,122,123,124] rfl rfl ?_
   refine sqp [.m 118 8, .k 119 (vp B38_6), .k 120 (vp B38_6)] ?_
   refine sqld 1 hst55 ?_
   refine sqk (.string ((logF ([chkR bgS])))) hst55 (fun cx=>⟨_,nlog_any (CtxV.holdF cx (cx.init 2 _ rfl) rfl),(map1 (cx.ou 121))⟩) fun W83 hst83=>?_
   have hd86:(!(((logF ([chkR bgS]))).toList==((logF ([chkR bgS]))).toList))=false:=(by simp)
   refine sqp [.m 123 9, .e 124 (.bool (!(((logF ([chkR bgS]))).toList==((logF ([chkR bgS]))).toList))) (.bool false) (congrArg Value.bool hd86)] ?_
   refine sqp [.k 125 (.bool false)] ?_
   refine sqp [.k 126 (.bool false)] ?_
   refine then_normal (wcf rfl (wp_skip (then_normal ?_)))
   exact ⟨[chkR bgS],(fun _=>false),r3_55,trivial,(by kernel_rfl),hst83.pk [1,0,2]⟩
  ·have hr89_:(((recR (⟨k,x,t,l,nt⟩:RecM))&&(k != 8))&&(k != 9))=true:=by have h_:=hw1; simp only [DoA] at h_; simpa [Bool.and_assoc] using h_
   rw [hw3,hw4]
   refine sqr ?_
   refine sql (.bool true) hst55 (fun cx=>run_move' rfl (Eq.trans (cx.ou 10) (congrArg Value.bool hr89_))) ?_
   refine sqpn [.k 88 (.bool false), .k 89 (.bool false)] 89 [90,91,92,93,94,95] ?_
   refine sqp [.k 96 (.bool false), .k 97 (.bool false)] ?_
   refine sqgy 97 [98,99,100,101,102,103,104,105,106,107,108,109,110,111,112] rfl rfl ?_
   refine sql (.bool true) hst55 (fun cx=>run_move' rfl (Eq.trans (cx.ou 10) (congrArg Value.bool hr89_))) ?_
   refine sqp [.k 99 (.bool true)] ?_
   refine sqgy 99 [100,101,102,103] rfl rfl ?_
   refine sqp [.k 100 (.pointer (some ⟨B3_1,5,none⟩))] ?_
   refine sqld 0 hst55 ?_
   have hd101:((l.length:Int)==0)=true:=(beq_iff_eq.2 (by rw [show l=[] from hw2]; rfl))
   refine sqp [.k 102 (vi ((l.length:Int))), .e 103 (.bool ((l.length:Int)==0)) (.bool true) (congrArg Value.bool hd101)] ?_
   refine sqp [.k 104 (.bool true), .k 105 (.bool true)] ?_
   refine sqgy 105 [106,107,108,109,110,111] rfl rfl ?_
   refine sqp [.m 106 12, .k 107 (.bool false), .k 108 (.bool false)] ?_
   refine sqgy 108 [109,110] rfl rfl ?_
   refine sqp [.m 109 11, .k 110 (.bool false)] ?_
   refine sqp [.k 111 (.bool false)] ?_
   refine sqp [.k 112 (.bool false)] ?_
   refine sqp [.k 113 (.bool false), .k 114 (.bool false)] ?_
   refine sqgy 114 [115,116,117,118,119,120,121,122,123,124,125] rfl rfl ?_
   refine sqpn [.m 115 12, .k 116 (.bool false), .k 117 (.bool false)] 117 [118,119,120,121,122,123,124] ?_
   refine sqp [.k 125 (.bool false)] ?_
   refine sqp [.k 126 (.bool false)] ?_
   refine then_normal (wcf rfl (wp_skip (then_normal ?_)))
   exact ⟨(rfD 5 [chkR bgS] (fun _=>false) (⟨k,x,t,l,nt⟩:RecM)).1,(rfD 5 [chkR bgS] (fun _=>false) (⟨k,x,t,l,nt⟩:RecM)).2.2.2,r3_55,trivial,(by kernel_rfl),hst55.pk [1,0,2]⟩
  ·have hr118_:(((recR (⟨k,x,t,l,nt⟩:RecM))&&(k != 8))&&(k != 9))=true:=by have h_:=hw1; simp only [DoA] at h_; simpa [Bool.and_assoc] using h_
   rw [hw3]
   refine sqr ?_
   refine sql (.bool true) hst55 (fun cx=>run_move' rfl (Eq.trans (cx.ou 10) (congrArg Value.bool hr118_))) ?_
   refine sqpn [.k 88 (.bool false), .k 89 (.bool false)] 89 [90,91,92,93,94,95] ?_
   refine sqp [.k 96 (.bool false), .k 97 (.bool false)] ?_
   refine sqgy 97 [98,99,100,101,102,103,104,105,106,107,108,109,110,111,112] rfl rfl ?_
   refine sql (.bool true) hst55 (fun cx=>run_move' rfl (Eq.trans (cx.ou 10) (congrArg Value.bool hr118_))) ?_
   refine sqp [.k 99 (.bool true)] ?_
   refine sqgy 99 [100,101,102,103] rfl rfl ?_
   refine sqp [.k 100 (.pointer (some ⟨B3_1,5,none⟩))] ?_
   refine sqld 0 hst55 ?_
   have hd130:((l.length:Int)==0)=false:=(beq_eq_false_iff_ne.2 (fun h0=>hw2 (List.eq_nil_of_length_eq_zero (show l.length=0 by omega))))
   refine sqp [.k 102 (vi ((l.length:Int))), .e 103 (.bool ((l.length:Int)==0)) (.bool false) (congrArg Value.bool hd130)] ?_
   refine sqpn [.k 104 (.bool false), .k 105 (.bool false)] 105 [106,107,108,109,110,111] ?_
   refine sqp [.k 112 (.bool false)] ?_
   refine sqp [.k 113 (.bool false), .k 114 (.bool false)] ?_
   refine sqgy 114 [115,116,117,118,119,120,121,122,123,124,125] rfl rfl ?_
   refine sqpn [.m 115 12, .k 116 (.bool false), .k 117 (.bool false)] 117 [118,119,120,121,122,123,124] ?_
   refine sqp [.k 125 (.bool false)] ?_
   refine sqp [.k 126 (.bool false)] ?_
   refine then_normal (wcf rfl (wp_skip (then_normal ?_)))
   exact ⟨(rfD 5 [chkR bgS] (fun _=>false) (⟨k,x,t,l,nt⟩:RecM)).1,(rfD 5 [chkR bgS] (fun _=>false) (⟨k,x,t,l,nt⟩:RecM)).2.2.2,r3_55,trivial,(by kernel_rfl),hst55.pk [1,0,2]⟩
  ·have hr141_:(((recR (⟨k,x,t,l,nt⟩:RecM))&&(k != 8))&&(k != 9))=true:=by have h_:=hw1; simp only [DoA] at h_; simpa [Bool.and_assoc] using h_
   rw [hw4] at hst55
   refine sqr ?_
   refine sql (.bool true) hst55 (fun cx=>run_move' rfl (Eq.trans (cx.ou 10) (congrArg Value.bool hr141_))) ?_
   refine sqpn [.k 88 (.bool false), .k 89 (.bool false)] 89 [90,91,92,93,94,95] ?_
   refine sqp [.k 96 (.bool false), .k 97 (.bool false)] ?_
   refine sqgy 97 [98,99,100,101,102,103,104,105,106,107,108,109,110,111,112] rfl rfl ?_
   refine sql (.bool true) hst55 (fun cx=>run_move' rfl (Eq.trans (cx.ou 10) (congrArg Value.bool hr141_))) ?_
   refine sqp [.k 99 (.bool true)] ?_
   refine sqgy 99 [100,101,102,103] rfl rfl ?_
   refine sqp [.k 100 (.pointer (some ⟨B3_1,5,none⟩))] ?_
   refine sqld 0 hst55 ?_
   have hd153:((l.length:Int)==0)=false:=(beq_eq_false_iff_ne.2 (fun h0=>hw2 (List.eq_nil_of_length_eq_zero (show l.length=0 by omega))))
   refine sqp [.k 102 (vi ((l.length:Int))), .e 103 (.bool ((l.length:Int)==0)) (.bool false) (congrArg Value.bool hd153)] ?_
   refine sqpn [.k 104 (.bool false), .k 105 (.bool false)] 105 [106,107,108,109,110,111] ?_
   refine sqp [.k 112 (.bool false)] ?_
   refine sqp [.k 113 (.bool false), .k 114 (.bool false)] ?_
   refine sqgy 114 [115,116,117,118,119,120,121,122,123,124,125] rfl rfl ?_
   have hd161:((rfE 5 [chkR bgS] (⟨k,x,t,l,nt⟩:RecM)) != 0)=true:=(bne_iff_ne.2 hw3)
   refine sqp [.m 115 12, .e 116 (.bool ((rfE 5 [chkR bgS] (⟨k,x,t,l,nt⟩:RecM)) != 0)) (.bool true) (congrArg Value.bool hd161), .k 117 (.bool true)] ?_
   refine sqgy 117 [118,119,120,121,122,123,124] rfl rfl ?_
   refine sqp [.m 118 8, .k 119 (vp B38_6), .k 120 (vp B38_6)] ?_
   refine sqld 1 hst55 ?_
   refine sqk (.string ((logF ([chkR bgS])))) hst55 (fun cx=>⟨_,nlog_any (CtxV.holdF cx (cx.init 2 _ rfl) rfl),(map1 (cx.ou 121))⟩) fun W167 hst167=>?_
   have hd170:(!(((logF ([chkR bgS]))).toList==((logF ([chkR bgS]))).toList))=false:=(by simp)
   refine sqp [.m 123 9, .e 124 (.bool (!(((logF ([chkR bgS]))).toList==((logF ([chkR bgS]))).toList))) (.bool false) (congrArg Value.bool hd170)] ?_
   refine sqp [.k 125 (.bool false)] ?_
   refine sqp [.k 126 (.bool false)] ?_
   refine then_normal (wcf rfl (wp_skip (then_normal ?_)))
   exact ⟨[chkR bgS],(rfD 5 [chkR bgS] (fun _=>false) (⟨k,x,t,l,nt⟩:RecM)).2.2.2,r3_55,trivial,(by kernel_rfl),hst167.pk [1,0,2]⟩
 rintro a56 W56 ⟨L9,t9,fp9, -,hj_,hst56⟩
 refine ovz hj_ fun u56_=>?_
 refine wp_seq (sqr ?_)
 refine sqn1 (fun x_=>sA x_) (fun A127_173=> .slice A127_173 60001 60001) (fun A127_173=>eO 5 1 (.slice A127_173 60001 60001) 60001 ((List.replicate 60001 (0:Int)).map (Value.int .u8))) hst56 (by
   refine svA fun ρ β W X cx=>?_
   obtain ⟨i0,hi0,hz0,hz1,hz2⟩:=info_parts Tryz.infoU8
   exact dv_make (n:=60001) rfl (by kernel_rfl) hi0 hz0 hz1 hz2 rfl (cx.co _) (cx.co _) (by omega) (by omega) (by omega) (by omega) rfl rfl (fun σ β' X' hs hb hv hx=>⟨hv,by rw [List.map_replicate]; exact hx⟩)) fun A127_173 W173 hst173=>?_
 refine sql (.string (strOfNums ((List.replicate 60001 (0:Int))))) hst173 (fun cx=>run_convB (e:=5) rfl (by kernel_rfl) (by kernel_rfl) (by kernel_rfl) (cx.ou 127) (cx.ri 3 rfl)) ?_
 refine sqp [.m 13 128] ?_
 refine then_normal (wp_seq ?_)
 obtain ⟨lg,hlg⟩:∃ z,(strOfNums (List.replicate 60001 (0:Int)))=z:=⟨_,rfl⟩
 have hlong:lg.size=60001:=by rw [← hlg]; exact zN_size 60001
 simp only [hlg]
 clear hlg
 have hk176_:=hst173.u3.c0
 refine sqr (sqp [.m 130 8, .k 131 (vp B38_6), .k 132 (vp B38_6)] ?_)
 refine sqld 0 hk176_ ?_
 refine sqk (.tuple #[.pointer none,vi 30]) hk176_ (fun cx=>⟨_,sopen_bad (vp db) 0 _ (by decide),(map2 (cx.ou 133) (cx.co _))⟩) fun W181 hst181=>?_
 refine sqp [.m 129 134, .k 135 (.pointer none), .k 136 (vi 30), .m 14 135, .m 15 136] ?_
 refine then_normal (wp_seq (sqr (sqp [.m 138 8, .k 139 (vp B38_6), .k 140 (vp B38_6)] ?_)))
 refine sqld 0 hst181 ?_
 refine sqk (.tuple #[.pointer none,vi 30]) hst181 (fun cx=>⟨_,sopen_bad (vp db) 65 _ (by decide),(map2 (cx.ou 141) (cx.co _))⟩) fun W191 hst191=>?_
 refine sqp [.m 137 142, .k 143 (.pointer none), .k 144 (vi 30), .m 16 143, .m 17 144] ?_
 refine then_normal (wp_seq (sqr ?_))
 refine sqk1s (fun D146_197=>vp D146_197) (fun D146_197 r3_197=>eDk D146_197 (newD 3) r3_197) hst191 (fun cx=>⟨_,(knew_any 3 _ (by decide)).mono (by rintro e W1 ⟨b4,rfl,fp4,hs4⟩; exact ⟨_, _,rfl,hs4⟩),(map1 (cx.co _))⟩) fun D146_197 r3_197 W197 hst197=>?_
 refine sqc0s (fun X_=>X_.fp) (.tuple #[.pointer none,vi 11]) (fun r4_198=>eDk D146_197 (newD 3) r4_198) 3 hst197 (by
   refine svA fun ρ β W X cx=>?_
   refine DoesU.call (run_callF (args:=#[vp D146_197,vi 2]) rfl cx.sees rfl (by kernel_rfl) (map2 (cx.ou 146) (cx.co _))) ?_
   refine (nopen_form 3 2 (CtxV.holdF cx (cx.init 3 _ rfl) rfl) (CtxV.ltF cx (cx.init 3 _ rfl) rfl) (by decide) (by decide)).mono ?_
   rintro e W1 ⟨rfl,fp4,hs4⟩
   refine ⟨_,rfl,post_obj (E:=eDk D146_197 (newD 3) r3_197) [eDk D146_197 (newD 3) fp4] (cx.init 3 _ rfl) rfl rfl hs4 (fun σ β' X' hs hb hv hN=>?_)⟩
   have hv1:=(hv 147 rfl).1; have hv2:=(hv 147 rfl).2
   exact ⟨hv1.trans rfl,eDk_self ((List.cons.inj hN).1)⟩) fun r4_198 W198 hst198=>?_
 refine sqp [.m 145 147, .k 148 (.pointer none), .k 149 (vi 11), .m 18 148, .m 19 149] ?_
 refine then_normal (wp_seq (sqr (sqp [.m 150 1, .m 20 150] ?_)))
 refine then_normal ?_
 refine wp_cutT (fun t_ az W=>∃ f9:Int,¬ (1≤f9∧f9≤64)∧az=⟨(ovr (jv az) [(20,20,0,[vi f9]),(130,151,8,[])] t_).toArray,[]⟩∧St w [] [eB B38_6 34 #[vp db,vp sb,vp rb,vi 2,vi 1],eB B3_1 27 #[vi k,vi x,vi t, .slice none 0 0, .slice none 0 0, .slice A l.length c, .slice none 0 0, .string nt],eNi sb db L9 t9 5 700 fp9,eDk D146_197 (newD 3) r4_198] W) ?_ ?_
 ·refine wp_seq (sqr (sqp [.m 151 20, .k 152 (.bool (decide (1≤bufs))), .m 153 152] ?_))
  refine sqw 153 [154,155] rfl (fun _=>sqp [.m 154 20, .k 155 (.bool (decide (bufs≤64)))] sqe) ?_
  refine sqp [sPa 156 (decide (1≤bufs)) (decide (bufs≤64))] ?_
  refine then_normal (wbs (fun hs213=>?_) fun hs213=>?_)
  ·have hs213p:=hs213
   simp only [zB] at hs213p
   obtain ⟨hs213p1,hs213p2⟩:=hs213p
   refine sqr (sqp [.m 157 20,sI 158 (bufs+64) (by omega), .m 20 158] ?_)
   refine then_normal ?_
   exact ⟨bufs+64,by have h_:=hs213; simp at h_; omega,(by kernel_rfl),hst198.pk [0,1,2,3]⟩
  have hs213p:=hs213
  simp only [zB] at hs213p
  refine wp_skip (then_normal ?_)
  exact ⟨bufs,by have h_:=hs213; simp at h_; omega,(by kernel_rfl),hst198.pk [0,1,2,3]⟩
 rintro a206 W206 ⟨f9,hfar,hj_,hst206⟩
 refine ovz hj_ fun u206_=>?_
 refine wp_seq (sqr (sqp [.m 160 8, .k 161 (vp B38_6), .k 162 (vp B38_6)] ?_))
 refine sqld 0 hst206 ?_
 refine sqp [.m 164 20] ?_
 refine sqk (.tuple #[.pointer none,vi 30]) hst206 (fun cx=>⟨_,sopen_bad (vp db) f9 _ hfar,(map2 (cx.ou 163) (cx.ou 164))⟩) fun W222 hst222=>?_
 refine sqp [.m 159 165, .k 166 (.pointer none), .k 167 (vi 30), .m 21 166, .m 22 167] ?_
 refine then_normal (wp_seq (sqr (sqp [.m 168 14] ?_)))
 refine sqv (.bool true) hst222 (by
   exact sv0 rfl rfl rfl rfl rfl (fun _ _ _ h=>h) fun ρ β W X cx=>by
    have fF168:ρ (.tmp 168)= .pointer none:=(cx.ou 168)
    simp [go_sem,cx.sees.const,fF168]) fun W229 hst229=>?_
 refine sqp [.k 170 (.bool true)] ?_
 refine sqgy 170 [171,172] rfl rfl ?_
 refine sqp [.m 171 16] ?_
 refine sqv (.bool true) hst229 (by
   exact sv0 rfl rfl rfl rfl rfl (fun _ _ _ h=>h) fun ρ β W X cx=>by
    have fF171:ρ (.tmp 171)= .pointer none:=(cx.ou 171)
    simp [go_sem,cx.sees.const,fF171]) fun W232 hst232=>?_
 refine sqp [.k 173 (.bool true), .k 174 (.bool true)] ?_
 refine sqgy 174 [175,176] rfl rfl ?_
 refine sqp [.m 175 18] ?_
 refine sqv (.bool true) hst232 (by
   exact sv0 rfl rfl rfl rfl rfl (fun _ _ _ h=>h) fun ρ β W X cx=>by
    have fF175:ρ (.tmp 175)= .pointer none:=(cx.ou 175)
    simp [go_sem,cx.sees.const,fF175]) fun W236 hst236=>?_
 refine sqp [.k 177 (.bool true), .k 178 (.bool true)] ?_
 refine sqgy 178 [179,180] rfl rfl ?_
 refine sqp [.m 179 21] ?_
 refine sqv (.bool true) hst236 (by
   exact sv0 rfl rfl rfl rfl rfl (fun _ _ _ h=>h) fun ρ β W X cx=>by
    have fF179:ρ (.tmp 179)= .pointer none:=(cx.ou 179)
    simp [go_sem,cx.sees.const,fF179]) fun W240 hst240=>?_
 refine sqp [.k 181 (.bool true), .k 182 (.bool true)] ?_
 refine sqgy 182 [183,184] rfl rfl ?_
 refine sqp [.m 183 15, .k 184 (.bool true)] ?_
 refine sqp [.k 185 (.bool true), .k 186 (.bool true)] ?_
 refine sqgy 186 [187,188] rfl rfl ?_
 refine sqp [.m 187 17, .k 188 (.bool true)] ?_
 refine sqp [.k 189 (.bool true), .k 190 (.bool true)] ?_
 refine sqgy 190 [191,192] rfl rfl ?_
 refine sqp [.m 191 19, .k 192 (.bool true)] ?_
 refine sqp [.k 193 (.bool true), .k 194 (.bool true)] ?_
 refine sqgy 194 [195,196] rfl rfl ?_
 refine sqp [.m 195 22, .k 196 (.bool true)] ?_
 refine sqp [.k 197 (.bool true), .k 23 (.bool true)] ?_
 refine then_normal (wp_seq (sqr ?_))
 refine sqk1s (fun D198_259=>vp D198_259) (fun D198_259 r4_259=>eDk D198_259 (newD 0) r4_259) hst240 (fun cx=>⟨_,(knew_any 0 _ (by decide)).mono (by rintro e W1 ⟨b4,rfl,fp4,hs4⟩; exact ⟨_, _,rfl,hs4⟩),(map1 (cx.co _))⟩) fun D198_259 r4_259 W259 hst259=>?_
 refine sqp [.m 24 198] ?_
 refine then_normal (wp_seq (sqr (sqp [.m 199 24, .m 200 13] ?_)))
 refine sqc0s (fun X_=>X_.fp) (vi 1) (fun r5_263=>eDk D198_259 (newD 0) r5_263) 4 hst259 (by
   refine svA fun ρ β W X cx=>?_
   refine DoesU.call (run_callF (args:=#[vp D198_259, .string lg]) rfl cx.sees rfl (by kernel_rfl) (map2 (cx.ou 199) (cx.ou 200))) ?_
   refine (nformat_long 0 lg (CtxV.holdF cx (cx.init 4 _ rfl) rfl) (CtxV.ltF cx (cx.init 4 _ rfl) rfl) (by rw [hlong]; decide) (by rw [hlong]; decide)).mono ?_
   rintro e W1 ⟨rfl,fp4,hs4⟩
   refine ⟨_,rfl,post_obj (E:=eDk D198_259 (newD 0) r4_259) [eDk D198_259 (newD 0) fp4] (cx.init 4 _ rfl) rfl rfl hs4 (fun σ β' X' hs hb hv hN=>?_)⟩
   have hv1:=(hv 201 rfl).1; have hv2:=(hv 201 rfl).2
   exact ⟨hv1.trans rfl,eDk_self ((List.cons.inj hN).1)⟩) fun r5_263 W263 hst263=>?_
 refine sqp [.m 25 201] ?_
 refine then_normal (wp_seq ?_)
 obtain ⟨nt9,hnt9⟩:∃ z,note.extract 0 ((min (note.size:Int) 90).toNat)=z:=⟨_,rfl⟩
 have hnz9:nt9.size≤90:=by rw [← hnt9,ByteArray.size_extract]; omega
 refine sqr (sqp [.m 202 24, .m 203 2, .m 204 2, .k 205 (vi ((note.size:Int)))] ?_)
 refine sql (vi (min (note.size:Int) 90)) hst263 (fun cx=>run_min2 rfl (cx.ou 205) (cx.co _) (rfl)) ?_
 refine sql (.string nt9) hst263 (fun cx=>by rw [← hnt9]; exact run_slice_hi (l:=(min (note.size:Int) 90).toNat) rfl (by kernel_rfl) (cx.ou 203) (cx.ou 206) (by omega) (by omega)) ?_
 refine sqc0s (fun X_=>X_.fp) (vi 0) (fun r5_271=>eDk D198_259 (bgD 0 nt9) r5_271) 4 hst263 (by
   refine svA fun ρ β W X cx=>?_
   refine DoesU.call (run_callF (args:=#[vp D198_259, .string nt9]) rfl cx.sees rfl (by kernel_rfl) (map2 (cx.ou 202) (cx.ou 207))) ?_
   refine (nformat_any 0 nt9 (CtxV.holdF cx (cx.init 4 _ rfl) rfl) (CtxV.ltF cx (cx.init 4 _ rfl) rfl) (by omega)).mono ?_
   rintro e W1 ⟨rfl,fp4,hs4⟩
   refine ⟨_,rfl,post_obj (E:=eDk D198_259 (newD 0) r5_263) [eDk D198_259 (bgD 0 nt9) fp4] (cx.init 4 _ rfl) rfl rfl hs4 (fun σ β' X' hs hb hv hN=>?_)⟩
   have hv1:=(hv 208 rfl).1; have hv2:=(hv 208 rfl).2
   exact ⟨hv1.trans rfl,eDk_self ((List.cons.inj hN).1)⟩) fun r5_271 W271 hst271=>?_
 refine sqp [.m 26 208] ?_
 refine then_normal (wp_seq (sqr (sqp [.m 209 24] ?_)))
 refine sqc0s (fun X_=>X_.fp) (vi 1) (fun r5_274=>eDk D198_259 (bgD 0 nt9) r5_274) 4 hst271 (by
   refine svA fun ρ β W X cx=>?_
   refine DoesU.call (run_callF (args:=#[vp D198_259, .string ⟨#[97,103,97,105,110]⟩]) rfl cx.sees rfl (by kernel_rfl) (map2 (cx.ou 209) (cx.co _))) ?_
   refine (nformat_again 0 nt9 (⟨#[97,103,97,105,110]⟩:ByteArray) (CtxV.holdF cx (cx.init 4 _ rfl) rfl) (CtxV.ltF cx (cx.init 4 _ rfl) rfl) (by omega) (by decide)).mono ?_
   rintro e W1 ⟨rfl,fp4,hs4⟩
   refine ⟨_,rfl,post_obj (E:=eDk D198_259 (bgD 0 nt9) r5_271) [eDk D198_259 (bgD 0 nt9) fp4] (cx.init 4 _ rfl) rfl rfl hs4 (fun σ β' X' hs hb hv hN=>?_)⟩
   have hv1:=(hv 210 rfl).1; have hv2:=(hv 210 rfl).2
   exact ⟨hv1.trans rfl,eDk_self ((List.cons.inj hN).1)⟩) fun r5_274 W274 hst274=>?_
 refine sqp [.m 27 210] ?_
 refine then_normal (wp_seq (sqr (sqp [.m 212 24] ?_)))
 refine sqc1s (fun x_=>pb (tg x_ 0)) (fun X_=>X_.fp) (fun S213_277=> .tuple #[vp S213_277,vi 0]) (fun S213_277 r5_277=>eNi S213_277 D198_259 ([chkR nt9]) (fun _=>false) 0 0 r5_277) 4 hst274 (by
   refine svA fun ρ β W X cx=>?_
   refine DoesU.call (run_callF (args:=#[vp D198_259,vi 1]) rfl cx.sees rfl (by kernel_rfl) (map2 (cx.ou 212) (cx.co _))) ?_
   refine (nopen_any 0 nt9 1 (CtxV.holdF cx (cx.init 4 _ rfl) rfl) (CtxV.ltF cx (cx.init 4 _ rfl) rfl) (by omega) (by decide) (by decide)).mono ?_
   rintro e W1 ⟨sb4,rfl,fp4,hs4⟩
   refine ⟨_,rfl,post_obj (E:=eDk D198_259 (bgD 0 nt9) r5_274) [eNi sb4 D198_259 [chkR nt9] (fun _=>false) 0 0 fp4] (cx.init 4 _ rfl) rfl rfl hs4 (fun σ β' X' hs hb hv hN=>?_)⟩
   have hv1:=(hv 213 rfl).1; have hv2:=(hv 213 rfl).2
   exact ⟨hv1.trans (by rw [hv2]; exact rfl),(by rw [hv2]; exact eNi_self ((List.cons.inj hN).1))⟩) fun S213_277 r5_277 W277 hst277=>?_
 refine sqp [.m 211 213, .k 214 (vp S213_277), .k 215 (vi 0), .m 28 214, .m 29 215] ?_
 refine then_normal (wp_seq (sqr (sqp [.k 30 (.pointer none)] ?_)))
 refine then_normal (wp_seq (sqr (sqp [.m 217 30] ?_)))
 refine sqlb 1 8 hst277 ?_
 refine sqk (.tuple #[vi 0,vi 1]) hst277 (fun cx=>⟨_,sdo_nil k x t _ _ _ nt _,(map2 (cx.ou 217) (cx.ou 218))⟩) fun W286 hst286=>?_
 refine sqp [.m 216 219, .k 220 (vi 0), .k 221 (vi 1), .m 31 220, .m 32 221] ?_
 refine then_normal (wp_seq (sqr (sqp [.m 223 30] ?_)))
 refine sqk (.tuple #[.agg #[vi 0,vi 0, .slice none 0 0], .bool false]) hst286 (fun cx=>⟨_,spage_nil 0 _,(map2 (cx.ou 223) (cx.co _))⟩) fun W293 hst293=>?_
 refine sqp [.m 222 224, .k 225 (.agg #[vi 0,vi 0, .slice none 0 0]), .k 226 (.bool false)] ?_
 refine sqal #[vi 0,vi 0, .slice none 0 0] hst293 fun B33_297 W297 hst297=>?_
 refine sqst (n:=3) 5 #[vi 0,vi 0, .slice none 0 0] hst297 fun W298 hst298=>?_
 refine sqp [.k 34 (.bool false)] ?_
 refine then_normal (wp_seq (sqr (sqp [.m 227 32, .k 228 (.bool true), .k 229 (.bool true)] ?_)))
 refine sqgy 229 [230,231] rfl rfl ?_
 refine sqp [.k 230 (.bool false), .k 231 (.bool true)] ?_
 refine sqp [.k 232 (.bool true), .k 233 (.bool true)] ?_
 refine sqgy 233 [234,235,236] rfl rfl ?_
 refine sqp [.m 234 30] ?_
 refine sqk (vi ((-1))) hst298 (fun cx=>⟨_,sfresh_nil _,(map1 (cx.ou 234))⟩) fun W308 hst308=>?_
 have hd310:((-1)==(-1))=true:=(by decide)
 refine sqp [.e 236 (.bool ((-1)==(-1))) (.bool true) (congrArg Value.bool hd310)] ?_
 refine sqp [.k 237 (.bool true), .k 238 (.bool true)] ?_
 refine sqgy 238 [239,240,241] rfl rfl ?_
 refine sqp [.m 239 30] ?_
 refine sqk (vi 0) hst308 (fun cx=>⟨_,slast_nil _,(map1 (cx.ou 239))⟩) fun W314 hst314=>?_
 refine sqp [.k 241 (.bool true)] ?_
 refine sqp [.k 242 (.bool true), .k 243 (.bool true)] ?_
 refine sqgy 243 [244,245,246] rfl rfl ?_
 refine sqp [.m 244 30] ?_
 refine sqk (vi 0) hst314 (fun cx=>⟨_,spages_nil _,(map1 (cx.ou 244))⟩) fun W319 hst319=>?_
 refine sqp [.k 246 (.bool true)] ?_
 refine sqp [.k 247 (.bool true), .k 248 (.bool true)] ?_
 refine sqgy 248 [249,250,251] rfl rfl ?_
 refine sqp [.m 249 30] ?_
 refine sqk (.string ((⟨#[]⟩:ByteArray))) hst319 (fun cx=>⟨_,snote_nil _,(map1 (cx.ou 249))⟩) fun W324 hst324=>?_
 have hd326:(((⟨#[]⟩:ByteArray)).toList==((⟨#[]⟩:ByteArray)).toList)=true:=(beq_self_eq_true _)
 refine sqp [.e 251 (.bool (((⟨#[]⟩:ByteArray)).toList==((⟨#[]⟩:ByteArray)).toList)) (.bool true) (congrArg Value.bool hd326)] ?_
 refine sqp [.k 252 (.bool true), .k 253 (.bool true)] ?_
 refine sqgy 253 [254,255,256] rfl rfl ?_
 refine sqp [.m 254 30] ?_
 refine sqk (vi 0) hst324 (fun cx=>⟨_,sflushed_nil _,(map1 (cx.ou 254))⟩) fun W330 hst330=>?_
 refine sqp [.k 256 (.bool true)] ?_
 refine sqp [.k 257 (.bool true), .k 258 (.bool true)] ?_
 refine sqgy 258 [259,260,261] rfl rfl ?_
 refine sqp [.m 259 30] ?_
 refine sqk (vi 1) hst330 (fun cx=>⟨_,sflush_nil 0 _,(map1 (cx.ou 259))⟩) fun W335 hst335=>?_
 refine sqp [.k 261 (.bool true)] ?_
 refine sqp [.k 262 (.bool true), .k 35 (.bool true)] ?_
 refine then_normal (wp_seq ?_)
 have hd340:(((noteF ([chkR nt9]))).toList==nt9.toList)=true:=(by rw [show noteF [chkR nt9]=nt9 from rfl]; exact beq_self_eq_true _)
 refine wp_region_Y [0,1,3,7,15,31,63,127,255,511,1023,2047,4095,8191,16383,32767,65535,131071,262143,524287,1048575,2097151,4194303,8388607,16777215,33554431,67108863,134217727,268435455,536870911,268435455,268435455,2415919103,6710886399,16374562815,34359738367,68719476735,137438953471,274877906943,549755813887,1099511627775,2199023255551,274877906943,8796093022207,17592186044415,35184372088831,70368744177663] [[],[],[],[],[],[],[],[],[],[],[],[],[],[],[],[],[],[],[],[],[],[],[],[],[],[],[],[],[],[4],[],[],[],[],[],[],[],[],[],[],[],[0],[],[2]] [[],[],[],[],[],[],[],[],[],[],[],[],[],[],[],[],[],[],[],[],[],[],[],[],[],[],[],[],[],[],[],[],[],[],[],[],[],[],[],[],[],[],[],[6]] [[],[],[],[],[],[],[],[],[],[],[],[],[],[],[],[],[],[],[],[],[],[],[],[],[],[],[],[],[],[],[],[],[],[],[],[],[],[],[],[],[],[],[],[2]] [.k 263 (.bool true), .k 264 (.bool true), .k 265 (.bool true), .k 266 (.bool true), .k 267 (.bool true), .k 268 (.bool true), .k 269 (.bool true), .k 270 (.bool true), .k 271 (vi 1), .k 272 (.bool true), .k 273 (.bool true), .k 274 (.bool true), .k 275 (vi 0), .k 276 (.bool true), .k 277 (.bool true), .k 278 (.bool true), .k 279 (vi 1), .k 280 (.bool true), .k 281 (.bool true), .k 282 (.bool true), .k 283 (vi 0), .k 284 (.bool true), .k 285 (.bool true), .k 286 (.bool true), .k 287 (vp S213_277), .c 288 (.bool true), .k 289 (.bool true), .k 290 (.bool true), .k 291 (vp S213_277), .c 292 (.string ((noteF ([chkR nt9])))), .k 293 (.string note), .k 294 (.string note), .k 295 (vi ((note.size:Int))), .c 296 (vi (min (note.size:Int) 90)), .c 297 (.string nt9), .e 298 (.bool (((noteF ([chkR nt9]))).toList==nt9.toList)) (.bool true) (congrArg Value.bool hd340), .k 299 (.bool true), .k 300 (.bool true), .k 301 (vp B38_6), .k 302 (vp B38_6), .k 303 (.pointer (some ⟨B38_6,1,none⟩)), .c 304 (vp sb), .k 305 (.string lg), .a 306, .c 307 (.bool true), .k 308 (.bool true), .k 6 (.bool true)] (fun ix σ β X=>match ix with | 0=>True | 1=>True | 2=>True | 3=>True | 4=>True | 5=>True | 6=>True | 7=>True | 8=>True | 9=>True | 10=>True | 11=>True | 12=>True | 13=>True | 14=>True | 15=>True | 16=>True | 17=>True | 18=>True | 19=>True | 20=>True | 21=>True | 22=>True | 23=>True | 24=>True | 25=>True | 26=>True | 27=>True | 28=>True | 29=>True | 30=>True | 31=>True | 32=>True | 33=>True | 34=>True | 35=>True | 36=>True | 37=>True | 38=>True | 39=>True | 40=>True | 41=>True | 42=>True | 43=>σ 306=vi 1∧X 6=eNi sb db L9 t9 5 (700+500) ((X 6).fp) | _=>True) [0,1,3,4,5,6] [25,29,33,34,41,43,44] [(6,46,1,7),(256,0,46,302)] hst335 ?_ ?_ ?_
 ·exact fun ix _ _ _ _ _ _ hs hb hx h=>match ix,h with
  | 43,h=>by dsimp only; rw [← hs 306 rfl,← hx 6 rfl]; exact h
  | 0, _ | 1, _ | 2, _ | 3, _ | 4, _ | 5, _ | 6, _ | 7, _ | 8, _ | 9, _ | 10, _ | 11, _ | 12, _ | 13, _ | 14, _ | 15, _ | 16, _ | 17, _ | 18, _ | 19, _ | 20, _ | 21, _ | 22, _ | 23, _ | 24, _ | 25, _ | 26, _ | 27, _ | 28, _ | 29, _ | 30, _ | 31, _ | 32, _ | 33, _ | 34, _ | 35, _ | 36, _ | 37, _ | 38, _ | 39, _ | 40, _ | 41, _ | 42, _ | _+44, _=>trivial
 ·refine ⟨?_,?_,?_,?_,?_,?_,?_,trivial⟩
  ·exact sv0_on rfl rfl rfl rfl rfl rfl (fun _ _ _ h=>h) (fun _ _ _ _ cx=>(cx.an 23)) fun ρ β W X cx=>by
    have fF287:ρ (.tmp 287)=vp S213_277:=(cx.an 24)
    simp [go_sem,cx.sees.const,fF287]
  ·exact sv_call_on rfl rfl rfl rfl rfl rfl (fun _ _ _ h=>h) (fun _ _ _ _ cx=>(cx.an 27)) fun ρ β W X cx=>⟨_, _,run_callF (args:=#[vp S213_277]) rfl cx.sees rfl (by kernel_rfl) (map1 (cx.an 28)),nnote_any (CtxV.holdF cx (cx.init 4 _ rfl) rfl) (show 0 < fromF [chkR nt9] from Nat.zero_lt_one)⟩
  ·exact xs5 rfl id (fun cx=>(cx.an 27)) fun cx=>run_min2 rfl (cx.an 32) (cx.co _) (rfl)
  ·exact xs5 rfl id (fun cx=>(cx.an 27)) fun cx=>by rw [← hnt9]; exact run_slice_hi (l:=(min (note.size:Int) 90).toNat) rfl (by kernel_rfl) (cx.an 30) (cx.an 33) (by omega) (by omega)
  ·exact xs5 rfl id (fun cx=>(cx.an 37)) fun cx=>run_load1 rfl (by kernel_rfl) (cx.an 40) ((cx.bi 0 rfl).cell 1)
  ·refine sv_any_on rfl rfl rfl (fun _ _ _ _ cx=>(cx.an 37)) fun ρ β W X cx=>?_
   refine DoesU.call (run_callF (args:=#[vp sb, .string lg]) rfl cx.sees rfl (by kernel_rfl) (map2 (cx.an 41) (cx.an 42))) ?_
   refine (ncheck1 (L:=L9) (CtxV.holdF cx (cx.init 2 _ rfl) rfl) (CtxV.ltF cx (cx.init 2 _ rfl) rfl) (by decide) (by rw [hlong]; decide) (by rw [hlong]; decide)).mono ?_
   rintro e W1 ⟨rfl,fp4,hs4⟩
   refine ⟨_,rfl,post_obj (E:=eNi sb db L9 t9 5 700 fp9) [eNi sb db L9 t9 5 (700+500) fp4] (cx.init 2 _ rfl) rfl rfl hs4 (fun σ β' X' hs hb hv hN=>?_)⟩
   have hv1:=(hv 306 rfl).1; have hv2:=(hv 306 rfl).2
   exact ⟨hv1.trans rfl,eNi_self ((List.cons.inj hN).1)⟩
  ·exact xs5 rfl id (fun cx=>(cx.an 37)) fun cx=>run_bin rfl (dTn (cx.an 43)).1 (cx.co _) rfl
 intro σ β X W339 hD hst339 fr hfr
 have xX6:X 6= _:=(dTn (hD 43 lq)).2
 obtain ⟨r6_339,hu_r6_339⟩:∃ z,(X 6).fp=z:=⟨_,rfl⟩
 rw [hu_r6_339] at xX6
 clear hu_r6_339
 simp only [xX6] at hst339
 simp only [ed 306 ((dTn (hD 43 lq)).1)] at hfr
 clear hD xX6; subst hfr; clear σ β X
 refine then_normal (wp_ret ?_)
 refine bpr (.bool true) (results_1 Tryz.results3 rpt) ?_
 exact Ret.of (by first | rfl | simp) hst339.ext
end
section
open Go.ChangeShapes Go.WideShapes Go.ChangeAt Go.RowKit Go.Deep Go.Joins
theorem ownKnob_none:ownKnob Tryz.prog.godebug=none:=by kernel_rfl
theorem laidOut:laidOutB Tryz.prog=true:=by kernel_rfl
section
variable {H:Type} {enc:TypeId×Value→H} {P:Program}
theorem trodAll_stays (hl:laidOutB P=true) {W W':World} {sp:Nat→Bool}:∀ {ts:List TypeId} {vs:List Value} {ds:List (DataW H)} {ps:List MemPlace},(∀ t∈ts,P.readableRec t=true∧t < P.types.size)→
  DataW.TrodAll enc P W 0 (fun _=>true) true ts vs ds ps→(∀ p∈ps,W.sameAt W' p)→(∀ p∈ps,sp p.block=true)→DataW.TrodAll enc P W' 0 sp true ts vs ds ps
 | [],[],[], _, _,h, _, _=>h
 | t:: _, _:: _, _:: _, _,hT,⟨p,q,h1,h2,e⟩,hsm,hs=>
   ⟨p,q,WideElems.Trod_stays hl (hT t (by simp)).1 (hT t (by simp)).2 h1 (fun x hx=>hsm x (by rw [e]; exact List.mem_append_left _ hx)) (fun x hx=>hs x (by rw [e]; exact List.mem_append_left _ hx)),
     trodAll_stays hl (fun t ht=>hT t (by simp [ht])) h2 (fun x hx=>hsm x (by rw [e]; exact List.mem_append_right _ hx)) (fun x hx=>hs x (by rw [e]; exact List.mem_append_right _ hx)),e⟩
/-- THE POST OF A LAW: true, and the input reads as it did, where the call wrote nothing that was there. -/
theorem law_post {f:Func} {s:ChangeSpec} {fresh handsOn again:Bool} {W W':World} {args:Array Value} {ds gs:List (DataW H)} {before:List MemPlace} {tb:TypeId}
  (hl:laidOutB P=true) (hT:∀ t∈f.params.toList,P.readableRec t=true∧t < P.types.size) (hr:f.resultTypes=#[tb]) (hb:P.underlying tb=some .bool)
  (hW:DataW.Whole enc P f.params.toList s.vars false W args.toList ds gs before) (hvs:s.vars=[])
  (hres:(s.fn H (ds++gs)).results=[.lit (.bool true)]) (hargs:(s.fn H (ds++gs)).args=ds) (hvars:(s.fn H (ds++gs)).vars=[]) (hx:Ext W W'):
  s.post enc P f false fresh handsOn again W args (.bool true) W':=by
 have hlt:∀ p∈before,p.block < W.heap.size:=fun p hp=>hW.lt p hp
 have hold:∀ p∈before,(fun b=>decide (b < W.heap.size)) p.block=true:=fun p hp=>by simpa using hlt p hp
 have hW0:=hW
 obtain ⟨p,q,hA,hV,rfl,hz,hn⟩:=hW
 rw [hvs] at hV
 obtain ⟨rfl,rfl⟩:=trodVars_none hV
 rw [List.append_nil] at hlt hold hz
 have HA:∀ sp:Nat→Bool,(∀ x∈p,sp x.block=true)→DataW.TrodAll enc P W' 0 sp true f.params.toList args.toList (s.fn H (ds++[])).args p:=fun sp hs=>by
  rw [hargs]
  exact trodAll_stays hl hT hA (fun x hx'=>hx.out.same (hlt x hx')) hs
 have HR:∀ (b:Nat) (sp:Nat→Bool) (hd:Bool),DataW.TrodAll enc P W' b sp hd f.resultTypes.toList ((Value.bool true).resultList f.resultTypes.size) (s.fn H (ds++[])).results []:=fun b sp hd=>by
  rw [hres,hr]
  exact trodAll_cons_mk (shut_bool hb _) trodAll_mk0
 have HV:∀ sp:Nat→Bool,DataW.TrodVars enc P W' sp s.vars (s.fn H (ds++[])).vars []:=fun sp=>by
  rw [hvs,hvars]
  rfl
 refine ⟨ds,[],p++[],[],p,[],hW0,HR _ _ _,HA _ hold,HV _,World.keptBut_mono (fun x hx'=>⟨hx',?_⟩) (hx.out.frame (·∈p++[])),fun _=>?_⟩
 ·rw [List.append_nil] at hx'
  exact Or.inr (Or.inl hx')
 ·refine ⟨?_, _, _,([]++p)++[],⟨[]++p,[],trodAll_append (HA _ (fun _ _=>rfl)) (HR _ _ _),HV _,rfl,?_,fun ha=>by cases ha⟩,?_⟩
  ·exact ok_one hr rfl (okWide_bool_mk hb _)
  ·intro b off hp
   have hin:MemPlace.cell b off∈p:=by simpa using hp
   rw [hx.out.frozen (hlt _ hin)]
   exact hz b off hin
  ·intro x hx' _
   simpa using hx'
end
end
end Go.Proofs.YtcdjaepgahbhfaaGreat

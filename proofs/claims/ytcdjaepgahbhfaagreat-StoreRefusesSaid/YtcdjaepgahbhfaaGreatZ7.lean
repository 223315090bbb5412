/- StoreRefusesRow: part 7 of the proof. -/
import Derived.Test.YtcdjaepgahbhfaaGreatZ6
import Derived.SizedLaws
import Derived.OpenShut
import Derived.WalkKit
set_option linter.unusedVariables false
set_option linter.unusedSimpArgs false
set_option maxRecDepth 100000
set_option maxHeartbeats 16000000
namespace Go.Proofs.YtcdjaepgahbhfaaGreat
section
open Go.ChangeShapes Go.WideShapes Go.ChangeAt Go.RowKit Go.Deep Go.Joins
/-- the shape of a type; 'sl e by': a slice, an element takes 'by' bytes; 'st': a struct or an array -/
inductive Sh where
 | int (k:IntKind)
 | bool
 | str
 | sl (e:Sh) (bs:Nat)
 | st (fs:List Sh)
mutual
def Sh.n:Sh→Nat
 | .st fs=>Sh.ns fs
 | .int _=>1
 | .bool=>1
 | .str=>1
 | .sl _ _=>1
def Sh.ns:List Sh→Nat
 | []=>0
 | f::fs=>f.n+Sh.ns fs
end
mutual
def Shows (w:World):Sh→List Value→Prop
 | .int k,cs=>∃ z,cs=[.int k z]∧(Lit.int k z).wf=true
 | .bool,cs=>∃ b,cs=[.bool b]
 | .str,cs=>∃ s:ByteArray,cs=[.string s]∧s.size≤140737488351232
 | .sl e bs,cs=>∃ (A:Option Addr) (n c:Nat) (xs:List Value),cs=[.slice A n c]∧At w A xs∧xs.length=n*e.n∧n≤c∧c*bs≤140737488351232∧∀ i,i < n→Shows w e ((xs.drop (i*e.n)).take e.n)
 | .st fs,cs=>ShowsL w fs cs
def ShowsL (w:World):List Sh→List Value→Prop
 | [],cs=>cs=[]
 | f::fs,cs=>∃ a b,cs=a++b∧Shows w f a∧ShowsL w fs b
end
mutual
def Sh.fits (P:Program):Sh→TypeId→Bool
 | .int k,t=>match P.underlying t with | some (.int k')=>decide (k'=k) | _=>false
 | .bool,t=>match P.underlying t with | some .bool=>true | _=>false
 | .str,t=>match P.underlying t with | some .string=>true | _=>false
 | .sl e bs,t=>match P.underlying t with | some (.slice u)=>e.fits P u&&decide (P.cellsOf u=e.n)&&decide (P.bytesOf u=bs)&&decide (0 < e.n) | _=>false
 | .st fs,t=>match P.underlying t with
   | some (.struct gs)=>decide (P.cellsOf t=Sh.ns fs)&&Sh.fitsF P fs gs.toList 0
   | some (.array n u)=>decide (P.cellsOf t=Sh.ns fs)&&decide (fs.length=n)&&Sh.fitsA P fs u
   | _=>false
def Sh.fitsF (P:Program):List Sh→List Field→Nat→Bool
 | [],[], _=>true
 | f::fs,g::gs,off=>decide (g.offset=off)&&decide (P.cellsOf g.type=f.n)&&f.fits P g.type&&Sh.fitsF P fs gs (off+f.n)
 | _, _, _=>false
def Sh.fitsA (P:Program):List Sh→TypeId→Bool
 | [], _=>true
 | f::fs,u=>decide (P.cellsOf u=f.n)&&f.fits P u&&Sh.fitsA P fs u
end
theorem mapM_at {α β:Type} {f:α→Option β}:∀ {l:List α} {ys:List β},l.mapM f=some ys→ys.length=l.length∧∀ (i:Nat) (a:α),l[i]? =some a→f a=ys[i]?
 | [],ys,h=>by simp at h; subst h; simp
 | a::l,ys,h=>by
   simp only [List.mapM_cons,Option.bind_eq_bind,Option.pure_def,Option.bind_eq_some_iff] at h
   obtain ⟨b,hb,bs,hbs,he⟩:=h
   obtain rfl:b::bs=ys:=by simpa using he
   obtain ⟨h1,h2⟩:=mapM_at hbs
   refine ⟨by simp [h1],fun i x hx=>?_⟩
   cases i with
   | zero=>simp at hx; subst hx; simpa using hb
   | succ i=>simpa using h2 i x (by simpa using hx)
section
variable {H:Type} {enc:TypeId×Value→H} {P:Program}
theorem weightsAll_at {e:TypeId}:∀ {ds:List (DataW H)} (i:Nat) (d:DataW H),ds[i]? =some d→∀ x∈d.weights P e,x∈DataW.weightsAll P e ds
 | [],i,d,h,x,hx=>by simp at h
 | d0::ds,0,d,h,x,hx=>by
   simp at h; subst h
   simp only [DataW.weightsAll,List.mem_append]; exact .inl hx
 | d0::ds,i+1,d,h,x,hx=>by
   simp only [DataW.weightsAll,List.mem_append]
   exact .inr (weightsAll_at i d (by simpa using h) x hx)
/-- the cells of a slice's elements -/
theorem cells_row {w:World} {a:Addr} {m len:Nat} (hm:0 < m) (h:∀ i,i < len→∃ csi,w.cells? 0 (a.add (i*m)) m=some csi):
  ∃ xs:List Value,xs.length=len*m∧At w (some a) xs∧∀ i,i < len→∀ csi,w.cells? 0 (a.add (i*m)) m=some csi→(xs.drop (i*m)).take m=csi:=by
 have key:∀ i,i < len→∀ csi,w.cells? 0 (a.add (i*m)) m=some csi→csi.length=m∧∀ r,r < m→w.cell? (a.add (i*m+r))=csi[r]? :=by
  intro i hi csi hc
  unfold World.cells? at hc
  rw [if_pos (Nat.zero_le _)] at hc
  obtain ⟨h1,h2⟩:=mapM_at hc
  refine ⟨by simpa using h1,fun r hr=>?_⟩
  have:=h2 r r (by simp [hr])
  rw [add_add'] at this
  exact this
 have each:∀ j,j < len*m→∃ u,w.cell? (a.add j)=some u:=by
  intro j hj
  have hi:j / m < len:=by rw [Nat.div_lt_iff_lt_mul hm]; exact hj
  obtain ⟨csi,hc⟩:=h _ hi
  obtain ⟨h1,h2⟩:=key _ hi _ hc
  have hr:=Nat.mod_lt j hm
  have:=h2 _ hr
  rw [show j / m*m+j % m=j by rw [Nat.mul_comm]; exact Nat.div_add_mod j m] at this
  rw [List.getElem?_eq_getElem (by omega)] at this
  exact ⟨_,this⟩
 refine ⟨(List.range (len*m)).map fun j=>(w.cell? (a.add j)).getD undef,by simp,fun j u hu=>?_,fun i hi csi hc=>?_⟩
 ·rw [List.getElem?_map] at hu
  rcases Nat.lt_or_ge j (len*m) with hj | hj
  ·obtain ⟨v,hv⟩:=each j hj
   rw [List.getElem?_range hj] at hu
   simp only [Option.map_some,hv,Option.getD_some,Option.some.injEq] at hu
   subst hu
   have:=World.block_lt_of_cell? _ _ hv
   rw [add_block] at this
   exact ⟨a,rfl,this,hv⟩
  ·rw [List.getElem?_eq_none (by simpa using hj)] at hu; cases hu
 ·obtain ⟨h1,h2⟩:=key i hi csi hc
  have hb:i*m+m≤len*m:=by
   have:(i+1)*m≤len*m:=Nat.mul_le_mul_right m hi
   rw [Nat.add_mul,Nat.one_mul] at this
   exact this
  apply List.ext_getElem?
  intro r
  rw [List.getElem?_take]
  by_cases hr:r < m
  ·rw [if_pos hr,List.getElem?_drop,List.getElem?_map,List.getElem?_range (by omega),Option.map_some,h2 r hr,List.getElem?_eq_getElem (by omega)]
   rfl
  ·rw [if_neg hr,List.getElem?_eq_none (by omega)]
mutual
theorem sees_of {w:World}:∀ (s:Sh) (t:TypeId) (fuel:Nat) (cs:List Value) (x:DataW H×List MemPlace),s.fits P t=true→DataW.trod enc P w 0 (fun _=>true) true fuel t cs=some x→
  (∀ n∈x.1.weights P t,n≤reachBytes)→Shows w s cs
 | .int k,t,fuel,cs,x,hf,h,hw=>by
   simp only [Sh.fits] at hf
   split at hf
   ·rename_i k' hu
    obtain rfl:=of_decide_eq_true hf
    obtain ⟨z,hc, _,hz⟩:=DataW.trod_int hu h
    exact ⟨z,hc,hz⟩
   ·cases hf
 | .bool,t,fuel,cs,x,hf,h,hw=>by
   simp only [Sh.fits] at hf
   split at hf
   ·rename_i hu
    obtain ⟨b,hc, _⟩:=DataW.trod_bool hu h
    exact ⟨b,hc⟩
   ·cases hf
 | .str,t,fuel,cs,x,hf,h,hw=>by
   simp only [Sh.fits] at hf
   split at hf
   ·rename_i hu
    obtain ⟨s,hc,rfl, _⟩:=DataW.trod_string hu h
    refine ⟨s,hc,?_⟩
    have:=hw s.data.toList.length (by simp [DataW.weights])
    exact this
   ·cases hf
 | .sl e bs,t,fuel,cs,x,hf,h,hw=>by
   simp only [Sh.fits] at hf
   split at hf
   ·rename_i u hu
    simp only [Bool.and_eq_true,decide_eq_true_eq] at hf
    obtain ⟨⟨⟨he,hm⟩,hb⟩,hp⟩:=hf
    rcases DataW.trod_slice hu h with ⟨rfl,rfl⟩ | ⟨a,len,cap,elems,rest,n, _,rfl,rfl, _,hl, _,hlen,hel,hsp, _⟩
    ·exact ⟨none,0,0,[],rfl,At.nil _ _,by simp,by simp,by simp,fun i hi=>by omega⟩
    ·obtain ⟨hrl, _⟩:=hsp rfl
     rw [hm] at hel
     have hsz:=hw ((elems.length+rest.length)*P.bytesOf u) (by simp [DataW.weights,hu])
     rw [hlen,hrl,hb] at hsz
     have hR:reachBytes=140737488351232:=rfl
     rw [hR] at hsz
     have hex:∀ i,i < len→∃ csi y,w.cells? 0 (a.add (i*e.n)) e.n=some csi∧elems[i]? =some y∧DataW.trod enc P w 0 (fun _=>true) true n u csi=some y:=by
      intro i hi
      have h1:=hel i hi
      rw [List.getElem?_eq_getElem (by omega),Option.bind_eq_some_iff] at h1
      obtain ⟨csi,hc,hy⟩:=h1
      exact ⟨csi, _,hc,List.getElem?_eq_getElem (by omega),hy⟩
     obtain ⟨xs,hxl,hxa,hxe⟩:=cells_row (w:=w) (a:=a) (len:=len) hp (fun i hi=>let ⟨csi, _,hc, _⟩:=hex i hi; ⟨csi,hc⟩)
     refine ⟨some a,len,cap,xs,rfl,hxa,hxl,hl,?_,fun i hi=>?_⟩
     ·rw [show len+(cap - len)=cap by omega] at hsz
      exact hsz
     ·obtain ⟨csi,y,hc,hy,ht⟩:=hex i hi
      rw [hxe i hi csi hc]
      refine sees_of e u n csi y he ht fun z hz=>hw z ?_
      simp only [DataW.weights,hu,List.mem_cons,List.mem_append]
      refine .inr (.inl ?_)
      exact weightsAll_at i y.1 (by rw [List.getElem?_map,hy]; rfl) z hz
   ·cases hf
 | .st fs,t,fuel,cs,x,hf,h,hw=>by
   simp only [Sh.fits] at hf
   split at hf
   ·rename_i gs hu
    simp only [Bool.and_eq_true,decide_eq_true_eq] at hf
    obtain ⟨hc,hF⟩:=hf
    obtain ⟨xs,n, _,rfl,hcl,hxl,hat⟩:=DataW.trod_struct hu h
    have:=seesF_of fs gs.toList 0 cs xs n hF (fun i g hg=>hat i g (by rw [← hg]; exact (Array.getElem?_toList ..).symm)) (by simpa using hxl) (by omega) (fun z hz=>hw z (by simp only [DataW.weights,hu]; exact hz))
    rw [List.drop_zero,List.take_of_length_le (by omega)] at this
    exact this
   ·rename_i n u hu
    simp only [Bool.and_eq_true,decide_eq_true_eq] at hf
    obtain ⟨⟨hc,hn⟩,hF⟩:=hf
    obtain ⟨xs,m, _,rfl,hcl,hxl,hat⟩:=DataW.trod_array hu h
    have:=seesA_of fs u 0 cs xs m hF (fun i hi=>by rw [Nat.zero_add]; exact hat i (by omega)) (by omega) (by rw [Nat.zero_mul,Nat.zero_add]; omega) (fun z hz=>hw z (by simp only [DataW.weights,hu]; exact hz))
    rw [Nat.zero_mul,List.drop_zero,List.take_of_length_le (by omega)] at this
    exact this
   ·cases hf
theorem seesF_of {w:World}:∀ (fs:List Sh) (gs:List Field) (off:Nat) (cs:List Value) (xs:List (DataW H×List MemPlace)) (m:Nat),Sh.fitsF P fs gs off=true→
  (∀ (i:Nat) (g:Field),gs[i]? =some g→DataW.trod enc P w 0 (fun _=>true) true m g.type ((cs.drop g.offset).take (P.cellsOf g.type))=xs[i]?)→xs.length=gs.length→off+Sh.ns fs≤cs.length→
  (∀ n∈DataW.weightsEach P (gs.map (·.type)) (xs.map (·.1)),n≤reachBytes)→ShowsL w fs ((cs.drop off).take (Sh.ns fs))
 | [],[],off,cs,xs,m,hf,h,hx,hl,hw=>by simp [ShowsL,Sh.ns]
 | f::fs,g::gs,off,cs,xs,m,hf,h,hx,hl,hw=>by
   simp only [Sh.fitsF,Bool.and_eq_true,decide_eq_true_eq] at hf
   obtain ⟨⟨⟨ho,hc⟩,hff⟩,hF⟩:=hf
   simp only [Sh.ns] at hl
   match xs,hx with
   | y::ys,hx=>
     have h0:=h 0 g rfl
     simp only [List.getElem?_cons_zero] at h0
     rw [ho,hc] at h0
     refine ⟨(cs.drop off).take f.n,(cs.drop (off+f.n)).take (Sh.ns fs),?_,sees_of f g.type m _ y hff h0 (fun z hz=>hw z ?_),seesF_of fs gs (off+f.n) cs ys m hF (fun i g' hg=>?_) (by simpa using hx) (by omega) (fun z hz=>hw z ?_)⟩
     ·rw [Sh.ns,← List.drop_drop,List.take_add]
     ·simp only [List.map_cons,DataW.weightsEach,List.mem_append]; exact .inl hz
     ·simpa using h (i+1) g' (by simpa using hg)
     ·simp only [List.map_cons,DataW.weightsEach,List.mem_append]; exact .inr hz
 | [], _:: _,off,cs,xs,m,hf,h,hx,hl,hw=>by simp [Sh.fitsF] at hf
 | _:: _,[],off,cs,xs,m,hf,h,hx,hl,hw=>by simp [Sh.fitsF] at hf
theorem seesA_of {w:World}:∀ (fs:List Sh) (u:TypeId) (k:Nat) (cs:List Value) (xs:List (DataW H×List MemPlace)) (m:Nat),Sh.fitsA P fs u=true→
  (∀ i,i < fs.length→DataW.trod enc P w 0 (fun _=>true) true m u ((cs.drop ((k+i)*P.cellsOf u)).take (P.cellsOf u))=xs[i]?)→xs.length=fs.length→k*P.cellsOf u+Sh.ns fs≤cs.length→
  (∀ n∈DataW.weightsAll P u (xs.map (·.1)),n≤reachBytes)→ShowsL w fs ((cs.drop (k*P.cellsOf u)).take (Sh.ns fs))
 | [],u,k,cs,xs,m,hf,h,hx,hl,hw=>by simp [ShowsL,Sh.ns]
 | f::fs,u,k,cs,xs,m,hf,h,hx,hl,hw=>by
   simp only [Sh.fitsA,Bool.and_eq_true,decide_eq_true_eq] at hf
   obtain ⟨⟨hc,hff⟩,hF⟩:=hf
   simp only [Sh.ns] at hl
   match xs,hx with
   | y::ys,hx=>
     have h0:=h 0 (by simp)
     simp only [List.getElem?_cons_zero,Nat.add_zero] at h0
     have hk:(k+1)*P.cellsOf u=k*P.cellsOf u+f.n:=by rw [Nat.add_mul,Nat.one_mul,hc]
     refine ⟨(cs.drop (k*P.cellsOf u)).take f.n,(cs.drop ((k+1)*P.cellsOf u)).take (Sh.ns fs),?_,sees_of f u m _ y hff (by rw [← hc]; exact h0) (fun z hz=>hw z ?_),seesA_of fs u (k+1) cs ys m hF (fun i hi=>?_) (by simpa using hx) (by rw [hk]; omega) (fun z hz=>hw z ?_)⟩
     ·rw [Sh.ns,hk,← List.drop_drop,List.take_add]
     ·simp only [List.map_cons,DataW.weightsAll,List.mem_append]; exact .inl hz
     ·rw [show k+1+i=k+(i+1) by omega]
      simpa using h (i+1) (by simp; omega)
     ·simp only [List.map_cons,DataW.weightsAll,List.mem_append]; exact .inr hz
end
end
/-- an argument opened -/
theorem sees_arg {H:Type} {enc:TypeId×Value→H} {P:Program} {w:World} {ts:List TypeId} {ds:List (DataW H)} (hsz:(DataW.weightsEach P ts ds).all (·≤reachBytes)=true) (j:Nat) {t:TypeId} {v:Value} {d:DataW H} {p:List MemPlace} (s:Sh)
  (hf:s.fits P t=true) (ht:ts[j]? =some t) (hd:ds[j]? =some d) (h:DataW.Trod enc P w 0 (fun _=>true) true t v d p):Shows w s v.cells.toList:=by
 obtain ⟨fuel,h⟩:=h
 exact sees_of s t fuel _ (d,p) hf h fun n hn=>of_decide_eq_true (List.all_eq_true.1 hsz n (DataW.weights_mem_each ht hd n hn))
/-- the elements of a slice as a list -/
theorem chunks {T:Type} (f:T→List Value) (p:T→Prop) (m:Nat):∀ (n:Nat) (xs:List Value),xs.length=n*m→(∀ i,i < n→∃ t,(xs.drop (i*m)).take m=f t∧p t)→
  ∃ ts:List T,ts.length=n∧xs=ts.flatMap f∧∀ t∈ts,p t
 | 0,xs,hl,h=>⟨[],rfl,by simpa using hl,by simp⟩
 | n+1,xs,hl,h=>by
   obtain ⟨t,ht,hp⟩:=h 0 (by omega)
   rw [Nat.zero_mul,List.drop_zero] at ht
   have hle:(n+1)*m=m+n*m:=by rw [Nat.add_mul,Nat.one_mul,Nat.add_comm]
   obtain ⟨ts,h1,h2,h3⟩:=chunks f p m n (xs.drop m) (by rw [List.length_drop]; omega) (fun i hi=>by
    obtain ⟨t',ht',hp'⟩:=h (i+1) (by omega)
    refine ⟨t',?_,hp'⟩
    rw [List.drop_drop,show m+i*m=(i+1)*m by rw [Nat.add_mul,Nat.one_mul,Nat.add_comm]]
    exact ht')
   refine ⟨t::ts,by simp [h1],?_,by simpa using ⟨hp,h3⟩⟩
   rw [List.flatMap_cons,← h2,← ht,List.take_append_drop]
theorem flatMap_one {T:Type} (f:T→Value):∀ ts:List T,(ts.flatMap fun t=>[f t])=ts.map f
 | []=>rfl
 | t::ts=>by simp [flatMap_one f ts]
/-- a slice of ints -/
theorem sees_ints {w:World} {k:IntKind} {bs:Nat} {cs:List Value} (h:Shows w (.sl (.int k) bs) cs):
  ∃ (A:Option Addr) (c:Nat) (zs:List Int),cs=[.slice A zs.length c]∧At w A (zs.map (Value.int k))∧zs.length≤c∧c*bs≤140737488351232∧∀ z∈zs,(Lit.int k z).wf=true:=by
 simp only [Shows,Sh.n,Nat.mul_one] at h
 obtain ⟨A,n,c,xs,rfl,hA,hl,hc,hb,he⟩:=h
 obtain ⟨zs,h1,h2,h3⟩:=chunks (fun z=>[Value.int k z]) (fun z=>(Lit.int k z).wf=true) 1 n xs (by omega) (fun i hi=>by rw [Nat.mul_one]; exact he i hi)
 rw [flatMap_one] at h2
 subst h1 h2
 exact ⟨A,c,zs,rfl,hA,hc,hb,h3⟩
/-- what an argument is -/
def ShowsV (w:World) (s:Sh) (v:Value):Prop:=match s with
 | .st fs=>∃ cs:List Value,v= .agg ⟨cs⟩∧ShowsL w fs cs
 | s=>Shows w s [v]
theorem sees_val {P:Program} {W w:World} {r:Reach} {b0:Nat} {t:TypeId} {v:Value} (s:Sh) (hf:s.fits P t=true) (hv:Value.okWide P W r b0 t v) (h:Shows w s v.cells.toList):ShowsV w s v:=by
 cases s with
 | int k=>
   simp only [Sh.fits] at hf
   split at hf
   ·rename_i k' hu
    obtain ⟨n,rfl⟩:=okWide_int hu hv
    exact h
   ·cases hf
 | bool=>
   simp only [Sh.fits] at hf
   split at hf
   ·rename_i hu
    obtain ⟨n,rfl⟩:=okWide_bool hu hv
    exact h
   ·cases hf
 | str=>
   simp only [Sh.fits] at hf
   split at hf
   ·rename_i hu
    obtain ⟨n,rfl⟩:=okWide_string hu hv
    exact h
   ·cases hf
 | sl e bs=>
   simp only [Sh.fits] at hf
   split at hf
   ·rename_i u hu
    obtain ⟨a,l,c,rfl⟩:=okWide_slice hu hv
    exact h
   ·cases hf
 | st fs=>
   simp only [Sh.fits] at hf
   split at hf
   ·rename_i gs hu
    obtain ⟨cs,rfl, _⟩:=okWide_struct hu hv
    exact ⟨cs.toList,rfl,h⟩
   ·rename_i n u hu
    simp only [Value.okWide,hu] at hv
    obtain ⟨cs,rfl, _⟩:=hv
    exact ⟨cs.toList,rfl,h⟩
   ·cases hf
end
end Go.Proofs.YtcdjaepgahbhfaaGreat
namespace Go.Proofs.YtcdjaepgahbhfaaGreat.storeRefuses
section
open Go.ChangeShapes Go.WideShapes Go.ChangeAt Go.RowKit Go.Deep Go.Joins
theorem lifted (os:Os) (started:os.Started) (H:Type) (enc:TypeId×Value→H):
  ReturnsInHanded {} Tryz.checked os 3 .any (Rows.storeRefusesSpec.pre6 enc Tryz.prog Tryz.f3 Rows.storeRefusesRow.domain false) (Rows.storeRefusesSpec.post enc Tryz.prog Tryz.f3 false true false false):=by
 refine returnsInHanded_of_change_sized (C:=Tryz.checked) ownKnob_none started (by kernel_rfl) Tryz.func3
  (ChangeSpec.witness6 (enc:=enc) (C:=Tryz.checked) false ⟨#[],#[.agg #[.int .i64 0, .int .i64 0, .int .i64 0, .slice none 0 0, .slice none 0 0, .slice none 0 0, .slice none 0 0, .string ⟨#[]⟩], .int .i64 0, .string ⟨#[]⟩],[]⟩ 8 (by kernel_rfl) (by kernel_rfl) (by kernel_rfl) (by kernel_rfl)) ?_
 intro W base args ds gs before hval0 hW hcnd hsz0 _
 have hval:∀ (j:Nat) t v,Tryz.f3.params[j]? =some t→args[j]? =some v→Value.okWide Tryz.prog W .any base t v:=hval0
 have hsz:(DataW.weightsEach Tryz.prog (Tryz.f3.params.toList++Rows.storeRefusesSpec.plain.varTypes Tryz.prog) (ds++gs)).all (·≤reachBytes)=true:=hsz0
 clear hsz0 hval0
 have hW':=hW
 obtain ⟨p,q,hA0,hV,rfl,hfz,hnd⟩:=hW
 have hA:DataW.TrodAll enc Tryz.prog W 0 (fun _=>true) true Tryz.f3.params.toList args.toList ds p:=hA0
 clear hA0
 rw [Tryz.params3] at hA hval hsz
 obtain ⟨v0,vs0,d0,ds0,p0,q0,hargs,rfl,rfl,h0,r0⟩:=trodAll_cons hA
 obtain ⟨v1,vs1,d1,ds1,p1,q1,rfl,rfl,rfl,h1,r1⟩:=trodAll_cons r0
 obtain ⟨v2,vs2,d2,ds2,p2,q2,rfl,rfl,rfl,h2,r2⟩:=trodAll_cons r1
 obtain ⟨rfl,rfl,rfl⟩:=trodAll_nil r2
 obtain rfl:args=#[v0,v1,v2]:=by cases args; simp_all
 obtain ⟨rfl,rfl⟩:=trodVars_none hV
 have s0:=sees_val (.st [.int .i64, .int .i64, .int .i64, .sl (.st [.int .i64, .int .i64, .str]) 32, .sl (.st [.int .i64, .int .i64, .str]) 32, .sl (.st [.int .i64, .int .i64, .str]) 32, .sl (.int .i64) 8, .str]) (by kernel_rfl) (hval 0 _ _ rfl rfl) (sees_arg hsz 0 (.st [.int .i64, .int .i64, .int .i64, .sl (.st [.int .i64, .int .i64, .str]) 32, .sl (.st [.int .i64, .int .i64, .str]) 32, .sl (.st [.int .i64, .int .i64, .str]) 32, .sl (.int .i64) 8, .str]) (by kernel_rfl) rfl rfl h0)
 have s1:=sees_val (.int .i64) (by kernel_rfl) (hval 1 _ _ rfl rfl) (sees_arg hsz 1 (.int .i64) (by kernel_rfl) rfl rfl h1)
 have s2:=sees_val (.str) (by kernel_rfl) (hval 2 _ _ rfl rfl) (sees_arg hsz 2 (.str) (by kernel_rfl) rfl rfl h2)
 clear hsz
 obtain ⟨cs_,hE,s0⟩:=s0
 cases hE
 obtain ⟨a_,b_,hE,s0_0,s0r⟩:=s0
 cases hE
 obtain ⟨a_,b_,hE,s0_1,s0r⟩:=s0r
 cases hE
 obtain ⟨a_,b_,hE,s0_2,s0r⟩:=s0r
 cases hE
 obtain ⟨a_,b_,hE,s0_3,s0r⟩:=s0r
 cases hE
 obtain ⟨a_,b_,hE,s0_4,s0r⟩:=s0r
 cases hE
 obtain ⟨a_,b_,hE,s0_5,s0r⟩:=s0r
 cases hE
 obtain ⟨a_,b_,hE,s0_6,s0r⟩:=s0r
 cases hE
 obtain ⟨a_,b_,hE,s0_7,s0r⟩:=s0r
 cases hE
 cases s0r
 obtain ⟨k,hE,wk⟩:=s0_0
 cases hE
 obtain ⟨x,hE,wx⟩:=s0_1
 cases hE
 obtain ⟨t,hE,wt⟩:=s0_2
 cases hE
 obtain ⟨OA,n_,oc,xs_,hE,atOA,e_,lOA,bOA,p_⟩:=s0_3
 cases hE
 obtain ⟨os,e1_,e2_,wOA⟩:=chunks (T:=EdT) edC (fun t=>t.2.2.size≤9223372036854775807) 3 n_ xs_ e_ (fun i_ hi_=>by
  have g_:=p_ i_ hi_
  obtain ⟨a0_,b0_,e0_,s0_,g_⟩:=g_
  obtain ⟨a1_,b1_,e1_,s1_,g_⟩:=g_
  obtain ⟨a2_,b2_,e2_,s2_,g0_⟩:=g_
  obtain ⟨k1,f0_,wk1⟩:=s0_
  obtain ⟨n1,f1_,wn1⟩:=s1_
  obtain ⟨s1,f2_,zs1⟩:=s2_
  have g_: _= _:=e0_
  rw [f0_,e1_,f1_,e2_,f2_,show b2_=[] from g0_] at g_
  exact ⟨(k1,n1,s1),g_,(by show s1.size≤ _; omega)⟩)
 subst e1_ e2_
 obtain ⟨NA,n_,nc,xs_,hE,atNA,e_,lNA,bNA,p_⟩:=s0_4
 cases hE
 obtain ⟨ns,e1_,e2_,wNA⟩:=chunks (T:=EdT) edC (fun t=>t.2.2.size≤9223372036854775807) 3 n_ xs_ e_ (fun i_ hi_=>by
  have g_:=p_ i_ hi_
  obtain ⟨a0_,b0_,e0_,s0_,g_⟩:=g_
  obtain ⟨a1_,b1_,e1_,s1_,g_⟩:=g_
  obtain ⟨a2_,b2_,e2_,s2_,g0_⟩:=g_
  obtain ⟨k2,f0_,wk2⟩:=s0_
  obtain ⟨n2,f1_,wn2⟩:=s1_
  obtain ⟨s2,f2_,zs2⟩:=s2_
  have g_: _= _:=e0_
  rw [f0_,e1_,f1_,e2_,f2_,show b2_=[] from g0_] at g_
  exact ⟨(k2,n2,s2),g_,(by show s2.size≤ _; omega)⟩)
 subst e1_ e2_
 obtain ⟨A,n_,c,xs_,hE,atA,e_,lA,bA,p_⟩:=s0_5
 cases hE
 obtain ⟨l0,e1_,e2_,wA⟩:=chunks (T:=EdT) edC (fun t=>t.2.2.size≤9223372036854775807) 3 n_ xs_ e_ (fun i_ hi_=>by
  have g_:=p_ i_ hi_
  obtain ⟨a0_,b0_,e0_,s0_,g_⟩:=g_
  obtain ⟨a1_,b1_,e1_,s1_,g_⟩:=g_
  obtain ⟨a2_,b2_,e2_,s2_,g0_⟩:=g_
  obtain ⟨ep,f0_,wep⟩:=s0_
  obtain ⟨es,f1_,wes⟩:=s1_
  obtain ⟨eb,f2_,zeb⟩:=s2_
  have g_: _= _:=e0_
  rw [f0_,e1_,f1_,e2_,f2_,show b2_=[] from g0_] at g_
  exact ⟨(ep,es,eb),g_,(by show eb.size≤ _; omega)⟩)
 subst e1_ e2_
 obtain ⟨XA,xc,xs,hE,atXA,lXA,bXA,wXA⟩:=sees_ints s0_6
 cases hE
 obtain ⟨note0,hE,znote0⟩:=s0_7
 cases hE
 obtain ⟨bufs,hE,wbufs⟩:=s1
 cases hE
 obtain ⟨note,hE,znote⟩:=s2
 cases hE
 refine (storerefuses_any k x t OA NA XA A os.length oc ns.length nc xs.length xc c l0 note0 bufs note W atA (by omega) (by omega) wA (by omega) (by omega) (kc_ok wbufs)).mono fun e W' ⟨he,hx⟩=>?_
 subst he
 exact ⟨_,rfl,law_post laidOut (by rw [Tryz.params3]; exact (by decide+kernel)) rfl Tryz.underlying4 hW' rfl rfl rfl rfl hx⟩
theorem over:Rows.storeRefusesRow.holds Tryz.pinned (OpenSpec.ofChange Rows.storeRefusesSpec):=
 OpenClaim.holds_of_wide 3 Tryz.f3 rfl rfl rfl rfl rfl rfl rfl ⟨rfl,rfl,rfl,rfl,rfl⟩ rfl rfl rfl rfl rfl (by kernel_rfl) Tryz.func3 (by kernel_rfl)
  (of_decide_eq_true (by kernel_rfl)) (by unfold Func.isWrapper; first | (rw [if_pos (by decide+kernel)]; kernel_rfl) | (rw [if_neg (by decide+kernel)]; exact ⟨rfl,rfl⟩))
  (fun os started H enc _=>lifted os started H enc)
theorem proved:Rows.StoreRefusesSaid:=
 over
end
end Go.Proofs.YtcdjaepgahbhfaaGreat.storeRefuses

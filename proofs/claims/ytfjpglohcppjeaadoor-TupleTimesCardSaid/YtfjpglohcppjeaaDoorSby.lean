/- strings.Builder over the one entry, its bytes a list: WriteByte, WriteString, String; what the region's rule asks behind them. -/
import Derived.Test.YtfjpglohcppjeaaDoorVs
import Derived.Test.YtfjpglohcppjeaaDoorVu
import Derived.Test.YtfjpglohcppjeaaDoorVw
import Derived.Lib.UnsafeStr
namespace Go.Proofs.YtfjpglohcppjeaaDoor
open Go.RowKit
set_option linter.unusedVariables false
set_option linter.unusedSimpArgs false

/-- the builder in block b, its bytes xs in a row of its own (block r, none while there is no row) -/
def SbAt (W : World) (b : Nat) (r : Option Nat) (xs : List Value) : Prop :=
  ∃ p v, Blk W b 143 #[p, v] ∧ (p = .pointer none ∨ p = .pointer (some ⟨b, 0, none⟩)) ∧ W.ownsRow 0 5 1 v xs.length xs ∧ v.ownBlock = r
def eSb (b : Nat) (r : Option Nat) (xs : List Value) : Ent := ⟨b :: r.toList, fun W => SbAt W b r xs⟩
def rO (e : Ent) : Option Nat := e.fp[1]?
theorem rO_eSb (b : Nat) (r : Option Nat) (xs : List Value) : rO (eSb b r xs) = r := by
  cases r <;> rfl
theorem eSb_loc (b : Nat) (r : Option Nat) (xs : List Value) : (eSb b r xs).loc := fun W W' hk h => by
  obtain ⟨p, v, h1, h2, h3, h4⟩ := h
  refine ⟨p, v, (hk b (by simp [eSb])).trans h1, h2, ?_, h4⟩
  have := eO_loc 5 1 v xs.length xs W W' (fun k hk' => hk k (by
    have h5 : v.ownBlock = some k := by simpa [eO] using hk'
    rw [h4] at h5
    simp [eSb, h5])) h3
  exact this
/-- a new builder -/
theorem SbAt.fresh {W : World} {b : Nat} (h : Blk W b 143 #[.pointer none, .slice none 0 0]) : SbAt W b none [] := ⟨_, _, h, .inl rfl, World.ownsRow_nil _ _ _ _, rfl⟩
theorem SbAt.ne {W : World} {b : Nat} {r : Option Nat} {xs : List Value} (h : SbAt W b r xs) : r ≠ some b := by
  obtain ⟨p, v, h1, h2, h3, h4⟩ := h
  have := own_ne h3 h1 (by decide)
  rw [h4] at this
  exact this

theorem wpList_append_str {P : Program} {ops : Array Oper} {rest : List Oper} {o : Oper} {a : Act} {Q : Exit → Act → World → Prop} {w : World} (hgd : o.guard = none) (sl x : Operand) (t u : TypeId)
    (ho : o.op = .call { callee := .builtin .append, args := #[sl, x], argTypes := #[t, u] })
    (e : TypeId) (i : TypeInfo) (ht : P.underlying t = some (.slice e)) (hu : P.underlying u = some .string) (hi : P.info? e = some i) (hz : i.zero = some (.int .u8 0))
    (hsize : i.size = 1) (hby : i.bytes = 1)
    (v : Value) (n : Nat) (xs : List Value) (hs : a.eval sl = v) (hown : w.ownsRow 0 e 1 v n xs) (s : ByteArray) (hx : a.eval x = .string s)
    (h63 : n + s.size ≤ maxLen) (hbytes : n + s.size ≤ 140737488355328)
    (h : ∀ v' w', w'.ownsRow 0 e 1 v' (n + s.size) (xs ++ Lib.strCells s) → w.grownBy w' v.ownBlock → (∀ k, v'.ownBlock = some k → v.ownBlock = some k ∨ w.heap.size ≤ k) → wpList P ops Q rest (a.put o.dst v') w') : wpList P ops Q (o :: rest) a w := by
  refine wpList_plain hgd fun K hK => ?_
  obtain ⟨v', w', hr, h2, h3, h4⟩ := run_append_str1 (P := P) w t u o.type e i ht hu hi hz hsize hby v n xs hown s h63 hbytes
  unfold Oper.wp execOp
  simp only [ho, resolve, invoke, builtin, Sem.run_bind, Sem.run_pure, Result.andThen_ok, List.map_toArray, List.map_cons, List.map_nil, hs, hx, hr]
  exact hK _ _ (h v' w' h2 h3 h4)

theorem Tryd.infoU8 : (Tryd.prog.info? 5).map (fun i => (i.zero, i.size, i.bytes)) = some (some (.int .u8 0), 1, 1) := by kernel_rfl
/-- what a write leaves -/
def SbPost (b : Nat) (r : Option Nat) (xs : List Value) (w w' : World) : Prop := ∃ r', SbAt w' b r' xs ∧ Upd (b :: r.toList) w w' ∧ ∀ k, r' = some k → r = some k ∨ w.heap.size ≤ k
set_option maxHeartbeats 2000000 in
set_option maxRecDepth 100000 in
theorem sbw_any (b : Nat) (r : Option Nat) (xs : List Value) (s : ByteArray) (w : World) (h : SbAt w b r xs) (hlen : xs.length + s.size ≤ 1000000) :
    Calls Tryd.prog 89 #[.pointer (some ⟨b, 0, none⟩), .string s] w fun e w' => e = .returned (.tuple #[.int .i64 s.size, .nilIface]) ∧ SbPost b r (xs ++ Lib.strCells s) w w' := by
  obtain ⟨i0, hi, hz0, hz1, hz2⟩ := info_parts Tryd.infoU8
  have hnb := h.ne
  obtain ⟨p, v, hbk0, hp, hown0, hr⟩ := h
  subst hr
  go_enter Tryd.func89, Tryd.ntmps89
  go_wp2_with fail
  refine (sbcheck_any b p v w hbk0 hp).mono ?_
  rintro e w1 ⟨rfl, hbk, hb1⟩
  have hown : w1.ownsRow 0 5 1 v xs.length xs := eO_loc 5 1 v xs.length xs w w1 (fun k hk => by
    have h5 : v.ownBlock = some k := by simpa [eO] using hk
    exact hb1.block k (own0_block hown0 k h5) (by simp; intro e; exact hnb (by rw [h5, e]))) hown0
  have c0 : w1.cell? ⟨b, 0, none⟩ = some (.pointer (some ⟨b, 0, none⟩)) := hbk.cell 0
  have c1 : w1.cell? ⟨b, 1, none⟩ = some v := hbk.cell 1
  go_wp2_with (at_builtin; refine wpList_append_str rfl _ _ 42 9 rfl 5 i0 Tryd.underlying42 Tryd.underlying9 hi hz0 hz1 hz2 _ _ _ rfl hown s rfl ?c3 ?c4 ?_)
  case c3 => unfold maxLen; omega
  case c4 => omega
  intro v' w2 hown' hgrow hat
  have hb2 : Blk w2 b 143 #[.pointer (some ⟨b, 0, none⟩), v] := hbk.grown hgrow (own_ne hown hbk (by decide))
  have d0 : w2.cell? ⟨b, 0, none⟩ = some (.pointer (some ⟨b, 0, none⟩)) := hb2.cell 0
  have d1 : w2.cell? ⟨b, 1, none⟩ = some v := hb2.cell 1
  have f1 : w2.frozen? ⟨b, 1, none⟩ = false := hb2.frozen 1
  obtain ⟨ao, n', cap, rfl⟩ : ∃ ao n' cap, v' = .slice ao n' cap := by
    rcases hown'.2 with ⟨hv, _⟩ | ⟨g, cap, cur, hv, _⟩
    · exact ⟨_, _, _, hv⟩
    · exact ⟨_, _, _, hv⟩
  go_wp2
  go_ret2
  refine ⟨rfl, _, ⟨_, _, hb2.set_ 1 _, .inr rfl, own_set (by simpa [Lib.strCells_length] using hown') (own_ne hown' hb2 (by decide)) 1 _, rfl⟩, ?_, fun k hk => ?_⟩
  · exact ((hb1.mono (fun k _ hk => by simp at hk; simp [hk])).grown hgrow (fun k hk => .inl (by simp [hk]))).set (p := ⟨b, 1, none⟩) (.inl (by simp)) _
  · rcases hat k hk with h | h
    · exact .inl h
    · exact .inr (Nat.le_trans hb1.size h)

set_option maxHeartbeats 2000000 in
set_option maxRecDepth 100000 in
theorem sbc_any (b : Nat) (r : Option Nat) (xs : List Value) (k : Int) (w : World) (h : SbAt w b r xs) (hlen : xs.length + 1 ≤ 1000000) :
    Calls Tryd.prog 108 #[.pointer (some ⟨b, 0, none⟩), .int .u8 k] w fun e w' => e = .returned .nilIface ∧ SbPost b r (xs ++ [.int .u8 k]) w w' := by
  obtain ⟨i0, hi, hz0, hz1, hz2⟩ := info_parts Tryd.infoU8
  have hnb := h.ne
  obtain ⟨p, v, hbk0, hp, hown0, hr⟩ := h
  subst hr
  go_enter Tryd.func108, Tryd.ntmps108
  go_wp2_with fail
  refine (sbcheck_any b p v w hbk0 hp).mono ?_
  rintro e w1 ⟨rfl, hbk, hb1⟩
  have hown1 : w1.ownsRow 0 5 1 v xs.length xs := eO_loc 5 1 v xs.length xs w w1 (fun k hk => by
    have h5 : v.ownBlock = some k := by simpa [eO] using hk
    exact hb1.block k (own0_block hown0 k h5) (by simp; intro e; exact hnb (by rw [h5, e]))) hown0
  have c0 : w1.cell? ⟨b, 0, none⟩ = some (.pointer (some ⟨b, 0, none⟩)) := hbk.cell 0
  have c1 : w1.cell? ⟨b, 1, none⟩ = some v := hbk.cell 1
  have hX : Ext w1 (w1.alloc (.cells #[.int .u8 k] 5)) := (Ext.refl w1).alloc _
  have hown := own_ext hown1 hX
  have hbk' := hbk.ext hX
  go_wp2_with (at_builtin; refine wpl_append _ rfl _ _ 42 rfl 0 5 i0 _ 1 Tryd.underlying42 hi hz0 hz1 hz2 rfl _ _ _ rfl hown _ 1 1 [.int .u8 k] rfl rfl ?c1 (by simp [Value.oneCell']) ?c3 ?c4 (Nat.zero_le _) ?_)
  case c1 => exact At.one_new _ _ _
  case c3 => unfold maxLen; omega
  case c4 => omega
  intro v' w2 hown' hgrow hat
  have hb2 : Blk w2 b 143 #[.pointer (some ⟨b, 0, none⟩), v] := hbk'.grown hgrow (own_ne hown hbk' (by decide))
  have d0 : w2.cell? ⟨b, 0, none⟩ = some (.pointer (some ⟨b, 0, none⟩)) := hb2.cell 0
  have d1 : w2.cell? ⟨b, 1, none⟩ = some v := hb2.cell 1
  have f1 : w2.frozen? ⟨b, 1, none⟩ = false := hb2.frozen 1
  obtain ⟨ao, n', cap, rfl⟩ : ∃ ao n' cap, v' = .slice ao n' cap := by
    rcases hown'.2 with ⟨hv, _⟩ | ⟨g, cap, cur, hv, _⟩
    · exact ⟨_, _, _, hv⟩
    · exact ⟨_, _, _, hv⟩
  go_wp2
  go_ret
  refine ⟨rfl, _, ⟨_, _, hb2.set_ 1 _, .inr rfl, own_set (by simpa using hown') (own_ne hown' hb2 (by decide)) 1 _, rfl⟩, ?_, fun k hk => ?_⟩
  · exact (((hb1.mono (fun k _ hk => by simp at hk; simp [hk])).alloc _).grown hgrow (fun k hk => .inl (by simp [hk]))).set (p := ⟨b, 1, none⟩) (.inl (by simp)) _
  · rcases hat with h | h
    · exact .inl (h.symm.trans hk)
    · right
      have h6 := h.symm.trans hk
      injection h6 with h6
      have := hb1.size
      have := hX.size
      omega

def eBu (b : Nat) (r : Option Nat) (l : List UInt8) : Ent := eSb b r (Lib.byteCells l)
theorem rO_eBu (b : Nat) (r : Option Nat) (l : List UInt8) : rO (eBu b r l) = r := rO_eSb b r _
theorem cells_byte (l : List UInt8) (k : Int) (h : 0 ≤ k ∧ k < 256) : Lib.byteCells l ++ [.int .u8 k] = Lib.byteCells (l ++ [UInt8.ofNat k.toNat]) := by
  have : ((UInt8.ofNat k.toNat).toNat : Int) = k := by
    rw [UInt8.toNat_ofNat']
    omega
  simp only [Lib.byteCells, List.map_append, List.map_cons, List.map_nil, this]
theorem cells_str (l : List UInt8) (s : ByteArray) : Lib.byteCells l ++ Lib.strCells s = Lib.byteCells (l ++ s.data.toList) := by simp [Lib.byteCells, Lib.strCells]
theorem byteCells_len (l : List UInt8) : (Lib.byteCells l).length = l.length := by simp [Lib.byteCells]
theorem sbc_l (b : Nat) (r : Option Nat) (l : List UInt8) (k : Int) (w : World) (h : SbAt w b r (Lib.byteCells l)) (hk : 0 ≤ k ∧ k < 256) (hlen : l.length + 1 ≤ 1000000) :
    Calls Tryd.prog 108 #[.pointer (some ⟨b, 0, none⟩), .int .u8 k] w fun e w' => e = .returned .nilIface ∧ SbPost b r (Lib.byteCells (l ++ [UInt8.ofNat k.toNat])) w w' := by
  have := sbc_any b r _ k w h (by rw [byteCells_len]; exact hlen)
  rw [cells_byte l k hk] at this
  exact this
theorem sbw_l (b : Nat) (r : Option Nat) (l : List UInt8) (s : ByteArray) (w : World) (h : SbAt w b r (Lib.byteCells l)) (hlen : l.length + s.size ≤ 1000000) :
    Calls Tryd.prog 89 #[.pointer (some ⟨b, 0, none⟩), .string s] w fun e w' => e = .returned (.tuple #[.int .i64 s.size, .nilIface]) ∧ SbPost b r (Lib.byteCells (l ++ s.data.toList)) w w' := by
  have := sbw_any b r _ s w h (by rw [byteCells_len]; exact hlen)
  rw [cells_str l s] at this
  exact this
theorem Upd.freeze {S : List Nat} {a b : World} (h : Upd S a b) {p : Addr} (hp : p.block ∈ S ∨ a.heap.size ≤ p.block) (n : Nat) : Upd S a (b.freeze p n) := by
  unfold World.freeze
  split
  · exact h
  · refine ⟨h.os, h.tape, h.output, by simpa using h.size, fun k hk hn => ?_⟩
    simp only [Array.getElem?_modify]
    rw [if_neg (fun e => ?_)]
    · exact h.block k hk hn
    · rcases hp with hp | hp
      · exact hn (by rw [← e]; exact hp)
      · omega
section
variable {P : Program} {ops : Array Oper} {L : List Nat} {a0 : Act} {w0 : World} {bor : List Nat} {X0 : List Ent} {us cr kl : List (List Nat)}
  {D : Nat → (Tmp → Value) → (Tmp → Value) → (Nat → Ent) → Prop} {i : Nat} {o : Oper} {ρ : Operand → Value} {β : Tmp → Value} {W : World} {X : Nat → Ent}
theorem CtxV.sb {q b : Nat} {r : Option Nat} {l : List UInt8} (cx : CtxV ops L a0 w0 bor X0 us D i ρ β W X) (hX : X q = eBu b r l) (hu : (atV us i).contains q = true) : SbAt W b r (Lib.byteCells l) := by
  have h := (cx.ok q hu).holds
  rw [hX] at h; exact h
theorem post_sb {v : Value} {W' : World} {b q q' : Nat} {r : Option Nat} {l : List UInt8} (hX : (X q).fp = b :: r.toList) (hc : atV cr i = [q']) (hk : atV kl i = [q]) (hp : SbPost b r (Lib.byteCells l) W W')
    (hD : ∀ (σ β' : Tmp → Value) (X' : Nat → Ent), (∀ t, o.dst ≠ some t → σ t = ρ (.tmp t)) → (∀ t, o.dst ≠ some t → β' t = β t) → (∀ d, o.dst = some d → σ d = v ∧ β' d = v) → X' q' = eBu b (rO (X' q')) l → D i σ β' X') : PostV cr kl D i o.dst ρ β W X v W' := by
  obtain ⟨r', hs, hu, hr⟩ := hp
  have hne := hs.ne
  have hlt : ∀ k ∈ (eBu b r' l).fp, k < W'.heap.size := fun k hk' => by
    obtain ⟨p, vv, h1, _, h3, h4⟩ := hs
    simp only [eBu, eSb, List.mem_cons, Option.mem_toList] at hk'
    rcases hk' with rfl | hk'
    · exact h1.lt
    · exact own0_block h3 k (by rw [h4]; exact hk')
  refine ⟨[eBu b r' l], by rw [hc]; rfl, ⟨?_, fun e he => ?_, List.pairwise_singleton _ _⟩, fun σ β' X' hs' hv hb' hbv hx' hN => hD σ β' X' hs' hb' (fun d hd => ⟨hv d hd, hbv d hd⟩) ?_⟩
  · rw [hk]
    simp only [List.flatMap_cons, List.flatMap_nil, List.append_nil, hX]
    exact hu
  · rw [List.mem_singleton] at he
    subst he
    refine ⟨hs, eSb_loc _ _ _, fun k hk' => ⟨?_, hlt k hk'⟩⟩
    rw [hk]
    simp only [List.flatMap_cons, List.flatMap_nil, List.append_nil, hX]
    simp only [eBu, eSb, List.mem_cons, Option.mem_toList] at hk'
    rcases hk' with rfl | hk'
    · exact .inl (by simp)
    · rcases hr k hk' with h | h
      · exact .inl (by simp [h])
      · exact .inr h
  · rw [hc] at hN
    have h1 := (List.cons.inj hN).1
    rw [h1, rO_eBu]
/-- a call that ends an entry -/
theorem post_kill {v : Value} {W' : World} {q : Nat} {S : List Nat} (hX : (X q).fp = S) (hc : atV cr i = []) (hk : atV kl i = [q]) (hu : Upd S W W')
    (hD : ∀ (σ β' : Tmp → Value) (X' : Nat → Ent), (∀ t, o.dst ≠ some t → σ t = ρ (.tmp t)) → (∀ t, o.dst ≠ some t → β' t = β t) → (∀ d, o.dst = some d → σ d = v ∧ β' d = v) → D i σ β' X') : PostV cr kl D i o.dst ρ β W X v W' := by
  refine ⟨[], by rw [hc]; rfl, ⟨?_, by simp, List.Pairwise.nil⟩, fun σ β' X' hs' hv hb' hbv hx' hN => hD σ β' X' hs' hb' (fun d hd => ⟨hv d hd, hbv d hd⟩)⟩
  rw [hk]
  simp only [List.flatMap_cons, List.flatMap_nil, List.append_nil, hX]
  exact hu
theorem run_sliceData {x : Operand} {t : TypeId} {a : Addr} {n c : Nat} (h : o.op = .call { callee := .builtin .unsafeSliceData, args := #[x], argTypes := #[t] }) (hx : ρ x = .slice (some a) n c) (hc : 0 < c) : (execOp ρ o).run P W = .ok (.value (.pointer (some a))) W := by
  have h0 := Lib.run_unsafeSliceData_row (P := P) (w := W) #[t] o.type a n c (by omega)
  unfold execOp; rw [h]
  simp only [resolve, invoke, builtin, Sem.run_bind, Sem.run_pure, Result.andThen_ok, List.map_toArray, List.map_cons, List.map_nil, hx, h0]
/-- unsafe.String over a row of the call's own -/
theorem dv_unsafeStr {x y : Operand} {t u e : TypeId} {g c q : Nat} {d : Tmp} {l : List UInt8} (h : o.op = .call { callee := .builtin .unsafeString, args := #[x, y], argTypes := #[t, u] }) (ht : P.underlying t = some (.pointer e)) (hce : P.cellsOf e = 1)
    (hx : ρ x = .pointer (some ⟨g, 0, none⟩)) (hy : ρ y = .int .i64 (l.length : Int)) (cx : CtxV ops L a0 w0 bor X0 us D i ρ β W X) (hX : X q = eO e 1 (.slice (some ⟨g, 0, none⟩) l.length c) l.length (Lib.byteCells l)) (hu : (atV us i).contains q = true) (hl : l ≠ []) (h63 : l.length ≤ 9223372036854775807)
    (hd : o.dst = some d) (hc : atV cr i = []) (hk : atV kl i = [q]) (hD : ∀ (σ β' : Tmp → Value) (X' : Nat → Ent), σ d = .string ⟨l.toArray⟩ → D i σ β' X') : DoesU P o ρ W (PostV cr kl D i o.dst ρ β W X) := by
  have hown := cx.row hX hu
  obtain ⟨hlen, h2⟩ := hown
  have hpos : 0 < l.length := List.length_pos_iff.2 hl
  rcases h2 with ⟨hv, h0⟩ | ⟨g', cap, cur, hv, _, hg, hle, hmx, hcs, htk⟩
  · omega
  · injection hv with h1 h2 h3
    injection h1 with h1
    injection h1 with h1
    subst h1 h3
    have hcell : ∀ (j : Nat) (x : UInt8), l[j]? = some x → W.cell? ((⟨g, 0, none⟩ : Addr).add j) = some (.int .u8 x.toNat) := fun j x hj => by
      have hjl := (List.getElem?_eq_some_iff.1 hj).1
      rw [Addr.add_lit, Nat.zero_add, cell_of_row W g j cur e _ hg]
      have h5 : (cur.toList.take (l.length * 1))[j]? = (Lib.byteCells l)[j]? := by rw [htk]
      rw [List.getElem?_take, if_pos (by omega)] at h5
      rw [← Array.getElem?_toList, h5]
      simp [Lib.byteCells, hj]
    have hrun := Lib.run_unsafeString_row (P := P) (w := W) t u o.type e ht hce g cur.size (by unfold World.shape?; rw [hg]) l hl (by omega) h63 hcell
    refine DoesU.value (v := .string ⟨l.toArray⟩) (w' := W.freeze ⟨g, 0, none⟩ l.length) (by
      unfold execOp; rw [h]
      simp only [resolve, invoke, builtin, Sem.run_bind, Sem.run_pure, Result.andThen_ok, List.map_toArray, List.map_cons, List.map_nil, hx, hy, hrun]) ?_
    refine post_kill (S := [g]) (by rw [hX]; rfl) hc hk ((Upd.refl _ _).freeze (.inl (by simp)) _) fun σ β' X' _ _ hv => hD σ β' X' (hv d hd).1
end
theorem St.lent2 {w : World} {b g t e c n : Nat} {cs : Array Value} {xs : List Value} (hb : Blk w b t cs) (ho : w.ownsRow 0 e 1 (.slice (some ⟨g, 0, none⟩) n c) n xs) (hne : g ≠ b) : St w [b, g] [eB b t cs, eO e 1 (.slice (some ⟨g, 0, none⟩) n c) n xs] w := by
  refine ⟨Upd.refl _ _, fun x hx => ?_, ?_⟩
  · simp only [List.mem_cons, List.not_mem_nil, or_false] at hx
    rcases hx with rfl | rfl
    · exact ⟨hb, eB_loc _ _ _, fun k hk => ⟨.inl (by simp [eB] at hk; simp [hk]), by simp [eB] at hk; subst hk; exact hb.lt⟩⟩
    · exact ⟨ho, eO_loc _ _ _ _ _, fun k hk => ⟨.inl (by simp [eO, Value.ownBlock] at hk; simp [hk]), own0_block ho k (by simpa [eO] using hk)⟩⟩
  · refine List.pairwise_pair.2 fun k hk hk' => ?_
    simp only [eB, List.mem_cons, List.not_mem_nil, or_false, eO, Value.ownBlock, Option.toList_some] at hk hk'
    omega
set_option maxRecDepth 100000 in
set_option maxHeartbeats 2000000 in
theorem sbstr_l (b : Nat) (r : Option Nat) (l : List UInt8) (w : World) (h : SbAt w b r (Lib.byteCells l)) (hl : l ≠ []) (h63 : l.length ≤ 1000000) :
    Calls Tryd.prog 93 #[.pointer (some ⟨b, 0, none⟩)] w fun e w' => e = .returned (.string ⟨l.toArray⟩) ∧ Upd (b :: r.toList) w w' := by
  have hpos : 0 < l.length := List.length_pos_iff.2 hl
  have hbne := h.ne
  obtain ⟨p, v, hb, hp, hown, hr⟩ := h
  rw [byteCells_len] at hown
  obtain ⟨g, c, hv, hlc⟩ : ∃ g c, v = .slice (some ⟨g, 0, none⟩) l.length c ∧ l.length ≤ c := by
    rcases hown.2 with ⟨hv, h0⟩ | ⟨g', cap, cur, hv, _, hg, hle, _⟩
    · omega
    · exact ⟨g', cap, hv, hle⟩
  subst hv hr
  have hne : g ≠ b := fun e => hbne (by simp [Value.ownBlock, e])
  have st0 := St.lent2 hb hown hne
  show Calls _ _ _ w fun e w' => e = .returned (.string ⟨l.toArray⟩) ∧ Upd [b, g] w w'
  go_enter Tryd.func93, Tryd.ntmps93
  have hst0 := st0
  refine wp_seq ?_
  refine wp_region_P [0] [.k 2 (.string ⟨#[]⟩)] [(2, 0, 1, 3)] hst0 fun W1 hst1 => ?_
  refine then_normal ?_
  refine wp_seq ?_
  refine wp_region_T [0, 1, 3, 7, 15, 0, 32, 96, 224, 480, 1023, 2047] [[], [], [], [0], [], [], [], [], [0], [], [1]] [] [[], [], [], [], [], [], [], [], [], [], [1]] [.k 3 (.pointer (some ⟨b, 0, none⟩)), .k 4 (.pointer (some ⟨b, 0, none⟩)), .k 5 (.pointer (some ⟨b, 1, none⟩)), .c 6 (.slice ((some ⟨g, 0, none⟩)) l.length c), .c 7 (.pointer (some ⟨g, 0, none⟩)), .k 8 (.pointer (some ⟨b, 0, none⟩)), .k 9 (.pointer (some ⟨b, 0, none⟩)), .k 10 (.pointer (some ⟨b, 1, none⟩)), .c 11 (.slice ((some ⟨g, 0, none⟩)) l.length c), .k 12 (.int .i64 ((l.length : Int))), .a 13, .c 2 (.string ((⟨l.toArray⟩ : ByteArray)))] (fun ix σ β X => match ix with | 0 => True | 1 => True | 2 => True | 3 => True | 4 => True | 5 => True | 6 => True | 7 => True | 8 => True | 9 => True | 10 => σ 13 = .string ((⟨l.toArray⟩ : ByteArray)) | _ => True) [0] [3, 4, 8, 10, 11] [(2, 11, 1, 3), (0, 0, 11, 11)] hst1 ?_ ?_ ?_
  · exact fun ix _ _ _ _ _ _ hs hb hx h => match ix, h with
    | 10, h => (hs _ rfl).symm.trans h
    | 0, _ | 1, _ | 2, _ | 3, _ | 4, _ | 5, _ | 6, _ | 7, _ | 8, _ | 9, _ | _ + 11, _ => trivial
  · refine ⟨?_, ?_, ?_, ?_, ?_, trivial⟩
    · exact s4 rfl (fun _ _ _ h => h) fun cx => run_load1 rfl (by kernel_rfl) (cx.anc 2 rfl) ((cx.blk (cx.init 0 _ rfl) rfl).cell 1)
    · exact s4 rfl (fun _ _ _ h => h) fun cx => run_sliceData rfl (cx.anc 3 rfl) (by omega)
    · exact s4 rfl (fun _ _ _ h => h) fun cx => run_load1 rfl (by kernel_rfl) (cx.anc 7 rfl) ((cx.blk (cx.init 0 _ rfl) rfl).cell 1)
    · refine sv_any rfl rfl fun ρ β W X cx => ?_
      exact dv_unsafeStr (e := 5) rfl (by kernel_rfl) (by kernel_rfl) (cx.anc 4 rfl) (cx.anc 9 rfl) cx (cx.init 1 _ rfl) rfl hl (by omega) rfl rfl rfl (fun σ β' X' hs => hs)
    · exact s4 rfl (fun _ _ _ h => h) fun cx => run_assign' rfl (dTn (cx.anc 10 rfl))
  intro σ β X W2 hD hX hst2 fr hfr
  simp only [zM, exq 0 (hX 0 _ rfl)] at hst2
  dsimp only [mgT, vals, List.take, List.drop, List.cons_append, List.nil_append] at hfr
  simp only [ed 13 ((dTn (hD 10 lq)))] at hfr
  clear hX hD; subst hfr; clear σ β X
  refine then_normal ?_
  refine wp_ret ?_
  refine bodyPost_ret (v := .string ((⟨l.toArray⟩ : ByteArray))) (results_tmp Tryd.results93 rfl) rfl ?_
  exact ⟨rfl, hst2.upd⟩
end Go.Proofs.YtfjpglohcppjeaaDoor

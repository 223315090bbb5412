/- strings.Builder over the one entry, its bytes a list: WriteByte, WriteString, String; what the region's rule asks behind them. -/
import Derived.Test.YtfjpglohcppjeaaDoorSbx
import Derived.Test.YtfjpglohcppjeaaDoorVw
import Derived.Lib.UnsafeStr
namespace Go.Proofs.YtfjpglohcppjeaaDoor
open Go.RowKit
set_option linter.unusedVariables false

def eBu (b : Nat) (r : Option Nat) (l : List UInt8) : Ent := eSb b r (Lib.byteCells l)
theorem rO_eBu (b : Nat) (r : Option Nat) (l : List UInt8) : rO (eBu b r l) = r := rO_eSb b r _
theorem cells_byte (l : List UInt8) (k : Int) (h : 0 ≤ k ∧ k < 256) : Lib.byteCells l ++ [.int .u8 k] = Lib.byteCells (l ++ [UInt8.ofNat k.toNat]) := by
  have : ((UInt8.ofNat k.toNat).toNat : Int) = k := by
    rw [UInt8.toNat_ofNat']
    omega
  simp only [Lib.byteCells, List.map_append, List.map_cons, List.map_nil, this]
theorem cells_str (l : List UInt8) (s : ByteArray) : Lib.byteCells l ++ Lib.strCells s = Lib.byteCells (l ++ s.data.toList) := by simp [Lib.byteCells, Lib.strCells]
theorem byteCells_len (l : List UInt8) : (Lib.byteCells l).length = l.length := by simp [Lib.byteCells]
theorem sbc_l (b : Nat) (r : Option Nat) (l : List UInt8) (k : Int) (w : World) (h : SbAt w b r (Lib.byteCells l)) (hk : 0 ≤ k ∧ k < 256) (hlen : l.length + 1 ≤ 1000000) :
    Calls Tryd.prog 108 #[.pointer (some ⟨b, 0, none⟩), .int .u8 k] w fun e w' => e = .returned .nilIface ∧ SbPost b r (Lib.byteCells (l ++ [UInt8.ofNat k.toNat])) w w' := by
  have := sbc_any b r _ k w h (by rw [byteCells_len]; exact hlen)
  rw [cells_byte l k hk] at this
  exact this
theorem sbw_l (b : Nat) (r : Option Nat) (l : List UInt8) (s : ByteArray) (w : World) (h : SbAt w b r (Lib.byteCells l)) (hlen : l.length + s.size ≤ 1000000) :
    Calls Tryd.prog 89 #[.pointer (some ⟨b, 0, none⟩), .string s] w fun e w' => e = .returned (.tuple #[.int .i64 s.size, .nilIface]) ∧ SbPost b r (Lib.byteCells (l ++ s.data.toList)) w w' := by
  have := sbw_any b r _ s w h (by rw [byteCells_len]; exact hlen)
  rw [cells_str l s] at this
  exact this
theorem Upd.freeze {S : List Nat} {a b : World} (h : Upd S a b) {p : Addr} (hp : p.block ∈ S ∨ a.heap.size ≤ p.block) (n : Nat) : Upd S a (b.freeze p n) := by
  unfold World.freeze
  split
  · exact h
  · refine ⟨h.os, h.tape, h.output, by simpa using h.size, fun k hk hn => ?_⟩
    simp only [Array.getElem?_modify]
    rw [if_neg (fun e => ?_)]
    · exact h.block k hk hn
    · rcases hp with hp | hp
      · exact hn (by rw [← e]; exact hp)
      · omega
section
variable {P : Program} {ops : Array Oper} {L : List Nat} {a0 : Act} {w0 : World} {bor : List Nat} {X0 : List Ent} {us cr kl : List (List Nat)}
  {D : Nat → (Tmp → Value) → (Tmp → Value) → (Nat → Ent) → Prop} {i : Nat} {o : Oper} {ρ : Operand → Value} {β : Tmp → Value} {W : World} {X : Nat → Ent}
theorem CtxV.sb {q b : Nat} {r : Option Nat} {l : List UInt8} (cx : CtxV ops L a0 w0 bor X0 us D i ρ β W X) (hX : X q = eBu b r l) (hu : (atV us i).contains q = true) : SbAt W b r (Lib.byteCells l) := by
  have h := (cx.ok q hu).holds
  rw [hX] at h; exact h
theorem post_sb {v : Value} {W' : World} {b q q' : Nat} {r : Option Nat} {l : List UInt8} (hX : (X q).fp = b :: r.toList) (hc : atV cr i = [q']) (hk : atV kl i = [q]) (hp : SbPost b r (Lib.byteCells l) W W')
    (hD : ∀ (σ β' : Tmp → Value) (X' : Nat → Ent), (∀ t, o.dst ≠ some t → σ t = ρ (.tmp t)) → (∀ t, o.dst ≠ some t → β' t = β t) → (∀ d, o.dst = some d → σ d = v ∧ β' d = v) → X' q' = eBu b (rO (X' q')) l → D i σ β' X') : PostV cr kl D i o.dst ρ β W X v W' := by
  obtain ⟨r', hs, hu, hr⟩ := hp
  have hne := hs.ne
  have hlt : ∀ k ∈ (eBu b r' l).fp, k < W'.heap.size := fun k hk' => by
    obtain ⟨p, vv, h1, _, h3, h4⟩ := hs
    simp only [eBu, eSb, List.mem_cons, Option.mem_toList] at hk'
    rcases hk' with rfl | hk'
    · exact h1.lt
    · exact own0_block h3 k (by rw [h4]; exact hk')
  refine ⟨[eBu b r' l], by rw [hc]; rfl, ⟨?_, fun e he => ?_, List.pairwise_singleton _ _⟩, fun σ β' X' hs' hv hb' hbv hx' hN => hD σ β' X' hs' hb' (fun d hd => ⟨hv d hd, hbv d hd⟩) ?_⟩
  · rw [hk]
    simp only [List.flatMap_cons, List.flatMap_nil, List.append_nil, hX]
    exact hu
  · rw [List.mem_singleton] at he
    subst he
    refine ⟨hs, eSb_loc _ _ _, fun k hk' => ⟨?_, hlt k hk'⟩⟩
    rw [hk]
    simp only [List.flatMap_cons, List.flatMap_nil, List.append_nil, hX]
    simp only [eBu, eSb, List.mem_cons, Option.mem_toList] at hk'
    rcases hk' with rfl | hk'
    · exact .inl (by simp)
    · rcases hr k hk' with h | h
      · exact .inl (by simp [h])
      · exact .inr h
  · rw [hc] at hN
    have h1 := (List.cons.inj hN).1
    rw [h1, rO_eBu]
/-- a call that ends an entry -/
theorem post_kill {v : Value} {W' : World} {q : Nat} {S : List Nat} (hX : (X q).fp = S) (hc : atV cr i = []) (hk : atV kl i = [q]) (hu : Upd S W W')
    (hD : ∀ (σ β' : Tmp → Value) (X' : Nat → Ent), (∀ t, o.dst ≠ some t → σ t = ρ (.tmp t)) → (∀ t, o.dst ≠ some t → β' t = β t) → (∀ d, o.dst = some d → σ d = v ∧ β' d = v) → D i σ β' X') : PostV cr kl D i o.dst ρ β W X v W' := by
  refine ⟨[], by rw [hc]; rfl, ⟨?_, by simp, List.Pairwise.nil⟩, fun σ β' X' hs' hv hb' hbv hx' hN => hD σ β' X' hs' hb' (fun d hd => ⟨hv d hd, hbv d hd⟩)⟩
  rw [hk]
  simp only [List.flatMap_cons, List.flatMap_nil, List.append_nil, hX]
  exact hu
theorem run_sliceData {x : Operand} {t : TypeId} {a : Addr} {n c : Nat} (h : o.op = .call { callee := .builtin .unsafeSliceData, args := #[x], argTypes := #[t] }) (hx : ρ x = .slice (some a) n c) (hc : 0 < c) : (execOp ρ o).run P W = .ok (.value (.pointer (some a))) W := by
  have h0 := Lib.run_unsafeSliceData_row (P := P) (w := W) #[t] o.type a n c (by omega)
  unfold execOp; rw [h]
  simp only [resolve, invoke, builtin, Sem.run_bind, Sem.run_pure, Result.andThen_ok, List.map_toArray, List.map_cons, List.map_nil, hx, h0]
/-- unsafe.String over a row of the call's own -/
theorem dv_unsafeStr {x y : Operand} {t u e : TypeId} {g c q : Nat} {d : Tmp} {l : List UInt8} (h : o.op = .call { callee := .builtin .unsafeString, args := #[x, y], argTypes := #[t, u] }) (ht : P.underlying t = some (.pointer e)) (hce : P.cellsOf e = 1)
    (hx : ρ x = .pointer (some ⟨g, 0, none⟩)) (hy : ρ y = .int .i64 (l.length : Int)) (cx : CtxV ops L a0 w0 bor X0 us D i ρ β W X) (hX : X q = eO e 1 (.slice (some ⟨g, 0, none⟩) l.length c) l.length (Lib.byteCells l)) (hu : (atV us i).contains q = true) (hl : l ≠ []) (h63 : l.length ≤ 9223372036854775807)
    (hd : o.dst = some d) (hc : atV cr i = []) (hk : atV kl i = [q]) (hD : ∀ (σ β' : Tmp → Value) (X' : Nat → Ent), σ d = .string ⟨l.toArray⟩ → D i σ β' X') : DoesU P o ρ W (PostV cr kl D i o.dst ρ β W X) := by
  have hown := cx.row hX hu
  obtain ⟨hlen, h2⟩ := hown
  have hpos : 0 < l.length := List.length_pos_iff.2 hl
  rcases h2 with ⟨hv, h0⟩ | ⟨g', cap, cur, hv, _, hg, hle, hmx, hcs, htk⟩
  · omega
  · injection hv with h1 h2 h3
    injection h1 with h1
    injection h1 with h1
    subst h1 h3
    have hcell : ∀ (j : Nat) (x : UInt8), l[j]? = some x → W.cell? ((⟨g, 0, none⟩ : Addr).add j) = some (.int .u8 x.toNat) := fun j x hj => by
      have hjl := (List.getElem?_eq_some_iff.1 hj).1
      rw [Addr.add_lit, Nat.zero_add, cell_of_row W g j cur e _ hg]
      have h5 : (cur.toList.take (l.length * 1))[j]? = (Lib.byteCells l)[j]? := by rw [htk]
      rw [List.getElem?_take, if_pos (by omega)] at h5
      rw [← Array.getElem?_toList, h5]
      simp [Lib.byteCells, hj]
    have hrun := Lib.run_unsafeString_row (P := P) (w := W) t u o.type e ht hce g cur.size (by unfold World.shape?; rw [hg]) l hl (by omega) h63 hcell
    refine DoesU.value (v := .string ⟨l.toArray⟩) (w' := W.freeze ⟨g, 0, none⟩ l.length) (by
      unfold execOp; rw [h]
      simp only [resolve, invoke, builtin, Sem.run_bind, Sem.run_pure, Result.andThen_ok, List.map_toArray, List.map_cons, List.map_nil, hx, hy, hrun]) ?_
    refine post_kill (S := [g]) (by rw [hX]; rfl) hc hk ((Upd.refl _ _).freeze (.inl (by simp)) _) fun σ β' X' _ _ hv => hD σ β' X' (hv d hd).1
end
theorem St.lent2 {w : World} {b g t e c n : Nat} {cs : Array Value} {xs : List Value} (hb : Blk w b t cs) (ho : w.ownsRow 0 e 1 (.slice (some ⟨g, 0, none⟩) n c) n xs) (hne : g ≠ b) : St w [b, g] [eB b t cs, eO e 1 (.slice (some ⟨g, 0, none⟩) n c) n xs] w := by
  refine ⟨Upd.refl _ _, fun x hx => ?_, ?_⟩
  · simp only [List.mem_cons, List.not_mem_nil, or_false] at hx
    rcases hx with rfl | rfl
    · exact ⟨hb, eB_loc _ _ _, fun k hk => ⟨.inl (by simp [eB] at hk; simp [hk]), by simp [eB] at hk; subst hk; exact hb.lt⟩⟩
    · exact ⟨ho, eO_loc _ _ _ _ _, fun k hk => ⟨.inl (by simp [eO, Value.ownBlock] at hk; simp [hk]), own0_block ho k (by simpa [eO] using hk)⟩⟩
  · refine List.pairwise_pair.2 fun k hk hk' => ?_
    simp only [eB, List.mem_cons, List.not_mem_nil, or_false, eO, Value.ownBlock, Option.toList_some] at hk hk'
    omega
set_option maxRecDepth 100000 in
set_option maxHeartbeats 2000000 in
theorem sbstr_l (b : Nat) (r : Option Nat) (l : List UInt8) (w : World) (h : SbAt w b r (Lib.byteCells l)) (hl : l ≠ []) (h63 : l.length ≤ 1000000) :
    Calls Tryd.prog 93 #[.pointer (some ⟨b, 0, none⟩)] w fun e w' => e = .returned (.string ⟨l.toArray⟩) ∧ Upd (b :: r.toList) w w' := by
  have hpos : 0 < l.length := List.length_pos_iff.2 hl
  have hbne := h.ne
  obtain ⟨p, v, hb, hp, hown, hr⟩ := h
  rw [byteCells_len] at hown
  obtain ⟨g, c, hv, hlc⟩ : ∃ g c, v = .slice (some ⟨g, 0, none⟩) l.length c ∧ l.length ≤ c := by
    rcases hown.2 with ⟨hv, h0⟩ | ⟨g', cap, cur, hv, _, hg, hle, _⟩
    · omega
    · exact ⟨g', cap, hv, hle⟩
  subst hv hr
  have hne : g ≠ b := fun e => hbne (by simp [Value.ownBlock, e])
  have st0 := St.lent2 hb hown hne
  show Calls _ _ _ w fun e w' => e = .returned (.string ⟨l.toArray⟩) ∧ Upd [b, g] w w'
  go_enter Tryd.func93, Tryd.ntmps93
  have hst0 := st0
  refine wp_seq ?_
  refine wp_region_X [0] [] [] [] (fun ix σ β X => match ix with | 0 => σ 2 = .string ⟨#[]⟩ | _ => True) [0, 1] [2] hst0 ?_ ?_ ?_
  · exact fun ix _ _ _ _ _ _ hs hb hx h => match ix, h with
    | 0, h => (hs _ rfl).symm.trans h
    | _ + 1, _ => trivial
  · refine ⟨trivial, ?_⟩
    · exact s0 rfl fun cx => run_assign' rfl (cx.sees.const _)
  intro σ β X W1 hD hX hst1 fr hfr
  simp only [zM, exq 0 (hX 0 _ rfl), exq 1 (hX 1 _ rfl)] at hst1
  simp only [zP, ed 2 (hD 0 lq)] at hfr
  clear hX hD; subst hfr; clear σ β X
  refine then_normal ?_
  refine wp_seq ?_
  refine wp_region_X [0, 1, 3, 7, 15, 0, 32, 96, 224, 480, 1023, 2047] [[], [], [], [0], [], [], [], [], [0], [], [1]] [] [[], [], [], [], [], [], [], [], [], [], [1]] (fun ix σ β X => match ix with | 0 => σ 3 = .pointer (some ⟨b, 0, none⟩) | 1 => σ 4 = .pointer (some ⟨b, 0, none⟩) | 2 => σ 5 = .pointer (some ⟨b, 1, none⟩) | 3 => σ 6 = .slice ((some ⟨g, 0, none⟩)) l.length c | 4 => σ 7 = .pointer (some ⟨g, 0, none⟩) | 5 => σ 8 = .pointer (some ⟨b, 0, none⟩) | 6 => σ 9 = .pointer (some ⟨b, 0, none⟩) | 7 => σ 10 = .pointer (some ⟨b, 1, none⟩) | 8 => σ 11 = .slice ((some ⟨g, 0, none⟩)) l.length c | 9 => σ 12 = .int .i64 ((l.length : Int)) | 10 => σ 13 = .string ((⟨l.toArray⟩ : ByteArray)) | 11 => σ 2 = .string ((⟨l.toArray⟩ : ByteArray)) | _ => True) [0] [3, 4, 5, 6, 7, 8, 9, 10, 11, 12, 13, 2] hst1 ?_ ?_ ?_
  · exact fun ix _ _ _ _ _ _ hs hb hx h => match ix, h with
    | 0, h | 1, h | 2, h | 3, h | 4, h | 5, h | 6, h | 7, h | 8, h | 9, h | 10, h | 11, h => (hs _ rfl).symm.trans h
    | _ + 12, _ => trivial
  · refine ⟨⟨⟨⟨⟨⟨⟨⟨⟨⟨⟨⟨trivial, ?_⟩, ?_⟩, ?_⟩, ?_⟩, ?_⟩, ?_⟩, ?_⟩, ?_⟩, ?_⟩, ?_⟩, ?_⟩, ?_⟩
    · exact mo rfl
    · exact s0 rfl fun cx => run_nilCheck rfl (cx.anc 0 rfl)
    · exact s0 rfl fun cx => run_fieldAddr' (k := 1) (n := 1) rfl (by kernel_rfl) (cx.anc 1 rfl) rfl
    · exact s0 rfl fun cx => run_load1 rfl (by kernel_rfl) (cx.anc 2 rfl) ((cx.blk (cx.init 0 _ rfl) rfl).cell 1)
    · exact s4 rfl (fun _ _ _ h => h) fun cx => run_sliceData rfl (cx.anc 3 rfl) (by omega)
    · exact mo rfl
    · exact s0 rfl fun cx => run_nilCheck rfl (cx.anc 5 rfl)
    · exact s0 rfl fun cx => run_fieldAddr' (k := 1) (n := 1) rfl (by kernel_rfl) (cx.anc 6 rfl) rfl
    · exact s0 rfl fun cx => run_load1 rfl (by kernel_rfl) (cx.anc 7 rfl) ((cx.blk (cx.init 0 _ rfl) rfl).cell 1)
    · exact s0 rfl fun cx => run_len_l (e := 5) rfl (by kernel_rfl) (cx.anc 8 rfl)
    · refine sv_any rfl rfl fun ρ β W X cx => ?_
      exact dv_unsafeStr (e := 5) rfl (by kernel_rfl) (by kernel_rfl) (cx.anc 4 rfl) (cx.anc 9 rfl) cx (cx.init 1 _ rfl) rfl hl (by omega) rfl rfl rfl (fun σ β' X' hs => hs)
    · exact s0 rfl fun cx => run_assign' rfl (cx.anc 10 rfl)
  intro σ β X W2 hD hX hst2 fr hfr
  simp only [zM, exq 0 (hX 0 _ rfl)] at hst2
  simp only [zP, ed 3 (hD 0 lq), ed 4 (hD 1 lq), ed 5 (hD 2 lq), ed 6 (hD 3 lq), ed 7 (hD 4 lq), ed 8 (hD 5 lq), ed 9 (hD 6 lq), ed 10 (hD 7 lq), ed 11 (hD 8 lq), ed 12 (hD 9 lq), ed 13 (hD 10 lq), ed 2 (hD 11 lq)] at hfr
  clear hX hD; subst hfr; clear σ β X
  refine then_normal ?_
  refine wp_ret ?_
  refine bodyPost_ret (v := .string ((⟨l.toArray⟩ : ByteArray))) (by simp [results, Tryd.results93, go_sem]) rfl ?_
  exact ⟨rfl, hst2.upd⟩
end Go.Proofs.YtfjpglohcppjeaaDoor

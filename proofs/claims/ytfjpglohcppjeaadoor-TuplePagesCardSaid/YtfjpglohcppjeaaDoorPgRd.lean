/- page.Read of a right page's bytes. -/
import Derived.Test.YtfjpglohcppjeaaDoorSby
import Derived.Test.YtfjpglohcppjeaaDoorVu
import Derived.Test.YtfjpglohcppjeaaDoorPgPl
import Derived.Test.YtfjpglohcppjeaaDoorUpd2
import Derived.Test.YtfjpglohcppjeaaDoorT7
import Derived.Test.YtfjpglohcppjeaaDoorShelf2
import Derived.Test.YtfjpglohcppjeaaDoorT12
namespace Go.Proofs.YtfjpglohcppjeaaDoor
open Go.RowKit
set_option linter.unusedVariables false
set_option linter.unusedSimpArgs false

/-- a row of bytes, frozen or not -/
def ZrAt (W : World) (g : Nat) (l : List UInt8) : Prop := ∃ cur fz, W.heap[g]? = some (.cells cur 5 fz) ∧ l.length ≤ cur.size ∧ cur.toList.take l.length = Lib.byteCells l
def eZr (g : Nat) (l : List UInt8) : Ent := ⟨[g], fun W => ZrAt W g l⟩
theorem eZr_loc (g : Nat) (l : List UInt8) : (eZr g l).loc := fun W W' hk h => by
  obtain ⟨cur, fz, h1, h2⟩ := h
  exact ⟨cur, fz, (hk g (by simp [eZr])).trans h1, h2⟩
theorem ZrAt.lt {W : World} {g : Nat} {l : List UInt8} (h : ZrAt W g l) : g < W.heap.size := by
  obtain ⟨cur, fz, h1, _⟩ := h
  exact (Array.getElem?_eq_some_iff.1 h1).1
theorem ZrAt.freeze {W : World} {g : Nat} {l : List UInt8} (h : ZrAt W g l) (n : Nat) : ZrAt (W.freeze ⟨g, 0, none⟩ n) g l := by
  obtain ⟨cur, ⟨lo, hi⟩, h1, h2⟩ := h
  unfold World.freeze
  split
  · exact ⟨cur, (lo, hi), h1, h2⟩
  · refine ⟨cur, if lo == hi then (0, 0 + n) else (min lo 0, max hi (0 + n)), ?_, h2⟩
    simp only [Array.getElem?_modify, if_pos, h1, Option.map_some]
/-- the builder in block b, its bytes in the row r, frozen or not -/
def SbZ (W : World) (b : Nat) (r : Option Nat) (l : List UInt8) : Prop :=
  ∃ p g c, Blk W b 143 #[p, .slice (some ⟨g, 0, none⟩) l.length c] ∧ ZrAt W g l ∧ l.length ≤ c ∧ g ≠ b ∧ r = some g
def eZ (b : Nat) (r : Option Nat) (l : List UInt8) : Ent := ⟨b :: r.toList, fun W => SbZ W b r l⟩
theorem eZ_loc (b : Nat) (r : Option Nat) (l : List UInt8) : (eZ b r l).loc := fun W W' hk h => by
  obtain ⟨p, g, c, h1, h2, h3, h4, rfl⟩ := h
  exact ⟨p, g, c, (hk b (by simp [eZ])).trans h1, eZr_loc g l W W' (fun k hk' => hk k (by simp [eZr] at hk'; simp [eZ, hk'])) h2, h3, h4, rfl⟩
theorem SbZ.lt {W : World} {b : Nat} {r : Option Nat} {l : List UInt8} (h : SbZ W b r l) : ∀ k ∈ (eZ b r l).fp, k < W.heap.size := fun k hk => by
  obtain ⟨p, g, c, h1, h2, h3, h4, rfl⟩ := h
  simp only [eZ, List.mem_cons, Option.mem_toList, Option.some.injEq] at hk
  rcases hk with rfl | rfl
  · exact h1.lt
  · exact h2.lt
theorem SbAt.z {W : World} {b : Nat} {r : Option Nat} {l : List UInt8} (h : SbAt W b r (Lib.byteCells l)) (hl : l ≠ []) : SbZ W b r l := by
  have hpos : 0 < l.length := List.length_pos_iff.2 hl
  have hbne := h.ne
  obtain ⟨p, v, hb, hp, hown, hr⟩ := h
  rw [byteCells_len] at hown
  rcases hown.2 with ⟨hv, h0⟩ | ⟨g, cap, cur, hv, _, hg, hle, hmx, hcs, htk⟩
  · omega
  · subst hv
    refine ⟨p, g, cap, hb, ⟨cur, _, hg, by omega, by rw [Nat.mul_one] at htk; exact htk⟩, hle, fun e => hbne (by rw [← hr]; simp [Value.ownBlock, e]), hr.symm⟩
section
variable {P : Program} {ops : Array Oper} {L : List Nat} {a0 : Act} {w0 : World} {bor : List Nat} {X0 : List Ent} {us cr kl : List (List Nat)}
  {D : Nat → (Tmp → Value) → (Tmp → Value) → (Nat → Ent) → Prop} {i : Nat} {o : Oper} {ρ : Operand → Value} {β : Tmp → Value} {W : World} {X : Nat → Ent}
/-- an entry turns into another over the same blocks -/
theorem post_chg {v : Value} {W' : World} {q q' : Nat} {E E' : Ent} (hX : X q = E) (hc : atV cr i = [q']) (hk : atV kl i = [q]) (hu : Upd E.fp W W') (hh : E'.holds W') (hl : E'.loc) (hf : ∀ k ∈ E'.fp, k ∈ E.fp ∧ k < W'.heap.size)
    (hD : ∀ (σ β' : Tmp → Value) (X' : Nat → Ent), (∀ t, o.dst ≠ some t → σ t = ρ (.tmp t)) → (∀ t, o.dst ≠ some t → β' t = β t) → (∀ d, o.dst = some d → σ d = v ∧ β' d = v) → X' q' = E' → D i σ β' X') : PostV cr kl D i o.dst ρ β W X v W' := by
  subst hX
  refine ⟨[E'], by rw [hc]; rfl, ⟨?_, fun e he => ?_, List.pairwise_singleton _ _⟩, fun σ β' X' hs' hv hb' hbv hx' hN => hD σ β' X' hs' hb' (fun d hd => ⟨hv d hd, hbv d hd⟩) ?_⟩
  · rw [hk]
    simp only [List.flatMap_cons, List.flatMap_nil, List.append_nil]
    exact hu
  · rw [List.mem_singleton] at he
    subst he
    refine ⟨hh, hl, fun k hk' => ⟨.inl ?_, (hf k hk').2⟩⟩
    rw [hk]
    simpa using (hf k hk').1
  · rw [hc] at hN
    exact (List.cons.inj hN).1
theorem CtxV.z {q b : Nat} {r : Option Nat} {l : List UInt8} (cx : CtxV ops L a0 w0 bor X0 us D i ρ β W X) (hX : X q = eZ b r l) (hu : (atV us i).contains q = true) : SbZ W b r l := by
  have h := (cx.ok q hu).holds
  rw [hX] at h; exact h
theorem dv_unsafeStrZ {x y : Operand} {t u e : TypeId} {g q q' : Nat} {d : Tmp} {l : List UInt8} (he : e = 5) (h : o.op = .call { callee := .builtin .unsafeString, args := #[x, y], argTypes := #[t, u] }) (ht : P.underlying t = some (.pointer e)) (hce : P.cellsOf e = 1)
    (hx : ρ x = .pointer (some ⟨g, 0, none⟩)) (hy : ρ y = .int .i64 (l.length : Int)) (cx : CtxV ops L a0 w0 bor X0 us D i ρ β W X) (hX : X q = eZr g l) (hu : (atV us i).contains q = true) (hl : l ≠ []) (h63 : l.length ≤ 9223372036854775807)
    (hd : o.dst = some d) (hc : atV cr i = [q']) (hk : atV kl i = [q]) (hD : ∀ (σ β' : Tmp → Value) (X' : Nat → Ent), σ d = .string ⟨l.toArray⟩ → X' q' = eZr g l → D i σ β' X') : DoesU P o ρ W (PostV cr kl D i o.dst ρ β W X) := by
  subst he
  have hz : ZrAt W g l := by
    have h := (cx.ok q hu).holds
    rw [hX] at h; exact h
  obtain ⟨cur, fz, hg, hle, htk⟩ := id hz
  have hcell : ∀ (j : Nat) (x : UInt8), l[j]? = some x → W.cell? ((⟨g, 0, none⟩ : Addr).add j) = some (.int .u8 x.toNat) := fun j x hj => by
    have hjl := (List.getElem?_eq_some_iff.1 hj).1
    rw [Addr.add_lit, Nat.zero_add, cell_of_row W g j cur _ _ hg]
    have h5 : (cur.toList.take l.length)[j]? = (Lib.byteCells l)[j]? := by rw [htk]
    rw [List.getElem?_take, if_pos (by omega)] at h5
    rw [← Array.getElem?_toList, h5]
    simp [Lib.byteCells, hj]
  have hrun := Lib.run_unsafeString_row (P := P) (w := W) t u o.type _ ht hce g cur.size (by unfold World.shape?; rw [hg]) l hl (by omega) h63 hcell
  refine DoesU.value (v := .string ⟨l.toArray⟩) (w' := W.freeze ⟨g, 0, none⟩ l.length) (by
    unfold execOp; rw [h]
    simp only [resolve, invoke, builtin, Sem.run_bind, Sem.run_pure, Result.andThen_ok, List.map_toArray, List.map_cons, List.map_nil, hx, hy, hrun]) ?_
  have hz' := hz.freeze l.length
  exact post_chg (E := eZr g l) (E' := eZr g l) hX hc hk ((Upd.refl _ _).freeze (.inl (by simp [eZr])) _) hz' (eZr_loc g l) (fun k hk' => ⟨hk', by simp [eZr] at hk'; subst hk'; exact hz'.lt⟩) fun σ β' X' _ _ hv hX' => hD σ β' X' (hv d hd).1 hX'
end
theorem St.lentZ {w : World} {b g t : Nat} {cs : Array Value} {l : List UInt8} (hb : Blk w b t cs) (hz : ZrAt w g l) (hne : g ≠ b) : St w [b, g] [eB b t cs, eZr g l] w := by
  refine ⟨Upd.refl _ _, fun x hx => ?_, ?_⟩
  · simp only [List.mem_cons, List.not_mem_nil, or_false] at hx
    rcases hx with rfl | rfl
    · exact ⟨hb, eB_loc _ _ _, fun k hk => ⟨.inl (by simp [eB] at hk; simp [hk]), by simp [eB] at hk; subst hk; exact hb.lt⟩⟩
    · exact ⟨hz, eZr_loc _ _, fun k hk => ⟨.inl (by simp [eZr] at hk; simp [hk]), by simp [eZr] at hk; subst hk; exact hz.lt⟩⟩
  · refine List.pairwise_pair.2 fun k hk hk' => ?_
    simp only [eB, List.mem_cons, List.not_mem_nil, or_false, eZr] at hk hk'
    omega
set_option maxRecDepth 100000 in
set_option maxHeartbeats 2000000 in
theorem sbstr_z (b : Nat) (r : Option Nat) (l : List UInt8) (w : World) (h : SbZ w b r l) (hl : l ≠ []) (h63 : l.length ≤ 1000000) :
    Calls Tryd.prog 93 #[.pointer (some ⟨b, 0, none⟩)] w fun e w' => e = .returned (.string ⟨l.toArray⟩) ∧ SbZ w' b r l ∧ Upd (b :: r.toList) w w' := by
  have hpos : 0 < l.length := List.length_pos_iff.2 hl
  obtain ⟨p, g, c, hb, hz, hlc, hne, rfl⟩ := h
  have st0 := St.lentZ hb hz hne
  show Calls _ _ _ w fun e w' => e = .returned (.string ⟨l.toArray⟩) ∧ SbZ w' b (some g) l ∧ Upd [b, g] w w'
  go_enter Tryd.func93, Tryd.ntmps93
  have hst0 := st0
  refine wp_seq ?_
  refine wp_region_P [0] [.k 2 (.string ⟨#[]⟩)] [(2, 0, 1, 3)] hst0 fun W1 hst1 => ?_
  refine then_normal ?_
  refine wp_seq ?_
  refine wp_region_T [0, 1, 3, 7, 15, 0, 32, 96, 224, 480, 1023, 2047] [[], [], [], [0], [], [], [], [], [0], [], [1]] [[], [], [], [], [], [], [], [], [], [], [2]] [[], [], [], [], [], [], [], [], [], [], [1]] [.k 3 (.pointer (some ⟨b, 0, none⟩)), .k 4 (.pointer (some ⟨b, 0, none⟩)), .k 5 (.pointer (some ⟨b, 1, none⟩)), .c 6 (.slice ((some ⟨g, 0, none⟩)) l.length c), .c 7 (.pointer (some ⟨g, 0, none⟩)), .k 8 (.pointer (some ⟨b, 0, none⟩)), .k 9 (.pointer (some ⟨b, 0, none⟩)), .k 10 (.pointer (some ⟨b, 1, none⟩)), .c 11 (.slice ((some ⟨g, 0, none⟩)) l.length c), .k 12 (.int .i64 ((l.length : Int))), .a 13, .c 2 (.string ((⟨l.toArray⟩ : ByteArray)))] (fun ix σ β X => match ix with | 0 => True | 1 => True | 2 => True | 3 => True | 4 => True | 5 => True | 6 => True | 7 => True | 8 => True | 9 => True | 10 => σ 13 = .string ((⟨l.toArray⟩ : ByteArray)) ∧ X 2 = eZr g l | _ => True) [0, 2] [3, 4, 8, 10, 11] [(2, 11, 1, 3), (0, 0, 11, 11)] hst1 ?_ ?_ ?_
  · exact fun ix _ _ _ _ _ _ hs hb hx h => match ix, h with
    | 10, h => by dsimp only at h ⊢; rw [← hs 13 rfl, ← hx 2 rfl]; exact h
    | 0, _ | 1, _ | 2, _ | 3, _ | 4, _ | 5, _ | 6, _ | 7, _ | 8, _ | 9, _ | _ + 11, _ => trivial
  · refine ⟨?_, ?_, ?_, ?_, ?_, trivial⟩
    · exact s4 rfl (fun _ _ _ h => h) fun cx => run_load1 rfl (by kernel_rfl) (cx.anc 2 rfl) ((cx.blk (cx.init 0 _ rfl) rfl).cell 1)
    · exact s4 rfl (fun _ _ _ h => h) fun cx => run_sliceData rfl (cx.anc 3 rfl) (by omega)
    · exact s4 rfl (fun _ _ _ h => h) fun cx => run_load1 rfl (by kernel_rfl) (cx.anc 7 rfl) ((cx.blk (cx.init 0 _ rfl) rfl).cell 1)
    · refine sv_any rfl rfl fun ρ β W X cx => ?_
      exact dv_unsafeStrZ (e := 5) rfl rfl (by kernel_rfl) (by kernel_rfl) (cx.anc 4 rfl) (cx.anc 9 rfl) cx (cx.init 1 _ rfl) rfl hl (by omega) rfl rfl rfl (fun σ β' X' hs hx => ⟨hs, hx⟩)
    · exact s4 rfl (fun _ _ _ h => h) fun cx => run_assign' rfl (dTn (cx.anc 10 rfl)).1
  intro σ β X W2 hD hX hst2 fr hfr
  simp only [zM, exq 0 (hX 0 _ rfl), exq 2 ((dTn (hD 10 lq)).2)] at hst2
  dsimp only [mgT, vals, List.take, List.drop, List.cons_append, List.nil_append] at hfr
  simp only [ed 13 ((dTn (hD 10 lq)).1)] at hfr
  clear hX hD; subst hfr; clear σ β X
  refine then_normal ?_
  refine wp_ret ?_
  refine bodyPost_ret (v := .string ((⟨l.toArray⟩ : ByteArray))) (results_tmp Tryd.results93 rfl) rfl ?_
  exact ⟨rfl, ⟨p, g, c, (hst2.ok (eB b 143 #[p, .slice (some ⟨g, 0, none⟩) l.length c]) (by simp)).holds, (hst2.ok (eZr g l) (by simp)).holds, hlc, hne, rfl⟩, hst2.upd⟩

/-- a page and an error, the page's items in new memory -/
def PgPost (k l : Int) (ss : List ByteArray) (err : Int) (w : World) (e : Ending) (w' : World) : Prop :=
  ∃ A c, e = .returned (.tuple #[.agg #[.int .i64 k, .int .i64 l, .slice A ss.length c], .int .i64 err]) ∧
    w'.ownsRow w.heap.size 9 1 (.slice A ss.length c) ss.length (ss.map Value.string) ∧ Ext w w'
def PutPost (k l : Int) (ss : List ByteArray) (slot : Int) (s : ByteArray) (w : World) : Ending → World → Prop :=
  if putErr k l ss slot s = 0 then PgPost k l (plainL (withL ss slot.toNat s)) 0 w else PgPost 0 0 [] (putErr k l ss slot s) w
theorem PgPost.zero {err : Int} {w w' : World} (h : Ext w w') : PgPost 0 0 [] err w (.returned (.tuple #[.agg #[.int .i64 0, .int .i64 0, .slice none 0 0], .int .i64 err])) w' :=
  ⟨none, 0, rfl, World.ownsRow_nil _ _ _ _, h⟩
theorem PutPost.bad {k l slot err : Int} {ss : List ByteArray} {s : ByteArray} {w w' : World} (he : putErr k l ss slot s = err) (hne : err ≠ 0) (hx : Ext w w') : PutPost k l ss slot s w (.returned (.tuple #[.agg #[.int .i64 0, .int .i64 0, .slice none 0 0], .int .i64 err])) w' := by
  rw [PutPost, if_neg (by rw [he]; exact hne), he]; exact PgPost.zero hx
theorem PutPost.good {k l slot : Int} {ss : List ByteArray} {s : ByteArray} {w w' : World} {e : Ending} (he : putErr k l ss slot s = 0) (h : PgPost k l (plainL (withL ss slot.toNat s)) 0 w e w') : PutPost k l ss slot s w e w' := by
  rw [PutPost, if_pos he]; exact h
theorem padTo_self (l : List ByteArray) : padTo l l.length = l := by simp [padTo]
theorem padTo_len {l : List ByteArray} {n : Nat} (h : l.length ≤ n) : (padTo l n).length = n := by simp [padTo]; omega
theorem padTo_succ {l : List ByteArray} {n : Nat} (h : l.length ≤ n) : (padTo l n).map Value.string ++ [.string ⟨#[]⟩] = (padTo l (n + 1)).map Value.string := by
  rw [padTo, padTo, show n + 1 - l.length = (n - l.length) + 1 by omega, List.replicate_succ', ← List.append_assoc, List.map_append (l₂ := [ByteArray.empty])]; rfl
theorem padTo_end {l : List ByteArray} {n m : Nat} (h : l.length ≤ n) (hm : m < n) (h2 : n ≤ m + 1 ∨ n = l.length) : padTo l n = padTo l (m + 1) := by
  rcases h2 with h2 | h2
  · rw [show n = m + 1 by omega]
  · rw [h2, padTo, padTo, show l.length - l.length = 0 by omega, show m + 1 - l.length = 0 by omega]
theorem plain_small {ss : List ByteArray} (h : Small ss) : Small (plainL ss) :=
  ⟨Nat.le_trans (by rw [plainL_len]; exact trimN_le ss _) h.1, fun s hs => h.2 s (List.mem_of_mem_take hs)⟩
theorem with_small {ss : List ByteArray} {m : Nat} {s : ByteArray} (h : Small ss) (hm : m < 24) (hs : s.size ≤ 400) (h24 : ss.length ≤ 24) : Small (withL ss m s) := by
  have hp := plain_small h
  have hpl : (plainL ss).length ≤ 24 := Nat.le_trans (by rw [plainL_len]; exact trimN_le ss _) h24
  refine ⟨?_, fun x hx => ?_⟩
  · simp only [withL, padTo, List.length_set, List.length_append, List.length_replicate]; omega
  · rcases List.mem_or_eq_of_mem_set hx with hx | hx
    · rcases List.mem_append.1 hx with hx | hx
      · exact hp.2 x hx
      · rw [List.eq_of_mem_replicate hx]; exact Nat.zero_le _
    · subst hx; omega
theorem withL_pad {ss : List ByteArray} {m : Nat} {s : ByteArray} : (withL ss m s).length = (padTo (plainL ss) (m + 1)).length := by simp [withL]
set_option maxRecDepth 100000 in
set_option maxHeartbeats 2000000 in
theorem pgnew_any (k : Int) (w : World) :
    Calls Tryd.prog 45 #[.int .i64 k] w (Ret (.agg #[.int .i64 k, .int .i64 0, .slice none 0 0]) w) := by
  go_enter Tryd.func45, Tryd.ntmps45
  have hst0 := St.start w
  refine wp_seq ?_
  refine wp_region_T [0] [] [[0]] [] [.a 2] (fun ix σ β X => match ix with | 0 => σ 2 = .pointer (some ⟨(pb (β 2)), 0, none⟩) ∧ X 0 = eB (pb (β 2)) 94 #[.int .i64 0, .int .i64 0, .slice none 0 0] | _ => True) [0] [0] [(2, 0, 1, 3)] hst0 ?_ ?_ ?_
  · exact fun ix _ _ _ _ _ _ hs hb hx h => match ix, h with
    | 0, h => by dsimp only at h ⊢; rw [← hs 2 rfl, ← hb 2 rfl, ← hx 0 rfl]; exact h
    | _ + 1, _ => trivial
  · refine ⟨?_, trivial⟩
    · refine sv_any rfl rfl fun ρ β W X cx => ?_
      exact dv_alloc (cs := #[.int .i64 0, .int .i64 0, .slice none 0 0]) rfl (by kernel_rfl) rfl rfl (fun σ β' X' hs hb hv hx => ⟨hv, hx⟩)
  intro σ β X W1 hD hX hst1 fr hfr
  obtain ⟨B2_1, hu_B2_1⟩ : ∃ z, pb (β 2) = z := ⟨_, rfl⟩
  simp only [zM, exq 0 ((dTn (hD 0 lq)).2), hu_B2_1] at hst1
  dsimp only [mgT, vals, List.take, List.drop, List.cons_append, List.nil_append] at hfr
  simp only [ed 2 ((dTn (hD 0 lq)).1), hu_B2_1] at hfr
  clear hX hD hu_B2_1; subst hfr; clear σ β X
  refine then_normal ?_
  refine wp_seq ?_
  refine wp_region_T [0, 1, 3] [[], [], [0]] [[], [], [1]] [[], [], [0]] [.k 3 (.int .i64 k), .k 4 (.agg #[.int .i64 k, .int .i64 0, .slice none 0 0]), .n] (fun ix σ β X => match ix with | 0 => True | 1 => True | 2 => X 1 = eB B2_1 94 #[.int .i64 k, .int .i64 0, .slice none 0 0] | _ => True) [1] [2] [(3, 0, 2, 5)] hst1 ?_ ?_ ?_
  · exact fun ix _ _ _ _ _ _ hs hb hx h => match ix, h with
    | 2, h => by dsimp only at h ⊢; rw [← hx 1 rfl]; exact h
    | 0, _ | 1, _ | _ + 3, _ => trivial
  · refine ⟨?_, trivial⟩
    · refine sv_any rfl rfl fun ρ β W X cx => ?_
      exact dv_store (n := 3) rfl (cx.out 2 rfl) (cx.anc 1 rfl) (by kernel_rfl) (by kernel_rfl) (by kernel_rfl) cx (cx.init 0 _ rfl) rfl (Nat.le_of_ble_eq_true rfl) (by kernel_rfl) rfl rfl rfl (fun σ β' X' hs hb hx => hx)
  intro σ β X W2 hD hX hst2 fr hfr
  simp only [zM, exq 1 ((dTn (hD 2 lq)))] at hst2
  dsimp only [mgT, vals, List.take, List.drop, List.cons_append, List.nil_append] at hfr
  clear hX hD; subst hfr; clear σ β X
  refine then_normal ?_
  refine wp_ret ?_
  refine bodyPost_ret (v := .agg #[.int .i64 k, .int .i64 0, .slice none 0 0]) (results_cell (n := 3) Tryd.results45 rfl (by kernel_rfl) (by kernel_rfl) (hst2.blk 0 rfl) rfl) rfl ?_
  exact Ret.of rfl hst2.ext

set_option maxRecDepth 100000 in
set_option maxHeartbeats 4000000 in
theorem pgput_any (k l : Int) (A : Option Addr) (c : Nat) (ss : List ByteArray) (slot : Int) (s : ByteArray) (w : World) (hA : At w A (ss.map Value.string)) (hS : Small ss) (hss : s.size ≤ 9223372036854775807) :
    Calls Tryd.prog 46 #[.agg #[.int .i64 k, .int .i64 l, .slice A ss.length c], .int .i64 slot, .string s] w (PutPost k l ss slot s w) := by
  go_enter Tryd.func46, Tryd.ntmps46
  have hst0 := St.start w
  refine wp_seq ?_
  refine wp_region_T [0, 0, 0] [] [[0], [1]] [] [.a 3, .a 6, .k 7 (.int .i64 0)] (fun ix σ β X => match ix with | 0 => σ 3 = .pointer (some ⟨(pb (β 3)), 0, none⟩) ∧ X 0 = eB (pb (β 3)) 94 #[.int .i64 k, .int .i64 l, .slice A ss.length c] | 1 => σ 6 = .pointer (some ⟨(pb (β 6)), 0, none⟩) ∧ X 1 = eB (pb (β 6)) 94 #[.int .i64 0, .int .i64 0, .slice none 0 0] | _ => True) [0, 1] [0, 1] [(3, 0, 1, 4), (2, 1, 2, 4)] hst0 ?_ ?_ ?_
  · exact fun ix _ _ _ _ _ _ hs hb hx h => match ix, h with
    | 0, h => by dsimp only at h ⊢; rw [← hs 3 rfl, ← hb 3 rfl, ← hx 0 rfl]; exact h
    | 1, h => by dsimp only at h ⊢; rw [← hs 6 rfl, ← hb 6 rfl, ← hx 1 rfl]; exact h
    | _ + 2, _ => trivial
  · refine ⟨?_, ?_, trivial⟩
    · refine sv_any rfl rfl fun ρ β W X cx => ?_
      exact dv_box (cs := #[.int .i64 k, .int .i64 l, .slice A ss.length c]) rfl (cx.out 0 rfl) rfl rfl rfl (fun σ β' X' hs hb hv hx => ⟨hv, hx⟩)
    · refine sv_any rfl rfl fun ρ β W X cx => ?_
      exact dv_alloc (cs := #[.int .i64 0, .int .i64 0, .slice none 0 0]) rfl (by kernel_rfl) rfl rfl (fun σ β' X' hs hb hv hx => ⟨hv, hx⟩)
  intro σ β X W1 hD hX hst1 fr hfr
  obtain ⟨B3_1, hu_B3_1⟩ : ∃ z, pb (β 3) = z := ⟨_, rfl⟩
  obtain ⟨B6_1, hu_B6_1⟩ : ∃ z, pb (β 6) = z := ⟨_, rfl⟩
  simp only [zM, exq 0 ((dTn (hD 0 lq)).2), exq 1 ((dTn (hD 1 lq)).2), hu_B3_1, hu_B6_1] at hst1
  dsimp only [mgT, vals, List.take, List.drop, List.cons_append, List.nil_append] at hfr
  simp only [ed 3 ((dTn (hD 0 lq)).1), ed 6 ((dTn (hD 1 lq)).1), hu_B3_1, hu_B6_1] at hfr
  clear hX hD hu_B3_1 hu_B6_1; subst hfr; clear σ β X
  refine then_normal ?_
  refine wp_seq ?_
  refine wp_seq ?_
  refine wp_region_T [0, 1, 3] [[0]] [] [] [.c 9 (.agg #[.int .i64 k, .int .i64 l, .slice A ss.length c]), .c 10 (.bool (rightB k l ss)), .k 11 (.bool (!(rightB k l ss)))] (fun _ _ _ _ => True) [0, 1] [0, 1] [(9, 0, 3, 12)] hst1 ?_ ?_ ?_
  · exact fun _ _ _ _ _ _ _ _ _ _ h => h
  · refine ⟨?_, ?_, trivial⟩
    · exact s4 rfl (fun _ _ _ h => h) fun cx => run_loadB (n := 3) rfl (by kernel_rfl) (by kernel_rfl) (cx.out 3 rfl) (cx.blk (cx.init 0 _ rfl) rfl) (Nat.le_of_ble_eq_true rfl) rfl
    · exact sv_call rfl rfl rfl rfl rfl (fun _ _ _ h => h) fun ρ β W X cx => ⟨_, _, run_callF (args := #[.agg #[.int .i64 k, .int .i64 l, .slice A ss.length c]]) rfl cx.sees rfl (by kernel_rfl) (map1 (cx.anc 0 rfl)), right_any k l _ _ ss _ (hA.ext cx.upd.to_ext) hS⟩
  intro σ β X W2 hD hX hst2 fr hfr
  simp only [zM, exq 0 (hX 0 _ rfl), exq 1 (hX 1 _ rfl)] at hst2
  dsimp only [mgT, vals, List.take, List.drop, List.cons_append, List.nil_append] at hfr
  clear hX hD; subst hfr; clear σ β X
  refine then_normal ?_
  rcases Bool.eq_false_or_eq_true (rightB k l ss) with hs3 | hs3
  · skip
    refine wp_cond_false (show Act.eval _ _ = .bool false from (congrArg Value.bool (by rw [hs3]; rfl))) ?_
    refine wp_skip ?_
    refine then_normal ?_
    refine wp_seq ?_
    refine wp_seq ?_
    refine wp_region_P [0, 1, 3, 7, 15, 31, 63, 127, 255, 511, 1023] [.k 13 (.int .i64 slot), .k 14 (.bool (decide (slot < 0))), .k 15 (.bool (decide (slot < 0))), .z 16 (!(decide (slot < 0))) (.int .i64 slot), .z 17 (!(decide (slot < 0))) (.bool (decide (24 ≤ slot))), tO 18 (decide (slot < 0)) (decide (24 ≤ slot)), .k 19 (.bool ((decide (slot < 0)) || (decide (24 ≤ slot)))), .z 20 (!((decide (slot < 0)) || (decide (24 ≤ slot)))) (.string s), .z 21 (!((decide (slot < 0)) || (decide (24 ≤ slot)))) (.int .i64 ((s.size : Int))), .z 22 (!((decide (slot < 0)) || (decide (24 ≤ slot)))) (.bool (decide (400 < (s.size : Int)))), tO 23 ((decide (slot < 0)) || (decide (24 ≤ slot))) (decide (400 < (s.size : Int)))] [(13, 0, 11, 24)] hst2 fun W4 hst4 => ?_
    refine then_normal ?_
    rcases Bool.eq_false_or_eq_true (((decide (slot < 0)) || (decide (24 ≤ slot))) || (decide (400 < (s.size : Int)))) with hs5 | hs5
    · skip
      have hs5p := hs5
      simp only [zB] at hs5p
      refine wp_cond_true (show Act.eval _ _ = .bool true from (congrArg Value.bool hs5)) ?_
      refine wp_seq ?_
      refine wp_region_T [0, 1, 3] [[], [1]] [[], [2]] [[], [1]] [.k 24 (.agg #[.int .i64 0, .int .i64 0, .slice none 0 0]), .n, .k 7 (.int .i64 21)] (fun ix σ β X => match ix with | 0 => True | 1 => X 2 = eB B6_1 94 #[.int .i64 0, .int .i64 0, .slice none 0 0] | _ => True) [0, 2] [1] [(7, 2, 1, 8), (16, 0, 1, 17)] hst4 ?_ ?_ ?_
      · exact fun ix _ _ _ _ _ _ hs hb hx h => match ix, h with
        | 1, h => by dsimp only at h ⊢; rw [← hx 2 rfl]; exact h
        | 0, _ | _ + 2, _ => trivial
      · refine ⟨?_, trivial⟩
        · refine sv_any rfl rfl fun ρ β W X cx => ?_
          exact dv_store (n := 3) rfl (cx.out 6 rfl) (cx.anc 0 rfl) (by kernel_rfl) (by kernel_rfl) (by kernel_rfl) cx (cx.init 1 _ rfl) rfl (Nat.le_of_ble_eq_true rfl) (by kernel_rfl) rfl rfl rfl (fun σ β' X' hs hb hx => hx)
      intro σ β X W6 hD hX hst6 fr hfr
      simp only [zM, exq 0 (hX 0 _ rfl), exq 2 ((dTn (hD 1 lq)))] at hst6
      dsimp only [mgT, vals, List.take, List.drop, List.cons_append, List.nil_append] at hfr
      clear hX hD; subst hfr; clear σ β X
      refine then_normal ?_
      refine wp_ret ?_
      refine then_ret ?_
      have hr7 : W6.cell? ⟨B6_1, 0, none⟩ = some (.int .i64 0) := (hst6.blk 1 rfl).cell 0
      have hr8 : W6.cell? ⟨B6_1, 1, none⟩ = some (.int .i64 0) := (hst6.blk 1 rfl).cell 1
      have hr9 : W6.cell? ⟨B6_1, 2, none⟩ = some (.slice none 0 0) := (hst6.blk 1 rfl).cell 2
      refine bodyPost_ret (v := .tuple #[.agg #[.int .i64 0, .int .i64 0, .slice none 0 0], .int .i64 21]) (by simp [results, Tryd.results46, go_sem, hr7, hr8, hr9]) rfl ?_
      exact PutPost.bad (by rw [putErr, if_neg (by simp [*]), if_pos (by omega)]) (by decide) hst6.ext
    have hs5p := hs5
    simp only [zB] at hs5p
    obtain ⟨⟨hs5p1, hs5p2⟩, hs5p3⟩ := hs5p
    refine wp_cond_false (show Act.eval _ _ = .bool false from (congrArg Value.bool hs5)) ?_
    refine wp_skip ?_
    refine then_normal ?_
    refine wp_seq ?_
    obtain ⟨m, rfl⟩ : ∃ m : Nat, slot = (m : Int) := ⟨slot.toNat, by omega⟩
    have hm24 : m < 24 := by omega
    have hs4 : s.size ≤ 400 := by omega
    have hpar := right_parts (by assumption : rightB k l ss = true)
    have hl24 : ss.length ≤ 24 := hpar.2.2.1.1
    have hws := with_small hS hm24 hs4 hl24
    refine wp_region_T [0, 1, 3, 7] [[], [0]] [[], [], [2]] [] [.k 25 (.pointer (some ⟨B3_1, 2, none⟩)), .c 26 (.slice A ss.length c), .a 27, .a 8] (fun ix σ β X => match ix with | 0 => True | 1 => True | 2 => σ 27 = .slice (sA (β 27)) ((plainL ss).length) ((plainL ss).length) ∧ X 2 = eO 9 1 (.slice (sA (β 27)) ((plainL ss).length) ((plainL ss).length)) ((plainL ss).length) ((plainL ss).map Value.string) | 3 => σ 8 = .slice (sA (β 27)) ((plainL ss).length) ((plainL ss).length) | _ => True) [0, 1, 2] [1, 2, 3] [(8, 3, 1, 9), (16, 0, 3, 19)] hst4 ?_ ?_ ?_
    · exact fun ix _ _ _ _ _ _ hs hb hx h => match ix, h with
      | 2, h => by dsimp only at h ⊢; rw [← hs 27 rfl, ← hb 27 rfl, ← hx 2 rfl]; exact h
      | 3, h => by dsimp only at h ⊢; rw [← hs 8 rfl, ← hb 27 rfl]; exact h
      | 0, _ | 1, _ | _ + 4, _ => trivial
    · refine ⟨?_, ?_, ?_, trivial⟩
      · exact s4 rfl (fun _ _ _ h => h) fun cx => run_load1 rfl (by kernel_rfl) (cx.anc 0 rfl) ((cx.blk (cx.init 0 _ rfl) rfl).cell 2)
      · refine sv_any rfl rfl fun ρ β W X cx => ?_
        refine DoesU.call (run_callF (args := #[.slice A ss.length c]) rfl cx.sees rfl (by kernel_rfl) (map1 (cx.anc 1 rfl))) ?_
        refine (plain_any _ _ ss _ (hA.ext cx.upd.to_ext) (by have h_ := (hS).1; omega)).mono ?_
        rintro e W1 ⟨rfl, ho, hx⟩
        refine ⟨_, rfl, post_call [eO 9 1 (.slice (some ⟨W.heap.size, 0, none⟩) ((plainL ss).length) ((plainL ss).length)) ((plainL ss).length) ((plainL ss).map Value.string)] rfl rfl hx (one_new (eO_new ho)) (List.pairwise_singleton _ _) (fun σ β' X' hs hb hv hN => ?_)⟩
        have hv1 := (hv 27 rfl).1; have hv2 := (hv 27 rfl).2
        exact ⟨hv1.trans (by rw [hv2]; rfl), (by rw [hv2]; exact (List.cons.inj hN).1)⟩
      · exact sv rfl rfl rfl rfl rfl _ (fun _ _ _ h => h) (fun β β' h => by rw [h 27 (by decide)]) fun ρ β W X cx => run_assign' rfl (dTn (cx.anc 2 rfl)).1
    intro σ β X W10 hD hX hst10 fr hfr
    obtain ⟨A27_10, hu_A27_10⟩ : ∃ z, sA (β 27) = z := ⟨_, rfl⟩
    simp only [zM, exq 0 (hX 0 _ rfl), exq 1 (hX 1 _ rfl), exq 2 ((dTn (hD 2 lq)).2), hu_A27_10] at hst10
    dsimp only [mgT, vals, List.take, List.drop, List.cons_append, List.nil_append] at hfr
    simp only [ed 27 ((dTn (hD 2 lq)).1), ed 8 ((dTn (hD 3 lq))), hu_A27_10] at hfr
    clear hX hD hu_A27_10; subst hfr; clear σ β X
    refine then_normal ?_
    refine wp_seq ?_
    refine wp_block ?_
    obtain ⟨pl, hpl⟩ : ∃ z, plainL ss = z := ⟨_, rfl⟩
    have hpl24 : pl.length ≤ 24 := by rw [← hpl, plainL_len]; exact Nat.le_trans (trimN_le ss _) hl24
    rw [hpl] at hst10
    rw [show eO 9 1 (.slice A27_10 pl.length pl.length) pl.length (pl.map Value.string) = eO 9 1 (.slice A27_10 pl.length pl.length) pl.length ((padTo pl pl.length).map Value.string) from by rw [padTo_self]] at hst10
    refine wp_loopN (fun mz az W => ∃ j : Nat, ∃ RA : Option Addr, ∃ RC : Nat, ∃ u11_ : List Value, pl.length ≤ j ∧ (j ≤ m + 1 ∨ j = pl.length) ∧ mz = m + 1 - j ∧ az = ⟨#[.agg #[.int .i64 k, .int .i64 l, .slice A ss.length c], .int .i64 ((m : Int)), .string s, .pointer (some ⟨B3_1, 0, none⟩), undef, undef, .pointer (some ⟨B6_1, 0, none⟩), .int .i64 0, .slice RA j RC, .agg #[.int .i64 k, .int .i64 l, .slice A ss.length c], .bool (rightB k l ss), .bool (!(rightB k l ss)), undef, .int .i64 ((m : Int)), .bool (decide ((m : Int) < 0)), .bool (decide ((m : Int) < 0)), mb (!(decide ((m : Int) < 0))) (.int .i64 (m : Int)), mb (!(decide ((m : Int) < 0))) (.bool (decide (24 ≤ (m : Int)))), .bool ((decide ((m : Int) < 0)) || (decide (24 ≤ (m : Int)))), .bool ((decide ((m : Int) < 0)) || (decide (24 ≤ (m : Int)))), mb (!((decide ((m : Int) < 0)) || (decide (24 ≤ (m : Int))))) (.string s), mb (!((decide ((m : Int) < 0)) || (decide (24 ≤ (m : Int))))) (.int .i64 ((s.size : Int))), mb (!((decide ((m : Int) < 0)) || (decide (24 ≤ (m : Int))))) (.bool (decide (400 < (s.size : Int)))), .bool (((decide ((m : Int) < 0)) || (decide (24 ≤ (m : Int)))) || (decide (400 < (s.size : Int)))), undef, .pointer (some ⟨B3_1, 2, none⟩), .slice A ss.length c, .slice A27_10 ((plainL ss).length) ((plainL ss).length), (u11_.getD 0 undef), (u11_.getD 1 undef), (u11_.getD 2 undef), (u11_.getD 3 undef), (u11_.getD 4 undef), (u11_.getD 5 undef), (u11_.getD 6 undef), undef, undef, undef, undef, undef, undef, undef, undef, undef, undef, undef, undef, undef, undef, undef], []⟩ ∧ St w [] [eB B3_1 94 #[.int .i64 k, .int .i64 l, .slice A ss.length c], eB B6_1 94 #[.int .i64 0, .int .i64 0, .slice none 0 0], eO 9 1 (.slice RA j RC) j ((padTo pl j).map Value.string)] W) (m + 1 - pl.length) ?_ ?_
    · -- the loop begins
      have hp12 := hst10.pick [0, 1, 2] (by decide) rfl
      exact ⟨pl.length, A27_10, pl.length, [undef, undef, undef, undef, undef, undef, undef], Nat.le_refl _, .inr rfl, rfl, (by rw [hpl]; rfl), hp12⟩
    rintro n11 a11 W11 ⟨j, RA, RC, u11_, hj, hj2, rfl, rfl, hst11⟩
    refine wp_seq ?_
    refine wp_seq ?_
    refine wp_region_P [0, 1, 0, 7] [.k 28 (.slice RA j RC), .k 29 (.int .i64 ((j : Int))), .k 30 (.int .i64 ((m : Int))), .k 31 (.bool (decide ((j : Int) ≤ (m : Int))))] [(28, 0, 4, 32)] hst11 fun W13 hst13 => ?_
    refine then_normal ?_
    rcases Bool.eq_false_or_eq_true (decide ((j : Int) ≤ (m : Int))) with hs14 | hs14
    · skip
      have hs14p : (j : Int) ≤ (m : Int) := by simpa using hs14
      refine wp_cond_true (show Act.eval _ _ = .bool true from (congrArg Value.bool hs14)) ?_
      refine wp_skip ?_
      refine then_normal ?_
      refine wp_block ?_
      refine wp_region_T [0, 0, 3, 7] [[], [], [3, 2]] [[], [3], [4]] [[], [], [2]] [.k 32 (.slice RA j RC), .a 33, .a 34, .a 8] (fun ix σ β X => match ix with | 0 => True | 1 => σ 33 = .slice (sA (β 33)) 1 1 ∧ X 3 = eO 9 1 (.slice (sA (β 33)) 1 1) 1 ([.string ⟨#[]⟩]) | 2 => σ 34 = .slice (sA (β 34)) (j + 1) (sC (β 34)) ∧ X 4 = eO 9 1 (.slice (sA (β 34)) (j + 1) (sC (β 34))) (j + 1) ((padTo pl (j + 1)).map Value.string) | 3 => σ 8 = .slice (sA (β 34)) (j + 1) (sC (β 34)) | _ => True) [0, 1, 3, 4] [1, 2, 3] [(8, 3, 1, 9), (23, 0, 3, 26)] hst13 ?_ ?_ ?_
      · exact fun ix _ _ _ _ _ _ hs hb hx h => match ix, h with
        | 1, h => by dsimp only at h ⊢; rw [← hs 33 rfl, ← hb 33 rfl, ← hx 3 rfl]; exact h
        | 2, h => by dsimp only at h ⊢; rw [← hs 34 rfl, ← hb 34 rfl, ← hx 4 rfl]; exact h
        | 3, h => by dsimp only at h ⊢; rw [← hs 8 rfl, ← hb 34 rfl]; exact h
        | 0, _ | _ + 4, _ => trivial
      · refine ⟨?_, ?_, ?_, trivial⟩
        · refine sv_any rfl rfl fun ρ β W X cx => ?_
          exact dv_lit (e := 9) (xs := [.string ⟨#[]⟩]) rfl (by simp [go_sem, cx.sees.const]) rfl (by decide) rfl rfl (fun σ β' X' hs hb hv hx => ⟨hv, hx⟩)
        · refine sv_any rfl rfl fun ρ β W X cx => ?_
          obtain ⟨i0, hi0, hz0, hz1, hz2⟩ := info_parts Tryd.infoStr
          refine dv_append (n := j) (m := 1) (nm := j + 1) (xs := (padTo pl j).map Value.string) (news := [.string ⟨#[]⟩]) (xs' := (padTo pl (j + 1)).map Value.string) rfl (ty := 92) rfl (by kernel_rfl) hi0 hz0 hz1 hz2 rfl (cx.anc 0 rfl) cx (cx.init 2 _ rfl) rfl (dTn (cx.anc 1 rfl)).1 (by first | (simp; done) | (simp; omega)) (At.of_own (cx.row (dTn (cx.anc 1 rfl)).2 rfl)) (by simp [Value.oneCell']) (by simp only [maxLen]; omega) (by omega) rfl rfl rfl (by omega) (padTo_succ hj) (fun σ β' X' hs hb hv hx => ?_)
          exact ⟨hv, hx⟩
        · exact sv rfl rfl rfl rfl rfl _ (fun _ _ _ h => h) (fun β β' h => by rw [h 34 (by decide)]) fun ρ β W X cx => run_assign' rfl (dTn (cx.anc 2 rfl)).1
      intro σ β X W15 hD hX hst15 fr hfr
      obtain ⟨A33_15, hu_A33_15⟩ : ∃ z, sA (β 33) = z := ⟨_, rfl⟩
      obtain ⟨A34_15, hu_A34_15⟩ : ∃ z, sA (β 34) = z := ⟨_, rfl⟩
      obtain ⟨c34_15, hu_c34_15⟩ : ∃ z, sC (β 34) = z := ⟨_, rfl⟩
      simp only [zM, exq 0 (hX 0 _ rfl), exq 1 (hX 1 _ rfl), exq 3 ((dTn (hD 1 lq)).2), exq 4 ((dTn (hD 2 lq)).2), hu_A33_15, hu_A34_15, hu_c34_15] at hst15
      dsimp only [mgT, vals, List.take, List.drop, List.cons_append, List.nil_append] at hfr
      simp only [ed 33 ((dTn (hD 1 lq)).1), ed 34 ((dTn (hD 2 lq)).1), ed 8 ((dTn (hD 3 lq))), hu_A33_15, hu_A34_15, hu_c34_15] at hfr
      clear hX hD hu_A33_15 hu_A34_15 hu_c34_15; subst hfr; clear σ β X
      refine blk_normal ?_
      refine then_normal ?_
      refine ⟨m + 1 - ((j + 1)), by omega, ?_⟩
      have hp16 := hst15.pick [0, 1, 3] (by decide) rfl
      exact ⟨(j + 1), A34_15, c34_15, [.slice RA j RC, .int .i64 ((j : Int)), .int .i64 ((m : Int)), .bool (decide ((j : Int) ≤ (m : Int))), .slice RA j RC, .slice A33_15 1 1, .slice A34_15 (j + 1) c34_15], by omega, by omega, rfl, rfl, hp16⟩
    have hs14p : ¬ ((j : Int) ≤ (m : Int)) := by simpa using hs14
    refine wp_cond_false (show Act.eval _ _ = .bool false from (congrArg Value.bool hs14)) ?_
    refine wp_exit ?_
    refine then_exit ?_
    refine then_exit ?_
    refine blk_eq ?_
    refine then_normal ?_
    refine wp_seq ?_
    have hje := padTo_end hj (show m < j by omega) hj2
    have hjl := padTo_len hj
    rw [hje] at hst13
    rw [hje] at hjl
    refine wp_region_T [0, 0, 0, 7, 15] [[], [], [], [2], [2]] [[], [], [], [], [3]] [[], [], [], [], [2]] [.k 35 (.slice RA j RC), .k 36 (.int .i64 ((m : Int))), .k 37 (.string s), .c 38 (.pointer (some ((ad RA).add m))), .n] (fun ix σ β X => match ix with | 0 => True | 1 => True | 2 => True | 3 => True | 4 => X 3 = eO 9 1 (.slice RA j RC) j ((withL ss m s).map Value.string) | _ => True) [0, 1, 3] [3, 4] [(35, 0, 4, 39)] hst13 ?_ ?_ ?_
    · exact fun ix _ _ _ _ _ _ hs hb hx h => match ix, h with
      | 4, h => by dsimp only at h ⊢; rw [← hx 3 rfl]; exact h
      | 0, _ | 1, _ | 2, _ | 3, _ | _ + 5, _ => trivial
    · refine ⟨?_, ?_, trivial⟩
      · exact s4 rfl (fun _ _ _ h => h) fun cx => run_indexSl (e := 9) (m := m) rfl (by kernel_rfl) (by kernel_rfl) (cx.anc 0 rfl) (cx.anc 1 rfl) (by omega) (by omega) (At.of_own (cx.row (cx.init 2 _ rfl) rfl)) ((by simp only [List.length_map]; exact hjl))
      · refine sv_any rfl rfl fun ρ β W X cx => ?_
        exact dv_storeRow (m := m) (n := j) rfl (cx.anc 3 rfl) (cx.anc 2 rfl) (by kernel_rfl) rfl rfl cx (cx.init 2 _ rfl) rfl (by omega) rfl (by rw [← List.map_set, ← hpl]; rfl) rfl rfl (fun σ β' X' hs hb hx => hx)
    intro σ β X W17 hD hX hst17 fr hfr
    simp only [zM, exq 0 (hX 0 _ rfl), exq 1 (hX 1 _ rfl), exq 3 ((dTn (hD 4 lq)))] at hst17
    dsimp only [mgT, vals, List.take, List.drop, List.cons_append, List.nil_append] at hfr
    clear hX hD; subst hfr; clear σ β X
    refine then_normal ?_
    refine wp_seq ?_
    refine wp_seq ?_
    have hwl : (withL ss m s).length = j := by rw [withL_pad, hpl]; exact hjl
    subst hwl
    refine wp_region_T [0, 1, 3] [[], [2]] [] [] [.k 39 (.slice RA ((withL ss m s).length) RC), .c 40 (.int .i64 ((sizeL (withL ss m s) : Int))), .k 41 (.bool (decide (512 < (sizeL (withL ss m s) : Int))))] (fun _ _ _ _ => True) [0, 1, 2] [1] [(39, 0, 3, 42)] hst17 ?_ ?_ ?_
    · exact fun _ _ _ _ _ _ _ _ _ _ h => h
    · refine ⟨?_, trivial⟩
      · exact sv_call rfl rfl rfl rfl rfl (fun _ _ _ h => h) fun ρ β W X cx => ⟨_, _, run_callF (args := #[.slice RA ((withL ss m s).length) RC]) rfl cx.sees rfl (by kernel_rfl) (map1 (cx.anc 0 rfl)), size_any _ _ (withL ss m s) _ (At.of_own (cx.row (cx.init 2 _ rfl) rfl)) hws⟩
    intro σ β X W18 hD hX hst18 fr hfr
    simp only [zM, exq 0 (hX 0 _ rfl), exq 1 (hX 1 _ rfl), exq 2 (hX 2 _ rfl)] at hst18
    dsimp only [mgT, vals, List.take, List.drop, List.cons_append, List.nil_append] at hfr
    clear hX hD; subst hfr; clear σ β X
    refine then_normal ?_
    rcases Bool.eq_false_or_eq_true (decide (512 < (sizeL (withL ss m s) : Int))) with hs19 | hs19
    · skip
      have hs19p : 512 < (sizeL (withL ss m s) : Int) := by simpa using hs19
      refine wp_cond_true (show Act.eval _ _ = .bool true from (congrArg Value.bool hs19)) ?_
      refine wp_seq ?_
      refine wp_region_T [0, 1, 3] [[], [1]] [[], [3]] [[], [1]] [.k 42 (.agg #[.int .i64 0, .int .i64 0, .slice none 0 0]), .n, .k 7 (.int .i64 20)] (fun ix σ β X => match ix with | 0 => True | 1 => X 3 = eB B6_1 94 #[.int .i64 0, .int .i64 0, .slice none 0 0] | _ => True) [0, 2, 3] [1] [(7, 2, 1, 8), (34, 0, 1, 35)] hst18 ?_ ?_ ?_
      · exact fun ix _ _ _ _ _ _ hs hb hx h => match ix, h with
        | 1, h => by dsimp only at h ⊢; rw [← hx 3 rfl]; exact h
        | 0, _ | _ + 2, _ => trivial
      · refine ⟨?_, trivial⟩
        · refine sv_any rfl rfl fun ρ β W X cx => ?_
          exact dv_store (n := 3) rfl (cx.out 6 rfl) (cx.anc 0 rfl) (by kernel_rfl) (by kernel_rfl) (by kernel_rfl) cx (cx.init 1 _ rfl) rfl (Nat.le_of_ble_eq_true rfl) (by kernel_rfl) rfl rfl rfl (fun σ β' X' hs hb hx => hx)
      intro σ β X W20 hD hX hst20 fr hfr
      simp only [zM, exq 0 (hX 0 _ rfl), exq 2 (hX 2 _ rfl), exq 3 ((dTn (hD 1 lq)))] at hst20
      dsimp only [mgT, vals, List.take, List.drop, List.cons_append, List.nil_append] at hfr
      clear hX hD; subst hfr; clear σ β X
      refine then_normal ?_
      refine wp_ret ?_
      refine then_ret ?_
      have hr21 : W20.cell? ⟨B6_1, 0, none⟩ = some (.int .i64 0) := (hst20.blk 2 rfl).cell 0
      have hr22 : W20.cell? ⟨B6_1, 1, none⟩ = some (.int .i64 0) := (hst20.blk 2 rfl).cell 1
      have hr23 : W20.cell? ⟨B6_1, 2, none⟩ = some (.slice none 0 0) := (hst20.blk 2 rfl).cell 2
      refine bodyPost_ret (v := .tuple #[.agg #[.int .i64 0, .int .i64 0, .slice none 0 0], .int .i64 20]) (by simp [results, Tryd.results46, go_sem, hr21, hr22, hr23]) rfl ?_
      exact PutPost.bad (by rw [putErr, if_neg (by simp [*]), if_neg (by omega), if_pos (by rw [Int.toNat_natCast]; omega)]) (by decide) hst20.ext
    have hs19p : ¬ (512 < (sizeL (withL ss m s) : Int)) := by simpa using hs19
    refine wp_cond_false (show Act.eval _ _ = .bool false from (congrArg Value.bool hs19)) ?_
    refine wp_skip ?_
    refine then_normal ?_
    refine wp_seq ?_
    refine wp_region_T [0, 1, 0, 4, 0, 16, 63, 127, 255] [[], [0], [], [0], [], [2], [], [1]] [[], [], [], [], [], [3], [], [4]] [[], [], [], [], [], [], [], [1]] [.k 43 (.pointer (some ⟨B3_1, 0, none⟩)), .c 44 (.int .i64 k), .k 45 (.pointer (some ⟨B3_1, 1, none⟩)), .c 46 (.int .i64 l), .k 47 (.slice RA ((withL ss m s).length) RC), .a 48, .a 49, .n, .k 7 (.int .i64 0)] (fun ix σ β X => match ix with | 0 => True | 1 => True | 2 => True | 3 => True | 4 => True | 5 => σ 48 = .slice (sA (β 48)) ((plainL (withL ss m s)).length) ((plainL (withL ss m s)).length) ∧ X 3 = eO 9 1 (.slice (sA (β 48)) ((plainL (withL ss m s)).length) ((plainL (withL ss m s)).length)) ((plainL (withL ss m s)).length) ((plainL (withL ss m s)).map Value.string) | 6 => σ 49 = .agg #[.int .i64 k, .int .i64 l, .slice (sA (β 48)) ((plainL (withL ss m s)).length) ((plainL (withL ss m s)).length)] | 7 => X 4 = eB B6_1 94 #[.int .i64 k, .int .i64 l, .slice (sA (β 48)) ((plainL (withL ss m s)).length) ((plainL (withL ss m s)).length)] | _ => True) [0, 2, 3, 4] [1, 3, 5, 6, 7] [(7, 8, 1, 8), (35, 0, 7, 42)] hst18 ?_ ?_ ?_
    · exact fun ix _ _ _ _ _ _ hs hb hx h => match ix, h with
      | 5, h => by dsimp only at h ⊢; rw [← hs 48 rfl, ← hb 48 rfl, ← hx 3 rfl]; exact h
      | 6, h => by dsimp only at h ⊢; rw [← hs 49 rfl, ← hb 48 rfl]; exact h
      | 7, h => by dsimp only at h ⊢; rw [← hb 48 rfl, ← hx 4 rfl]; exact h
      | 0, _ | 1, _ | 2, _ | 3, _ | 4, _ | _ + 8, _ => trivial
    · refine ⟨?_, ?_, ?_, ?_, ?_, trivial⟩
      · exact s4 rfl (fun _ _ _ h => h) fun cx => run_load1 rfl (by kernel_rfl) (cx.anc 0 rfl) ((cx.blk (cx.init 0 _ rfl) rfl).cell 0)
      · exact s4 rfl (fun _ _ _ h => h) fun cx => run_load1 rfl (by kernel_rfl) (cx.anc 2 rfl) ((cx.blk (cx.init 0 _ rfl) rfl).cell 1)
      · refine sv_any rfl rfl fun ρ β W X cx => ?_
        refine DoesU.call (run_callF (args := #[.slice RA ((withL ss m s).length) RC]) rfl cx.sees rfl (by kernel_rfl) (map1 (cx.anc 4 rfl))) ?_
        refine (plain_any _ _ (withL ss m s) _ (At.of_own (cx.row (cx.init 2 _ rfl) rfl)) (by have h_ := (hws).1; omega)).mono ?_
        rintro e W1 ⟨rfl, ho, hx⟩
        refine ⟨_, rfl, post_call [eO 9 1 (.slice (some ⟨W.heap.size, 0, none⟩) ((plainL (withL ss m s)).length) ((plainL (withL ss m s)).length)) ((plainL (withL ss m s)).length) ((plainL (withL ss m s)).map Value.string)] rfl rfl hx (one_new (eO_new ho)) (List.pairwise_singleton _ _) (fun σ β' X' hs hb hv hN => ?_)⟩
        have hv1 := (hv 48 rfl).1; have hv2 := (hv 48 rfl).2
        exact ⟨hv1.trans (by rw [hv2]; rfl), (by rw [hv2]; exact (List.cons.inj hN).1)⟩
      · exact sv rfl rfl rfl rfl rfl _ (fun _ _ _ h => h) (fun β β' h => by rw [h 48 (by decide)]) fun ρ β W X cx => run_buildL rfl (pmc (cx.anc 1 rfl) (pmc (cx.anc 3 rfl) (pmc (dTn (cx.anc 5 rfl)).1 pmn))) (by kernel_rfl)
      · refine sv_any rfl rfl fun ρ β W X cx => ?_
        exact dv_store (n := 3) rfl (cx.out 6 rfl) (dTn (cx.anc 6 rfl)) (by kernel_rfl) (by kernel_rfl) (by kernel_rfl) cx (cx.init 1 _ rfl) rfl (Nat.le_of_ble_eq_true rfl) (by kernel_rfl) rfl rfl rfl (fun σ β' X' hs hb hx => by rw [hb 48]; exact hx)
    intro σ β X W24 hD hX hst24 fr hfr
    obtain ⟨A48_24, hu_A48_24⟩ : ∃ z, sA (β 48) = z := ⟨_, rfl⟩
    simp only [zM, exq 0 (hX 0 _ rfl), exq 2 (hX 2 _ rfl), exq 3 ((dTn (hD 5 lq)).2), exq 4 ((dTn (hD 7 lq))), hu_A48_24] at hst24
    dsimp only [mgT, vals, List.take, List.drop, List.cons_append, List.nil_append] at hfr
    simp only [ed 48 ((dTn (hD 5 lq)).1), ed 49 ((dTn (hD 6 lq))), hu_A48_24] at hfr
    clear hX hD hu_A48_24; subst hfr; clear σ β X
    refine then_normal ?_
    refine wp_ret ?_
    have hr25 : W24.cell? ⟨B6_1, 0, none⟩ = some (.int .i64 k) := (hst24.blk 3 rfl).cell 0
    have hr26 : W24.cell? ⟨B6_1, 1, none⟩ = some (.int .i64 l) := (hst24.blk 3 rfl).cell 1
    have hr27 : W24.cell? ⟨B6_1, 2, none⟩ = some (.slice A48_24 ((plainL (withL ss m s)).length) ((plainL (withL ss m s)).length)) := (hst24.blk 3 rfl).cell 2
    refine bodyPost_ret (v := .tuple #[.agg #[.int .i64 k, .int .i64 l, .slice A48_24 ((plainL (withL ss m s)).length) ((plainL (withL ss m s)).length)], .int .i64 0]) (by simp [results, Tryd.results46, go_sem, hr25, hr26, hr27]) rfl ?_
    exact PutPost.good (by rw [putErr, if_neg (by simp [*]), if_neg (by omega), if_neg (by rw [Int.toNat_natCast]; omega)]) ⟨_, _, by rw [Int.toNat_natCast], by rw [Int.toNat_natCast]; exact hst24.own' 2 rfl, hst24.ext⟩
  refine wp_cond_true (show Act.eval _ _ = .bool true from (congrArg Value.bool (by rw [hs3]; rfl))) ?_
  refine wp_seq ?_
  refine wp_region_T [0, 1, 3] [[], [1]] [[], [2]] [[], [1]] [.k 12 (.agg #[.int .i64 0, .int .i64 0, .slice none 0 0]), .n, .k 7 (.int .i64 22)] (fun ix σ β X => match ix with | 0 => True | 1 => X 2 = eB B6_1 94 #[.int .i64 0, .int .i64 0, .slice none 0 0] | _ => True) [0, 2] [1] [(7, 2, 1, 8), (4, 0, 1, 5)] hst2 ?_ ?_ ?_
  · exact fun ix _ _ _ _ _ _ hs hb hx h => match ix, h with
    | 1, h => by dsimp only at h ⊢; rw [← hx 2 rfl]; exact h
    | 0, _ | _ + 2, _ => trivial
  · refine ⟨?_, trivial⟩
    · refine sv_any rfl rfl fun ρ β W X cx => ?_
      exact dv_store (n := 3) rfl (cx.out 6 rfl) (cx.anc 0 rfl) (by kernel_rfl) (by kernel_rfl) (by kernel_rfl) cx (cx.init 1 _ rfl) rfl (Nat.le_of_ble_eq_true rfl) (by kernel_rfl) rfl rfl rfl (fun σ β' X' hs hb hx => hx)
  intro σ β X W28 hD hX hst28 fr hfr
  simp only [zM, exq 0 (hX 0 _ rfl), exq 2 ((dTn (hD 1 lq)))] at hst28
  dsimp only [mgT, vals, List.take, List.drop, List.cons_append, List.nil_append] at hfr
  clear hX hD; subst hfr; clear σ β X
  refine then_normal ?_
  refine wp_ret ?_
  refine then_ret ?_
  have hr29 : W28.cell? ⟨B6_1, 0, none⟩ = some (.int .i64 0) := (hst28.blk 1 rfl).cell 0
  have hr30 : W28.cell? ⟨B6_1, 1, none⟩ = some (.int .i64 0) := (hst28.blk 1 rfl).cell 1
  have hr31 : W28.cell? ⟨B6_1, 2, none⟩ = some (.slice none 0 0) := (hst28.blk 1 rfl).cell 2
  refine bodyPost_ret (v := .tuple #[.agg #[.int .i64 0, .int .i64 0, .slice none 0 0], .int .i64 22]) (by simp [results, Tryd.results46, go_sem, hr29, hr30, hr31]) rfl ?_
  exact PutPost.bad (by rw [putErr, if_pos (by assumption)]) (by decide) hst28.ext


theorem SbAt.is {w : World} {b : Nat} {r : Option Nat} {xs : List Value} (h : SbAt w b r xs) : Lib.IsBuilderF 143 5 0 b xs w := by
  obtain ⟨p, v, h2, h3, h4, h5⟩ := h
  have hne := own_ne h4 h2 (by decide)
  refine Lib.IsBuilderF.of ?_
  rcases h3 with rfl | rfl
  · exact .inl ⟨Nat.zero_le _, v, h2, h4, hne⟩
  · exact .inr ⟨Nat.zero_le _, v, h2, h4, hne⟩
theorem sblen_l (b : Nat) (r : Option Nat) (l : List UInt8) (w : World) (h : SbAt w b r (Lib.byteCells l)) : Calls Tryd.prog 91 #[.pointer (some ⟨b, 0, none⟩)] w (Ret (.int .i64 (l.length : Int)) w) :=
  (Tryd.Builder_Len_f 0 b _ w h.is).mono fun _ _ h => ⟨by rw [h.1, byteCells_len], by rw [h.2]; exact Ext.refl _⟩
theorem repeatL_zero (n : Nat) : Lib.repeatL [0] n = List.replicate n (0 : UInt8) := by
  induction n with
  | zero => rfl
  | succ n ih => rw [Lib.repeatL, ih, List.replicate_succ]; rfl
def zerosS (n : Nat) : ByteArray := ⟨(List.replicate n (0 : UInt8)).toArray⟩
theorem zerosS_l (n : Nat) : (zerosS n).data.toList = List.replicate n 0 := rfl
theorem zerosS_size (n : Nat) : (zerosS n).size = n := by simp [zerosS, ByteArray.size]
theorem repz_any (n : Nat) (w : World) (h : n ≤ 1000000) : Calls Tryd.prog 90 #[.string ⟨#[0]⟩, .int .i64 (n : Int)] w (Ret (.string (zerosS n)) w) := by
  refine (Tryd.strings_Repeat ⟨#[0]⟩ n w (by omega) (by show 1 * n ≤ _; omega)).mono ?_
  rintro e w' ⟨rfl, hx⟩
  refine ⟨?_, hx⟩
  have e1 : (⟨#[0]⟩ : ByteArray).data.toList = [0] := rfl
  rw [e1, repeatL_zero]; rfl
theorem repz_n (x : Int) (n : Nat) (w : World) (h : n ≤ 1000000) (hx : x = n) : Calls Tryd.prog 90 #[.string ⟨#[0]⟩, .int .i64 x] w (Ret (.string (zerosS n)) w) := by
  rw [hx]; exact repz_any n w h
theorem textO_le {s : ByteArray} (h : s.size ≤ 400) : (textO s).size ≤ 402 := by
  have := putS_size (s.size : Int) 2 (by omega)
  rw [textO, ByteArray.size_append, this]; omega
/-- a page's bytes, or none and the error -/
def BytesPost (k l : Int) (ss : List ByteArray) (w : World) : Ending → World → Prop :=
  if rightB k l ss = true then Ret (.tuple #[.string (bytesF k l (plainL ss)), .int .i64 0]) w else Ret (.tuple #[.string ⟨#[]⟩, .int .i64 22]) w
theorem fin_bytes {k l : Int} {ss : List ByteArray} {w w' : World} (hr : rightB k l ss = true) (hx : Ext w w') : BytesPost k l ss w (.returned (.tuple #[.string (putS (sumF (baOf (bodyL k l (plainL ss))) : Int) 4 ++ baOf (bodyL k l (plainL ss))), .int .i64 0])) w' := by
  rw [BytesPost, if_pos hr]; exact ⟨rfl, hx⟩
set_option maxRecDepth 100000 in
set_option maxHeartbeats 4000000 in
theorem pgbytes_any (k l : Int) (A : Option Addr) (c : Nat) (ss : List ByteArray) (w : World) (hA : At w A (ss.map Value.string)) (hS : Small ss) :
    Calls Tryd.prog 47 #[.agg #[.int .i64 k, .int .i64 l, .slice A ss.length c]] w (BytesPost k l ss w) := by
  go_enter Tryd.func47, Tryd.ntmps47
  have hst0 := St.start w
  refine wp_seq ?_
  refine wp_region_T [0, 0, 2] [] [[0]] [] [.a 1, .k 2 (.string ⟨#[]⟩), .k 3 (.int .i64 0)] (fun ix σ β X => match ix with | 0 => σ 1 = .pointer (some ⟨(pb (β 1)), 0, none⟩) ∧ X 0 = eB (pb (β 1)) 94 #[.int .i64 k, .int .i64 l, .slice A ss.length c] | _ => True) [0] [0] [(1, 0, 3, 4)] hst0 ?_ ?_ ?_
  · exact fun ix _ _ _ _ _ _ hs hb hx h => match ix, h with
    | 0, h => by dsimp only at h ⊢; rw [← hs 1 rfl, ← hb 1 rfl, ← hx 0 rfl]; exact h
    | _ + 1, _ => trivial
  · refine ⟨?_, trivial⟩
    · refine sv_any rfl rfl fun ρ β W X cx => ?_
      exact dv_box (cs := #[.int .i64 k, .int .i64 l, .slice A ss.length c]) rfl (cx.out 0 rfl) rfl rfl rfl (fun σ β' X' hs hb hv hx => ⟨hv, hx⟩)
  intro σ β X W1 hD hX hst1 fr hfr
  obtain ⟨B1_1, hu_B1_1⟩ : ∃ z, pb (β 1) = z := ⟨_, rfl⟩
  simp only [zM, exq 0 ((dTn (hD 0 lq)).2), hu_B1_1] at hst1
  dsimp only [mgT, vals, List.take, List.drop, List.cons_append, List.nil_append] at hfr
  simp only [ed 1 ((dTn (hD 0 lq)).1), hu_B1_1] at hfr
  clear hX hD hu_B1_1; subst hfr; clear σ β X
  refine then_normal ?_
  refine wp_seq ?_
  refine wp_seq ?_
  refine wp_region_T [0, 1, 3] [[0]] [] [] [.c 8 (.agg #[.int .i64 k, .int .i64 l, .slice A ss.length c]), .c 9 (.bool (rightB k l ss)), .k 10 (.bool (!(rightB k l ss)))] (fun _ _ _ _ => True) [0] [0, 1] [(8, 0, 3, 11)] hst1 ?_ ?_ ?_
  · exact fun _ _ _ _ _ _ _ _ _ _ h => h
  · refine ⟨?_, ?_, trivial⟩
    · exact s4 rfl (fun _ _ _ h => h) fun cx => run_loadB (n := 3) rfl (by kernel_rfl) (by kernel_rfl) (cx.out 1 rfl) (cx.blk (cx.init 0 _ rfl) rfl) (Nat.le_of_ble_eq_true rfl) rfl
    · exact sv_call rfl rfl rfl rfl rfl (fun _ _ _ h => h) fun ρ β W X cx => ⟨_, _, run_callF (args := #[.agg #[.int .i64 k, .int .i64 l, .slice A ss.length c]]) rfl cx.sees rfl (by kernel_rfl) (map1 (cx.anc 0 rfl)), right_any k l _ _ ss _ (hA.ext cx.upd.to_ext) hS⟩
  intro σ β X W2 hD hX hst2 fr hfr
  simp only [zM, exq 0 (hX 0 _ rfl)] at hst2
  dsimp only [mgT, vals, List.take, List.drop, List.cons_append, List.nil_append] at hfr
  clear hX hD; subst hfr; clear σ β X
  refine then_normal ?_
  rcases Bool.eq_false_or_eq_true (rightB k l ss) with hs3 | hs3
  · skip
    refine wp_cond_false (show Act.eval _ _ = .bool false from (congrArg Value.bool (by rw [hs3]; rfl))) ?_
    refine wp_skip ?_
    refine then_normal ?_
    refine wp_seq ?_
    refine wp_region_T [0] [] [[1]] [] [.a 4] (fun ix σ β X => match ix with | 0 => σ 4 = .pointer (some ⟨(pb (β 4)), 0, none⟩) ∧ X 1 = eB (pb (β 4)) 143 #[.pointer none, .slice none 0 0] | _ => True) [0, 1] [0] [(4, 0, 1, 5)] hst2 ?_ ?_ ?_
    · exact fun ix _ _ _ _ _ _ hs hb hx h => match ix, h with
      | 0, h => by dsimp only at h ⊢; rw [← hs 4 rfl, ← hb 4 rfl, ← hx 1 rfl]; exact h
      | _ + 1, _ => trivial
    · refine ⟨?_, trivial⟩
      · refine sv_any rfl rfl fun ρ β W X cx => ?_
        exact dv_alloc (cs := #[.pointer none, .slice none 0 0]) rfl (by kernel_rfl) rfl rfl (fun σ β' X' hs hb hv hx => ⟨hv, hx⟩)
    intro σ β X W4 hD hX hst4 fr hfr
    obtain ⟨B4_4, hu_B4_4⟩ : ∃ z, pb (β 4) = z := ⟨_, rfl⟩
    simp only [zM, exq 0 (hX 0 _ rfl), exq 1 ((dTn (hD 0 lq)).2), hu_B4_4] at hst4
    dsimp only [mgT, vals, List.take, List.drop, List.cons_append, List.nil_append] at hfr
    simp only [ed 4 ((dTn (hD 0 lq)).1), hu_B4_4] at hfr
    clear hX hD hu_B4_4; subst hfr; clear σ β X
    refine then_normal ?_
    refine wp_seq ?_
    refine wp_region_T [0, 1, 3, 7] [[], [0]] [[], [], [2]] [] [.k 11 (.pointer (some ⟨B1_1, 2, none⟩)), .c 12 (.slice A ss.length c), .a 13, .a 5] (fun ix σ β X => match ix with | 0 => True | 1 => True | 2 => σ 13 = .slice (sA (β 13)) ((plainL ss).length) ((plainL ss).length) ∧ X 2 = eO 9 1 (.slice (sA (β 13)) ((plainL ss).length) ((plainL ss).length)) ((plainL ss).length) ((plainL ss).map Value.string) | 3 => σ 5 = .slice (sA (β 13)) ((plainL ss).length) ((plainL ss).length) | _ => True) [0, 1, 2] [1, 2, 3] [(5, 3, 1, 6), (5, 0, 3, 8)] hst4 ?_ ?_ ?_
    · exact fun ix _ _ _ _ _ _ hs hb hx h => match ix, h with
      | 2, h => by dsimp only at h ⊢; rw [← hs 13 rfl, ← hb 13 rfl, ← hx 2 rfl]; exact h
      | 3, h => by dsimp only at h ⊢; rw [← hs 5 rfl, ← hb 13 rfl]; exact h
      | 0, _ | 1, _ | _ + 4, _ => trivial
    · refine ⟨?_, ?_, ?_, trivial⟩
      · exact s4 rfl (fun _ _ _ h => h) fun cx => run_load1 rfl (by kernel_rfl) (cx.anc 0 rfl) ((cx.blk (cx.init 0 _ rfl) rfl).cell 2)
      · refine sv_any rfl rfl fun ρ β W X cx => ?_
        refine DoesU.call (run_callF (args := #[.slice A ss.length c]) rfl cx.sees rfl (by kernel_rfl) (map1 (cx.anc 1 rfl))) ?_
        refine (plain_any _ _ ss _ (hA.ext cx.upd.to_ext) (by have h_ := (hS).1; omega)).mono ?_
        rintro e W1 ⟨rfl, ho, hx⟩
        refine ⟨_, rfl, post_call [eO 9 1 (.slice (some ⟨W.heap.size, 0, none⟩) ((plainL ss).length) ((plainL ss).length)) ((plainL ss).length) ((plainL ss).map Value.string)] rfl rfl hx (one_new (eO_new ho)) (List.pairwise_singleton _ _) (fun σ β' X' hs hb hv hN => ?_)⟩
        have hv1 := (hv 13 rfl).1; have hv2 := (hv 13 rfl).2
        exact ⟨hv1.trans (by rw [hv2]; rfl), (by rw [hv2]; exact (List.cons.inj hN).1)⟩
      · exact sv rfl rfl rfl rfl rfl _ (fun _ _ _ h => h) (fun β β' h => by rw [h 13 (by decide)]) fun ρ β W X cx => run_assign' rfl (dTn (cx.anc 2 rfl)).1
    intro σ β X W5 hD hX hst5 fr hfr
    obtain ⟨A13_5, hu_A13_5⟩ : ∃ z, sA (β 13) = z := ⟨_, rfl⟩
    simp only [zM, exq 0 (hX 0 _ rfl), exq 1 (hX 1 _ rfl), exq 2 ((dTn (hD 2 lq)).2), hu_A13_5] at hst5
    dsimp only [mgT, vals, List.take, List.drop, List.cons_append, List.nil_append] at hfr
    simp only [ed 13 ((dTn (hD 2 lq)).1), ed 5 ((dTn (hD 3 lq))), hu_A13_5] at hfr
    clear hX hD hu_A13_5; subst hfr; clear σ β X
    refine then_normal ?_
    refine wp_seq ?_
    have hpar := right_parts (by assumption : rightB k l ss = true)
    have hT : 6 + sizeT (plainL ss) ≤ 504 := by have h_ := hpar.2.2.2; rw [sizeL] at h_; omega
    have hpn : (plainL ss).length ≤ 24 := by rw [plainL_len]; exact Nat.le_trans (trimN_le ss _) hpar.2.2.1.1
    have hp1 := putS_size k 1 (by omega)
    have hp2 := putS_size l 4 (by omega)
    have hp3 := putS_size ((plainL ss).length : Int) 1 (by omega)
    have hp4 : ((putS k 1) ++ (putS l 4)).size = 5 := by rw [ByteArray.size_append, hp1, hp2]
    have hp5 : (((putS k 1) ++ (putS l 4)) ++ (putS ((plainL ss).length : Int) 1)).size = 6 := by rw [ByteArray.size_append, hp3, hp4]
    refine wp_region_T [0, 1, 3, 0, 8, 31, 63, 0, 128, 447, 1023, 2047] [[], [0], [], [], [0], [], [], [], [], [], [], [1]] [[], [], [], [], [], [], [], [], [], [], [], [3]] [[], [], [], [], [], [], [], [], [], [], [], [1]] [.k 14 (.pointer (some ⟨B1_1, 0, none⟩)), .c 15 (.int .i64 k), .c 16 (.string (putS k 1)), .k 17 (.pointer (some ⟨B1_1, 1, none⟩)), .c 18 (.int .i64 l), .c 19 (.string (putS l 4)), tS 20 (putS k 1) (putS l 4) (by omega), .k 21 (.slice A13_5 ((plainL ss).length) ((plainL ss).length)), .k 22 (.int .i64 (((plainL ss).length : Int))), .c 23 (.string (putS ((plainL ss).length : Int) 1)), tS 24 ((putS k 1) ++ (putS l 4)) (putS ((plainL ss).length : Int) 1) (by omega), .a 25] (fun ix σ β X => match ix with | 0 => True | 1 => True | 2 => True | 3 => True | 4 => True | 5 => True | 6 => True | 7 => True | 8 => True | 9 => True | 10 => True | 11 => σ 25 = .tuple #[.int .i64 (((((putS k 1) ++ (putS l 4)) ++ (putS ((plainL ss).length : Int) 1)).size : Int)), .nilIface] ∧ X 3 = eBu B4_4 (rO (X 3)) ((((putS k 1) ++ (putS l 4)) ++ (putS ((plainL ss).length : Int) 1)).data.toList) | _ => True) [0, 2, 3] [1, 2, 4, 5, 9, 11] [(14, 0, 12, 26)] hst5 ?_ ?_ ?_
    · exact fun ix _ _ _ _ _ _ hs hb hx h => match ix, h with
      | 11, h => by dsimp only at h ⊢; rw [← hs 25 rfl, ← hx 3 rfl]; exact h
      | 0, _ | 1, _ | 2, _ | 3, _ | 4, _ | 5, _ | 6, _ | 7, _ | 8, _ | 9, _ | 10, _ | _ + 12, _ => trivial
    · refine ⟨?_, ?_, ?_, ?_, ?_, ?_, trivial⟩
      · exact s4 rfl (fun _ _ _ h => h) fun cx => run_load1 rfl (by kernel_rfl) (cx.anc 0 rfl) ((cx.blk (cx.init 0 _ rfl) rfl).cell 0)
      · exact sv_call rfl rfl rfl rfl rfl (fun _ _ _ h => h) fun ρ β W X cx => ⟨_, _, run_callF (args := #[.int .i64 k, .int .i64 1]) rfl cx.sees rfl (by kernel_rfl) (map2 (cx.anc 1 rfl) (cx.sees.const _)), oput1_any k _⟩
      · exact s4 rfl (fun _ _ _ h => h) fun cx => run_load1 rfl (by kernel_rfl) (cx.anc 3 rfl) ((cx.blk (cx.init 0 _ rfl) rfl).cell 1)
      · exact sv_call rfl rfl rfl rfl rfl (fun _ _ _ h => h) fun ρ β W X cx => ⟨_, _, run_callF (args := #[.int .i64 l, .int .i64 4]) rfl cx.sees rfl (by kernel_rfl) (map2 (cx.anc 4 rfl) (cx.sees.const _)), oput4_any l _⟩
      · exact sv_call rfl rfl rfl rfl rfl (fun _ _ _ h => h) fun ρ β W X cx => ⟨_, _, run_callF (args := #[.int .i64 (((plainL ss).length : Int)), .int .i64 1]) rfl cx.sees rfl (by kernel_rfl) (map2 (cx.anc 8 rfl) (cx.sees.const _)), oput1_any ((plainL ss).length : Int) _⟩
      · refine sv_any rfl rfl fun ρ β W X cx => ?_
        refine DoesU.call (run_callF (args := #[.pointer (some ⟨B4_4, 0, none⟩), .string (((putS k 1) ++ (putS l 4)) ++ (putS ((plainL ss).length : Int) 1))]) rfl cx.sees rfl (by kernel_rfl) (map2 (cx.out 4 rfl) (cx.anc 10 rfl))) ?_
        refine (sbw_l _ _ [] _ _ (SbAt.fresh (cx.blk (cx.init 1 _ rfl) rfl)) (by simp only [List.length_append, List.length_nil, headL_len, itemsL_len, ByteArray.size_append, zerosS_size, zerosS_l, List.length_replicate]; omega)).mono ?_
        rintro e W1 ⟨rfl, hu⟩
        refine ⟨_, rfl, post_sb (by rw [(cx.init 1 _ rfl)]; rfl) rfl rfl hu (fun σ β' X' hs hb hv hx => ?_)⟩
        exact ⟨(hv 25 rfl).1, hx⟩
    intro σ β X W6 hD hX hst6 fr hfr
    have xX3 : X 3 = _ := (dTn (hD 11 lq)).2
    obtain ⟨r3_6, hu_r3_6⟩ : ∃ z, rO (X 3) = z := ⟨_, rfl⟩
    rw [hu_r3_6] at xX3
    clear hu_r3_6
    simp only [zM, exq 0 (hX 0 _ rfl), exq 2 (hX 2 _ rfl), xX3] at hst6
    dsimp only [mgT, vals, List.take, List.drop, List.cons_append, List.nil_append] at hfr
    simp only [ed 25 ((dTn (hD 11 lq)).1)] at hfr
    clear hX hD xX3; subst hfr; clear σ β X
    refine then_normal ?_
    refine wp_seq ?_
    refine wp_seq ?_
    refine wp_region_P [0, 1, 0] [.k 26 (.slice A13_5 ((plainL ss).length) ((plainL ss).length)), .k 27 (.int .i64 (((plainL ss).length : Int))), .k 28 (.int .i64 0)] [(26, 0, 3, 29)] hst6 fun W7 hst7 => ?_
    refine then_normal ?_
    refine wp_block ?_
    have hh0 : (((putS k 1) ++ (putS l 4)) ++ (putS ((plainL ss).length : Int) 1)).data.toList = headL k l (plainL ss).length ++ itemsL ((plainL ss).take 0) := by simp [headL, itemsL, bl]
    rw [hh0] at hst7
    refine wp_loopN (fun mz az W => ∃ j : Nat, ∃ rb : Option Nat, ∃ u8_ : List Value, j ≤ (plainL ss).length ∧ mz = (plainL ss).length - j ∧ az = ⟨#[.agg #[.int .i64 k, .int .i64 l, .slice A ss.length c], .pointer (some ⟨B1_1, 0, none⟩), .string ⟨#[]⟩, .int .i64 0, .pointer (some ⟨B4_4, 0, none⟩), .slice A13_5 ((plainL ss).length) ((plainL ss).length), undef, (u8_.getD 0 undef), .agg #[.int .i64 k, .int .i64 l, .slice A ss.length c], .bool (rightB k l ss), .bool (!(rightB k l ss)), .pointer (some ⟨B1_1, 2, none⟩), .slice A ss.length c, .slice A13_5 ((plainL ss).length) ((plainL ss).length), .pointer (some ⟨B1_1, 0, none⟩), .int .i64 k, .string (putS k 1), .pointer (some ⟨B1_1, 1, none⟩), .int .i64 l, .string (putS l 4), .string ((putS k 1) ++ (putS l 4)), .slice A13_5 ((plainL ss).length) ((plainL ss).length), .int .i64 (((plainL ss).length : Int)), .string (putS ((plainL ss).length : Int) 1), .string (((putS k 1) ++ (putS l 4)) ++ (putS ((plainL ss).length : Int) 1)), .tuple #[.int .i64 (((((putS k 1) ++ (putS l 4)) ++ (putS ((plainL ss).length : Int) 1)).size : Int)), .nilIface], .slice A13_5 ((plainL ss).length) ((plainL ss).length), .int .i64 (((plainL ss).length : Int)), .int .i64 ((j : Int)), (u8_.getD 1 undef), (u8_.getD 2 undef), (u8_.getD 3 undef), (u8_.getD 4 undef), (u8_.getD 5 undef), (u8_.getD 6 undef), (u8_.getD 7 undef), undef, undef, undef, undef, undef, undef, undef, undef, undef, undef, undef, undef, undef, undef], []⟩ ∧ St w [] [eB B1_1 94 #[.int .i64 k, .int .i64 l, .slice A ss.length c], eO 9 1 (.slice A13_5 ((plainL ss).length) ((plainL ss).length)) ((plainL ss).length) ((plainL ss).map Value.string), eBu B4_4 rb (headL k l (plainL ss).length ++ itemsL ((plainL ss).take j))] W) ((plainL ss).length - 0) ?_ ?_
    · -- the loop begins
      have hp9 := hst7.pick [0, 1, 2] (by decide) rfl
      exact ⟨0, r3_6, [undef, undef, undef, undef, undef, undef, undef, undef], by omega, rfl, rfl, hp9⟩
    rintro n8 a8 W8 ⟨j, rb, u8_, hj, rfl, rfl, hst8⟩
    have hil := sizeT_take_le (plainL ss) j
    refine wp_seq ?_
    refine wp_region_P [0] [.k 29 (.bool (decide ((j : Int) < ((plainL ss).length : Int))))] [(29, 0, 1, 30)] hst8 fun W10 hst10 => ?_
    refine then_normal ?_
    refine wp_seq ?_
    rcases Bool.eq_false_or_eq_true (decide ((j : Int) < ((plainL ss).length : Int))) with hs11 | hs11
    · skip
      have hs11p : (j : Int) < ((plainL ss).length : Int) := by simpa using hs11
      refine wp_cond_true (show Act.eval _ _ = .bool true from (congrArg Value.bool hs11)) ?_
      refine wp_skip ?_
      refine then_normal ?_
      refine wp_seq ?_
      refine wp_block ?_
      refine wp_seq ?_
      refine wp_region_T [0, 1, 3] [[1], [1]] [] [] [.c 30 (.pointer (some ((ad A13_5).add j))), .c 31 (.string (((plainL ss)).getD j ByteArray.empty)), .k 7 (.string (((plainL ss)).getD j ByteArray.empty))] (fun _ _ _ _ => True) [0, 1, 2] [0, 1] [(7, 2, 1, 8), (22, 0, 2, 24)] hst10 ?_ ?_ ?_
      · exact fun _ _ _ _ _ _ _ _ _ _ h => h
      · refine ⟨?_, ?_, trivial⟩
        · exact s4 rfl (fun _ _ _ h => h) fun cx => run_indexSl (e := 9) (m := j) rfl (by kernel_rfl) (by kernel_rfl) (cx.out 26 rfl) (cx.out 28 rfl) (by omega) (by omega) (At.of_own (cx.row (cx.init 1 _ rfl) rfl)) (by simp)
        · exact s4 rfl (fun _ _ _ h => h) fun cx => run_load1 rfl (by kernel_rfl) (cx.anc 0 rfl) (At.cellAd (At.of_own (cx.row (cx.init 1 _ rfl) rfl)) (getD_str (by omega)))
      intro σ β X W12 hD hX hst12 fr hfr
      simp only [zM, exq 0 (hX 0 _ rfl), exq 1 (hX 1 _ rfl), exq 2 (hX 2 _ rfl)] at hst12
      dsimp only [mgT, vals, List.take, List.drop, List.cons_append, List.nil_append] at hfr
      clear hX hD; subst hfr; clear σ β X
      refine then_normal ?_
      have hx4 : ((plainL ss).getD j ByteArray.empty).size ≤ 400 := by have h_ := hpar.2.2.1.2 ((plainL ss)[j]'(by omega)) (List.mem_of_mem_take (List.getElem_mem _)); simpa [show j < (plainL ss).length by omega] using h_
      have hto := textO_le hx4
      refine wp_region_T [0, 1, 3] [[], [], [2]] [[], [], [3]] [[], [], [2]] [.k 32 (.string (((plainL ss)).getD j ByteArray.empty)), .c 33 (.string (textO (((plainL ss)).getD j ByteArray.empty))), .a 34] (fun ix σ β X => match ix with | 0 => True | 1 => True | 2 => σ 34 = .tuple #[.int .i64 (((textO (((plainL ss)).getD j ByteArray.empty)).size : Int)), .nilIface] ∧ X 3 = eBu B4_4 (rO (X 3)) ((headL k l (plainL ss).length ++ itemsL ((plainL ss).take j)) ++ (textO (((plainL ss)).getD j ByteArray.empty)).data.toList) | _ => True) [0, 1, 3] [1, 2] [(32, 0, 3, 35)] hst12 ?_ ?_ ?_
      · exact fun ix _ _ _ _ _ _ hs hb hx h => match ix, h with
        | 2, h => by dsimp only at h ⊢; rw [← hs 34 rfl, ← hx 3 rfl]; exact h
        | 0, _ | 1, _ | _ + 3, _ => trivial
      · refine ⟨?_, ?_, trivial⟩
        · exact sv_call rfl rfl rfl rfl rfl (fun _ _ _ h => h) fun ρ β W X cx => ⟨_, _, run_callF (args := #[.string (((plainL ss)).getD j ByteArray.empty)]) rfl cx.sees rfl (by kernel_rfl) (map1 (cx.anc 0 rfl)), otext_any (((plainL ss)).getD j ByteArray.empty) _ (by omega)⟩
        · refine sv_any rfl rfl fun ρ β W X cx => ?_
          refine DoesU.call (run_callF (args := #[.pointer (some ⟨B4_4, 0, none⟩), .string (textO (((plainL ss)).getD j ByteArray.empty))]) rfl cx.sees rfl (by kernel_rfl) (map2 (cx.out 4 rfl) (cx.anc 1 rfl))) ?_
          refine (sbw_l _ _ (headL k l (plainL ss).length ++ itemsL ((plainL ss).take j)) _ _ (cx.sb (cx.init 2 _ rfl) rfl) (by simp only [List.length_append, List.length_nil, headL_len, itemsL_len, ByteArray.size_append, zerosS_size, zerosS_l, List.length_replicate]; omega)).mono ?_
          rintro e W1 ⟨rfl, hu⟩
          refine ⟨_, rfl, post_sb (by rw [(cx.init 2 _ rfl)]; rfl) rfl rfl hu (fun σ β' X' hs hb hv hx => ?_)⟩
          exact ⟨(hv 34 rfl).1, hx⟩
      intro σ β X W13 hD hX hst13 fr hfr
      have xX3 : X 3 = _ := (dTn (hD 2 lq)).2
      obtain ⟨r3_13, hu_r3_13⟩ : ∃ z, rO (X 3) = z := ⟨_, rfl⟩
      rw [hu_r3_13] at xX3
      clear hu_r3_13
      simp only [zM, exq 0 (hX 0 _ rfl), exq 1 (hX 1 _ rfl), xX3] at hst13
      dsimp only [mgT, vals, List.take, List.drop, List.cons_append, List.nil_append] at hfr
      simp only [ed 34 ((dTn (hD 2 lq)).1)] at hfr
      clear hX hD xX3; subst hfr; clear σ β X
      refine blk_normal ?_
      refine then_normal ?_
      refine wp_region_P [0, 1] [tI 35 ((j : Int) + 1) (by omega), .k 28 (.int .i64 ((j : Int) + 1))] [(28, 1, 1, 29), (6, 0, 1, 7)] hst13 fun W14 hst14 => ?_
      refine then_normal ?_
      have hq15 : (headL k l (plainL ss).length ++ itemsL ((plainL ss).take j)) ++ (textO (((plainL ss)).getD j ByteArray.empty)).data.toList = headL k l (plainL ss).length ++ itemsL ((plainL ss).take (j + 1)) := by rw [itemsL_snoc _ j (by omega), ← List.append_assoc]; simp [bl, textO, textB, show j < (plainL ss).length by omega]
      rw [hq15] at hst14
      refine ⟨(plainL ss).length - ((j + 1)), by omega, ?_⟩
      have hp16 := hst14.pick [0, 1, 2] (by decide) rfl
      exact ⟨(j + 1), r3_13, [.string (((plainL ss)).getD j ByteArray.empty), .bool (decide ((j : Int) < ((plainL ss).length : Int))), .pointer (some ((ad A13_5).add j)), .string (((plainL ss)).getD j ByteArray.empty), .string (((plainL ss)).getD j ByteArray.empty), .string (textO (((plainL ss)).getD j ByteArray.empty)), .tuple #[.int .i64 (((textO (((plainL ss)).getD j ByteArray.empty)).size : Int)), .nilIface], .int .i64 ((j : Int) + 1)], by omega, rfl, rfl, hp16⟩
    have hs11p : ¬ ((j : Int) < ((plainL ss).length : Int)) := by simpa using hs11
    refine wp_cond_false (show Act.eval _ _ = .bool false from (congrArg Value.bool hs11)) ?_
    refine wp_exit ?_
    refine then_exit ?_
    refine then_exit ?_
    refine blk_eq ?_
    refine then_normal ?_
    refine wp_seq ?_
    have hje : j = (plainL ss).length := by omega
    have hq17 : headL k l (plainL ss).length ++ itemsL ((plainL ss).take j) = headL k l (plainL ss).length ++ itemsL (plainL ss) := by rw [hje, List.take_length]
    rw [hq17] at hst10
    have hL6 : (headL k l (plainL ss).length ++ itemsL (plainL ss)).length = 6 + sizeT (plainL ss) := by rw [List.length_append, headL_len, itemsL_len]
    refine wp_region_T [0, 1, 3, 7] [[2], [], [], [2]] [[], [], [], [3]] [[], [], [], [2]] [.c 36 (.int .i64 (((headL k l (plainL ss).length ++ itemsL (plainL ss)).length : Int))), tI 37 (504 - ((headL k l (plainL ss).length ++ itemsL (plainL ss)).length : Int)) (by omega), .c 38 (.string (zerosS (504 - (6 + sizeT (plainL ss))))), .a 39] (fun ix σ β X => match ix with | 0 => True | 1 => True | 2 => True | 3 => σ 39 = .tuple #[.int .i64 (((zerosS (504 - (6 + sizeT (plainL ss)))).size : Int)), .nilIface] ∧ X 3 = eBu B4_4 (rO (X 3)) ((headL k l (plainL ss).length ++ itemsL (plainL ss)) ++ (zerosS (504 - (6 + sizeT (plainL ss)))).data.toList) | _ => True) [0, 1, 3] [0, 2, 3] [(36, 0, 4, 40)] hst10 ?_ ?_ ?_
    · exact fun ix _ _ _ _ _ _ hs hb hx h => match ix, h with
      | 3, h => by dsimp only at h ⊢; rw [← hs 39 rfl, ← hx 3 rfl]; exact h
      | 0, _ | 1, _ | 2, _ | _ + 4, _ => trivial
    · refine ⟨?_, ?_, ?_, trivial⟩
      · exact sv_call rfl rfl rfl rfl rfl (fun _ _ _ h => h) fun ρ β W X cx => ⟨_, _, run_callF (args := #[.pointer (some ⟨B4_4, 0, none⟩)]) rfl cx.sees rfl (by kernel_rfl) (map1 (cx.out 4 rfl)), sblen_l _ _ (headL k l (plainL ss).length ++ itemsL (plainL ss)) _ (cx.sb (cx.init 2 _ rfl) rfl)⟩
      · exact sv_call rfl rfl rfl rfl rfl (fun _ _ _ h => h) fun ρ β W X cx => ⟨_, _, run_callF (args := #[.string ⟨#[0]⟩, .int .i64 (504 - ((headL k l (plainL ss).length ++ itemsL (plainL ss)).length : Int))]) rfl cx.sees rfl (by kernel_rfl) (map2 (cx.sees.const _) (cx.anc 1 rfl)), repz_n (504 - ((headL k l (plainL ss).length ++ itemsL (plainL ss)).length : Int)) (504 - (6 + sizeT (plainL ss))) _ (by omega) (by simp only [List.length_append, headL_len, itemsL_len]; omega)⟩
      · refine sv_any rfl rfl fun ρ β W X cx => ?_
        refine DoesU.call (run_callF (args := #[.pointer (some ⟨B4_4, 0, none⟩), .string (zerosS (504 - (6 + sizeT (plainL ss))))]) rfl cx.sees rfl (by kernel_rfl) (map2 (cx.out 4 rfl) (cx.anc 2 rfl))) ?_
        refine (sbw_l _ _ (headL k l (plainL ss).length ++ itemsL (plainL ss)) _ _ (cx.sb (cx.init 2 _ rfl) rfl) (by simp only [List.length_append, List.length_nil, headL_len, itemsL_len, ByteArray.size_append, zerosS_size, zerosS_l, List.length_replicate]; omega)).mono ?_
        rintro e W1 ⟨rfl, hu⟩
        refine ⟨_, rfl, post_sb (by rw [(cx.init 2 _ rfl)]; rfl) rfl rfl hu (fun σ β' X' hs hb hv hx => ?_)⟩
        exact ⟨(hv 39 rfl).1, hx⟩
    intro σ β X W18 hD hX hst18 fr hfr
    have xX3 : X 3 = _ := (dTn (hD 3 lq)).2
    obtain ⟨r3_18, hu_r3_18⟩ : ∃ z, rO (X 3) = z := ⟨_, rfl⟩
    rw [hu_r3_18] at xX3
    clear hu_r3_18
    simp only [zM, exq 0 (hX 0 _ rfl), exq 1 (hX 1 _ rfl), xX3] at hst18
    dsimp only [mgT, vals, List.take, List.drop, List.cons_append, List.nil_append] at hfr
    simp only [ed 39 ((dTn (hD 3 lq)).1)] at hfr
    clear hX hD xX3; subst hfr; clear σ β X
    refine then_normal ?_
    refine wp_seq ?_
    refine wp_region_T [0, 1, 3, 7] [[], [0], [], [2]] [[], [], [], [3]] [[], [], [], [2]] [.k 40 (.pointer (some ⟨B1_1, 1, none⟩)), .c 41 (.int .i64 l), .c 42 (.string (putS l 4)), .a 43] (fun ix σ β X => match ix with | 0 => True | 1 => True | 2 => True | 3 => σ 43 = .tuple #[.int .i64 (((putS l 4).size : Int)), .nilIface] ∧ X 3 = eBu B4_4 (rO (X 3)) (((headL k l (plainL ss).length ++ itemsL (plainL ss)) ++ (zerosS (504 - (6 + sizeT (plainL ss)))).data.toList) ++ (putS l 4).data.toList) | _ => True) [0, 1, 3] [1, 2, 3] [(40, 0, 4, 44)] hst18 ?_ ?_ ?_
    · exact fun ix _ _ _ _ _ _ hs hb hx h => match ix, h with
      | 3, h => by dsimp only at h ⊢; rw [← hs 43 rfl, ← hx 3 rfl]; exact h
      | 0, _ | 1, _ | 2, _ | _ + 4, _ => trivial
    · refine ⟨?_, ?_, ?_, trivial⟩
      · exact s4 rfl (fun _ _ _ h => h) fun cx => run_load1 rfl (by kernel_rfl) (cx.anc 0 rfl) ((cx.blk (cx.init 0 _ rfl) rfl).cell 1)
      · exact sv_call rfl rfl rfl rfl rfl (fun _ _ _ h => h) fun ρ β W X cx => ⟨_, _, run_callF (args := #[.int .i64 l, .int .i64 4]) rfl cx.sees rfl (by kernel_rfl) (map2 (cx.anc 1 rfl) (cx.sees.const _)), oput4_any l _⟩
      · refine sv_any rfl rfl fun ρ β W X cx => ?_
        refine DoesU.call (run_callF (args := #[.pointer (some ⟨B4_4, 0, none⟩), .string (putS l 4)]) rfl cx.sees rfl (by kernel_rfl) (map2 (cx.out 4 rfl) (cx.anc 2 rfl))) ?_
        refine (sbw_l _ _ ((headL k l (plainL ss).length ++ itemsL (plainL ss)) ++ (zerosS (504 - (6 + sizeT (plainL ss)))).data.toList) _ _ (cx.sb (cx.init 2 _ rfl) rfl) (by simp only [List.length_append, List.length_nil, headL_len, itemsL_len, ByteArray.size_append, zerosS_size, zerosS_l, List.length_replicate]; omega)).mono ?_
        rintro e W1 ⟨rfl, hu⟩
        refine ⟨_, rfl, post_sb (by rw [(cx.init 2 _ rfl)]; rfl) rfl rfl hu (fun σ β' X' hs hb hv hx => ?_)⟩
        exact ⟨(hv 43 rfl).1, hx⟩
    intro σ β X W19 hD hX hst19 fr hfr
    have xX3 : X 3 = _ := (dTn (hD 3 lq)).2
    obtain ⟨r3_19, hu_r3_19⟩ : ∃ z, rO (X 3) = z := ⟨_, rfl⟩
    rw [hu_r3_19] at xX3
    clear hu_r3_19
    simp only [zM, exq 0 (hX 0 _ rfl), exq 1 (hX 1 _ rfl), xX3] at hst19
    dsimp only [mgT, vals, List.take, List.drop, List.cons_append, List.nil_append] at hfr
    simp only [ed 43 ((dTn (hD 3 lq)).1)] at hfr
    clear hX hD xX3; subst hfr; clear σ β X
    refine then_normal ?_
    refine wp_seq ?_
    have hq20 : ((headL k l (plainL ss).length ++ itemsL (plainL ss)) ++ (zerosS (504 - (6 + sizeT (plainL ss)))).data.toList) ++ (putS l 4).data.toList = bodyL k l (plainL ss) := rfl
    rw [hq20] at hst19
    have hbl := bodyL_len k l (plainL ss) hT
    have hbne : bodyL k l (plainL ss) ≠ [] := fun h => by rw [h] at hbl; simp at hbl
    have hsl := sumF_lt (baOf (bodyL k l (plainL ss)))
    have hp7 := putS_size (sumF (baOf (bodyL k l (plainL ss))) : Int) 4 (by omega)
    have hp8 : (baOf (bodyL k l (plainL ss))).size = 508 := by rw [baOf_size, hbl]
    refine wp_region_T [0, 1, 3, 7, 15, 31, 63, 127] [[2], [], [], [], [3]] [[3], [], [], [], [4]] [[2], [], [], [], [3]] [.a 44, .c 45 (.int .u32 ((sumF (baOf (bodyL k l (plainL ss))) : Int))), tW 46 .i64 (sumF (baOf (bodyL k l (plainL ss))) : Int) (sumF (baOf (bodyL k l (plainL ss))) : Int) (IntWalk.i64_in _ (by omega)), .c 47 (.string (putS (sumF (baOf (bodyL k l (plainL ss))) : Int) 4)), .a 48, .c 49 (.string ((putS (sumF (baOf (bodyL k l (plainL ss))) : Int) 4) ++ (baOf (bodyL k l (plainL ss))))), .k 2 (.string ((putS (sumF (baOf (bodyL k l (plainL ss))) : Int) 4) ++ (baOf (bodyL k l (plainL ss))))), .k 3 (.int .i64 0)] (fun ix σ β X => match ix with | 0 => σ 44 = .string (baOf (bodyL k l (plainL ss))) ∧ X 3 = eZ B4_4 r3_19 (bodyL k l (plainL ss)) | 1 => True | 2 => True | 3 => True | 4 => σ 48 = .string (baOf (bodyL k l (plainL ss))) ∧ X 4 = eZ B4_4 r3_19 (bodyL k l (plainL ss)) | _ => True) [0, 1, 4] [0, 1, 3, 4, 5] [(2, 6, 2, 4), (40, 0, 6, 46)] hst19 ?_ ?_ ?_
    · exact fun ix _ _ _ _ _ _ hs hb hx h => match ix, h with
      | 0, h => by dsimp only at h ⊢; rw [← hs 44 rfl, ← hx 3 rfl]; exact h
      | 4, h => by dsimp only at h ⊢; rw [← hs 48 rfl, ← hx 4 rfl]; exact h
      | 1, _ | 2, _ | 3, _ | _ + 5, _ => trivial
    · refine ⟨?_, ?_, ?_, ?_, ?_, trivial⟩
      · refine sv_any rfl rfl fun ρ β W X cx => ?_
        refine DoesU.call (run_callF (args := #[.pointer (some ⟨B4_4, 0, none⟩)]) rfl cx.sees rfl (by kernel_rfl) (map1 (cx.out 4 rfl))) ?_
        refine (sbstr_z _ _ (bodyL k l (plainL ss)) _ (SbAt.z (cx.sb (cx.init 2 _ rfl) rfl) hbne) hbne (by omega)).mono ?_
        rintro e W1 ⟨rfl, hz, hu⟩
        refine ⟨_, rfl, post_chg (E := eBu B4_4 r3_19 (bodyL k l (plainL ss))) (E' := eZ B4_4 r3_19 (bodyL k l (plainL ss))) (cx.init 2 _ rfl) rfl rfl hu hz (eZ_loc _ _ _) (fun k hk => ⟨hk, hz.lt k hk⟩) (fun σ β' X' hs hb hv hx => ?_)⟩
        exact ⟨(hv 44 rfl).1, hx⟩
      · exact sv_call rfl rfl rfl rfl rfl (fun _ _ _ h => h) fun ρ β W X cx => ⟨_, _, run_callF (args := #[.string (baOf (bodyL k l (plainL ss)))]) rfl cx.sees rfl (by kernel_rfl) (map1 (dTn (cx.anc 0 rfl)).1), osum_any (baOf (bodyL k l (plainL ss))) _ (by rw [baOf_size]; omega)⟩
      · exact sv_call rfl rfl rfl rfl rfl (fun _ _ _ h => h) fun ρ β W X cx => ⟨_, _, run_callF (args := #[.int .i64 ((sumF (baOf (bodyL k l (plainL ss))) : Int)), .int .i64 4]) rfl cx.sees rfl (by kernel_rfl) (map2 (cx.anc 2 rfl) (cx.sees.const _)), oput4_any (sumF (baOf (bodyL k l (plainL ss))) : Int) _⟩
      · refine sv_any rfl rfl fun ρ β W X cx => ?_
        refine DoesU.call (run_callF (args := #[.pointer (some ⟨B4_4, 0, none⟩)]) rfl cx.sees rfl (by kernel_rfl) (map1 (cx.out 4 rfl))) ?_
        refine (sbstr_z _ _ (bodyL k l (plainL ss)) _ (cx.z (dTn (cx.anc 0 rfl)).2 rfl) hbne (by omega)).mono ?_
        rintro e W1 ⟨rfl, hz, hu⟩
        refine ⟨_, rfl, post_chg (E := eZ B4_4 r3_19 (bodyL k l (plainL ss))) (E' := eZ B4_4 r3_19 (bodyL k l (plainL ss))) (dTn (cx.anc 0 rfl)).2 rfl rfl hu hz (eZ_loc _ _ _) (fun k hk => ⟨hk, hz.lt k hk⟩) (fun σ β' X' hs hb hv hx => ?_)⟩
        exact ⟨(hv 48 rfl).1, hx⟩
      · exact s4 rfl (fun _ _ _ h => h) fun cx => run_strcat rfl (cx.anc 3 rfl) (dTn (cx.anc 4 rfl)).1 (by omega)
    intro σ β X W21 hD hX hst21 fr hfr
    simp only [zM, exq 0 (hX 0 _ rfl), exq 1 (hX 1 _ rfl), exq 4 ((dTn (hD 4 lq)).2)] at hst21
    dsimp only [mgT, vals, List.take, List.drop, List.cons_append, List.nil_append] at hfr
    simp only [ed 44 ((dTn (hD 0 lq)).1), ed 48 ((dTn (hD 4 lq)).1)] at hfr
    clear hX hD; subst hfr; clear σ β X
    refine then_normal ?_
    refine wp_ret ?_
    refine bodyPost_ret (v := .tuple #[.string ((putS (sumF (baOf (bodyL k l (plainL ss))) : Int) 4) ++ (baOf (bodyL k l (plainL ss)))), .int .i64 0]) (by simp [results, Tryd.results47, go_sem]) rfl ?_
    exact fin_bytes (by assumption) hst21.ext
  refine wp_cond_true (show Act.eval _ _ = .bool true from (congrArg Value.bool (by rw [hs3]; rfl))) ?_
  refine wp_seq ?_
  refine wp_region_P [0, 1] [.k 2 (.string ⟨#[]⟩), .k 3 (.int .i64 22)] [(2, 0, 2, 4)] hst2 fun W22 hst22 => ?_
  refine then_normal ?_
  refine wp_ret ?_
  refine then_ret ?_
  refine bodyPost_ret (v := .tuple #[.string ⟨#[]⟩, .int .i64 22]) (by simp [results, Tryd.results47, go_sem]) rfl ?_
  show BytesPost k l ss w _ _; rw [BytesPost, hs3]; exact ⟨rfl, hst22.ext⟩


/-- what the bytes of a right page say -/
structure Says (s : ByteArray) (k l : Int) (I : List ByteArray) : Prop where
  size : s.size = 512
  sum : numS s 0 4 = sumF (s.extract 4 512)
  lsn2 : s.extract 5 9 = s.extract 508 512
  kind : (numS s 4 1 : Int) = k
  lsn : (numS s 5 4 : Int) = l
  many : numS s 9 1 = I.length
  text : ∀ j, j < I.length → 10 + sizeT (I.take j) + 2 ≤ s.size ∧ 10 + sizeT (I.take j) + 2 + numS s (10 + sizeT (I.take j)) 2 ≤ s.size ∧ textS s (10 + sizeT (I.take j)) = I.getD j ByteArray.empty ∧ 10 + sizeT (I.take j) + 2 + numS s (10 + sizeT (I.take j)) 2 = 10 + sizeT (I.take (j + 1))
  right : rightB k l I = true
  bytes : bytesF k l (plainL I) = s
  plain : plainL I = I
theorem right_plain {k l : Int} {ss : List ByteArray} (hr : rightB k l ss = true) : rightB k l (plainL ss) = true := by
  obtain ⟨hk, hl, ⟨h24, h400⟩, h512⟩ := right_parts hr
  have hln : (plainL ss).length ≤ 24 := by rw [plainL_len]; have := trimN_le ss ss.length; omega
  have hz : sizeL (plainL ss) = sizeL ss := by rw [sizeL, plain_plain, sizeL]
  have hlg : longB (plainL ss) = false := by
    rcases h : longB (plainL ss) with _ | _
    · rfl
    · rw [longB, List.any_eq_true] at h
      obtain ⟨x, hx, h⟩ := h
      have := h400 x (List.mem_of_mem_take hx)
      simp at h; omega
  simp [rightB, hk, hl, hln, hlg, hz, h512]
theorem says_bytes {k l : Int} {ss : List ByteArray} (hr : rightB k l ss = true) : Says (bytesF k l (plainL ss)) k l (plainL ss) := by
  obtain ⟨hk, hl, ⟨h24, h400⟩, h512⟩ := right_parts hr
  have hT : 6 + sizeT (plainL ss) ≤ 504 := by rw [sizeL] at h512; omega
  have hln : (plainL ss).length ≤ 24 := by rw [plainL_len]; have := trimN_le ss ss.length; omega
  refine ⟨bytesF_size k l _ hT, by rw [bytes_sum, bytes_rest k l _ hT], by rw [bytes_lsn_s, bytes_end k l _ hT], bytes_kind k l _ hk.1 (by omega), bytes_lsn k l _ hl.1 (by omega), bytes_many k l _ (by omega), fun j hj => ?_, right_plain hr, by rw [plain_plain], plain_plain ss⟩
  have h := bytes_text k l _ hT j hj
  exact ⟨h.1, h.2.1, by rw [h.2.2.1]; simp [hj], h.2.2.2⟩
theorem numS_lt4 (s : ByteArray) (p : Nat) : numS s p 4 < 4294967296 := by
  have h := numL_lt (s.extract p (p + 4)).data.toList
  have h2 : (s.extract p (p + 4)).data.toList.length ≤ 4 := by
    have : (s.extract p (p + 4)).size ≤ 4 := by rw [ByteArray.size_extract]; omega
    show (bl (s.extract p (p + 4))).length ≤ 4
    rw [bl_len]; exact this
  have h3 : (256 : Nat) ^ (s.extract p (p + 4)).data.toList.length ≤ 256 ^ 4 := Nat.pow_le_pow_right (by omega) h2
  unfold numS
  omega
theorem pgbytes_s {s : ByteArray} {k l : Int} {I : List ByteArray} (h : Says s k l I) (A : Option Addr) (c : Nat) (w : World) (hA : At w A (I.map Value.string)) (hS : Small I) : Calls Tryd.prog 47 #[.agg #[.int .i64 k, .int .i64 l, .slice A I.length c]] w (Ret (.tuple #[.string s, .int .i64 0]) w) := by
  have h2 := pgbytes_any k l A c I w hA hS
  rw [BytesPost, if_pos h.right, h.bytes] at h2
  exact h2
theorem rd_snoc {I : List ByteArray} {j : Nat} (h : j < I.length) : (I.take j).map Value.string ++ [.string (I.getD j ByteArray.empty)] = (I.take (j + 1)).map Value.string := by
  rw [List.take_succ_eq_append_getElem h, List.map_append]; simp [h]
theorem chk_ok {s : ByteArray} {k l : Int} {I : List ByteArray} (hh : Says s k l I) : (((numS s 0 4 : Int) != (sumF (s.extract 4 s.size) : Int)) || (!((s.extract 5 9).toList == (s.extract 508 s.size).toList))) = false := by
  rw [hh.size, hh.sum, hh.lsn2]; simp
set_option maxRecDepth 100000 in
set_option maxHeartbeats 4000000 in
theorem pgread_s (s : ByteArray) (k l : Int) (I : List ByteArray) (w : World) (hh : Says s k l I) :
    Calls Tryd.prog 48 #[.string s] w (PgPost k l (plainL I) 0 w) := by
  have hsz := hh.size
  have hn4 := numS_lt4 s 0
  have hS : Small I := right_small hh.right
  have hTI : sizeT I ≤ 498 := by have h := (right_parts hh.right).2.2.2; rw [sizeL, hh.plain] at h; omega
  have hI24 : I.length ≤ 24 := (right_parts hh.right).2.2.1.1
  go_enter Tryd.func48, Tryd.ntmps48
  have hst0 := St.start w
  refine wp_seq ?_
  refine wp_region_T [0, 0] [] [[0]] [] [.a 2, .k 3 (.int .i64 0)] (fun ix σ β X => match ix with | 0 => σ 2 = .pointer (some ⟨(pb (β 2)), 0, none⟩) ∧ X 0 = eB (pb (β 2)) 94 #[.int .i64 0, .int .i64 0, .slice none 0 0] | _ => True) [0] [0] [(2, 0, 2, 4)] hst0 ?_ ?_ ?_
  · exact fun ix _ _ _ _ _ _ hs hb hx h => match ix, h with
    | 0, h => by dsimp only at h ⊢; rw [← hs 2 rfl, ← hb 2 rfl, ← hx 0 rfl]; exact h
    | _ + 1, _ => trivial
  · refine ⟨?_, trivial⟩
    · refine sv_any rfl rfl fun ρ β W X cx => ?_
      exact dv_alloc (cs := #[.int .i64 0, .int .i64 0, .slice none 0 0]) rfl (by kernel_rfl) rfl rfl (fun σ β' X' hs hb hv hx => ⟨hv, hx⟩)
  intro σ β X W1 hD hX hst1 fr hfr
  obtain ⟨B2_1, hu_B2_1⟩ : ∃ z, pb (β 2) = z := ⟨_, rfl⟩
  simp only [zM, exq 0 ((dTn (hD 0 lq)).2), hu_B2_1] at hst1
  dsimp only [mgT, vals, List.take, List.drop, List.cons_append, List.nil_append] at hfr
  simp only [ed 2 ((dTn (hD 0 lq)).1), hu_B2_1] at hfr
  clear hX hD hu_B2_1; subst hfr; clear σ β X
  refine then_normal ?_
  refine wp_seq ?_
  refine wp_seq ?_
  refine wp_region_P [0, 1, 3] [.k 9 (.string s), .k 10 (.int .i64 ((s.size : Int))), .k 11 (.bool ((s.size : Int) != 512))] [(9, 0, 3, 12)] hst1 fun W2 hst2 => ?_
  refine then_normal ?_
  rcases Bool.eq_false_or_eq_true ((s.size : Int) != 512) with hs3 | hs3
  · skip
    have hs3p : (s.size : Int) ≠ 512 := by simpa using hs3
    refine wp_cond_true (show Act.eval _ _ = .bool true from (congrArg Value.bool hs3)) ?_
    refine wp_seq ?_
    refine wp_region_T [0, 1, 3] [[], [0]] [[], [1]] [[], [0]] [.k 12 (.agg #[.int .i64 0, .int .i64 0, .slice none 0 0]), .n, .k 3 (.int .i64 11)] (fun ix σ β X => match ix with | 0 => True | 1 => X 1 = eB B2_1 94 #[.int .i64 0, .int .i64 0, .slice none 0 0] | _ => True) [1] [1] [(3, 2, 1, 4), (8, 0, 1, 9)] hst2 ?_ ?_ ?_
    · exact fun ix _ _ _ _ _ _ hs hb hx h => match ix, h with
      | 1, h => by dsimp only at h ⊢; rw [← hx 1 rfl]; exact h
      | 0, _ | _ + 2, _ => trivial
    · refine ⟨?_, trivial⟩
      · refine sv_any rfl rfl fun ρ β W X cx => ?_
        exact dv_store (n := 3) rfl (cx.out 2 rfl) (cx.anc 0 rfl) (by kernel_rfl) (by kernel_rfl) (by kernel_rfl) cx (cx.init 0 _ rfl) rfl (Nat.le_of_ble_eq_true rfl) (by kernel_rfl) rfl rfl rfl (fun σ β' X' hs hb hx => hx)
    intro σ β X W4 hD hX hst4 fr hfr
    simp only [zM, exq 1 ((dTn (hD 1 lq)))] at hst4
    dsimp only [mgT, vals, List.take, List.drop, List.cons_append, List.nil_append] at hfr
    clear hX hD; subst hfr; clear σ β X
    refine then_normal ?_
    refine wp_ret ?_
    refine then_ret ?_
    have hr5 : W4.cell? ⟨B2_1, 0, none⟩ = some (.int .i64 0) := (hst4.blk 0 rfl).cell 0
    have hr6 : W4.cell? ⟨B2_1, 1, none⟩ = some (.int .i64 0) := (hst4.blk 0 rfl).cell 1
    have hr7 : W4.cell? ⟨B2_1, 2, none⟩ = some (.slice none 0 0) := (hst4.blk 0 rfl).cell 2
    refine bodyPost_ret (v := .tuple #[.agg #[.int .i64 0, .int .i64 0, .slice none 0 0], .int .i64 11]) (by simp [results, Tryd.results48, go_sem, hr5, hr6, hr7]) rfl ?_
    exact absurd ‹((s.size : Int) != 512) = true› (by simp [hsz])
  have hs3p : (s.size : Int) = 512 := by simpa using hs3
  refine wp_cond_false (show Act.eval _ _ = .bool false from (congrArg Value.bool hs3)) ?_
  refine wp_skip ?_
  refine then_normal ?_
  refine wp_seq ?_
  refine wp_region_T [0, 1, 3] [] [[], [1]] [] [.k 13 (.string s), .a 14, .a 4] (fun ix σ β X => match ix with | 0 => True | 1 => σ 14 = .pointer (some ⟨(pb (β 14)), 0, none⟩) ∧ X 1 = eB (pb (β 14)) 154 #[.string s, .int .i64 0, .bool false] | 2 => σ 4 = .pointer (some ⟨(pb (β 14)), 0, none⟩) | _ => True) [0, 1] [1, 2] [(4, 2, 1, 5), (8, 0, 2, 10)] hst2 ?_ ?_ ?_
  · exact fun ix _ _ _ _ _ _ hs hb hx h => match ix, h with
    | 1, h => by dsimp only at h ⊢; rw [← hs 14 rfl, ← hb 14 rfl, ← hx 1 rfl]; exact h
    | 2, h => by dsimp only at h ⊢; rw [← hs 4 rfl, ← hb 14 rfl]; exact h
    | 0, _ | _ + 3, _ => trivial
  · refine ⟨?_, ?_, trivial⟩
    · refine sv_any rfl rfl fun ρ β W X cx => ?_
      refine DoesU.call (run_callF (args := #[.string s]) rfl cx.sees rfl (by kernel_rfl) (map1 (cx.anc 0 rfl))) ?_
      refine (oread_b s _).mono ?_
      rintro e W1 ⟨B4, rfl, ⟨hb4, hw4⟩, hx⟩
      refine ⟨_, rfl, post_call [eB B4 154 #[.string s, .int .i64 0, .bool false]] rfl rfl hx (one_new ⟨hb4, eB_loc _ _ _, fun k hk => by simp [eB] at hk; subst hk; exact ⟨hw4, hb4.lt⟩⟩) (List.pairwise_singleton _ _) (fun σ β' X' hs hb hv hN => ?_)⟩
      have hv1 := (hv 14 rfl).1; have hv2 := (hv 14 rfl).2
      exact ⟨hv1.trans (by rw [hv2]; rfl), (by rw [hv2]; exact (List.cons.inj hN).1)⟩
    · exact sv rfl rfl rfl rfl rfl _ (fun _ _ _ h => h) (fun β β' h => by rw [h 14 (by decide)]) fun ρ β W X cx => run_assign' rfl (dTn (cx.anc 1 rfl)).1
  intro σ β X W8 hD hX hst8 fr hfr
  obtain ⟨B14_8, hu_B14_8⟩ : ∃ z, pb (β 14) = z := ⟨_, rfl⟩
  simp only [zM, exq 0 (hX 0 _ rfl), exq 1 ((dTn (hD 1 lq)).2), hu_B14_8] at hst8
  dsimp only [mgT, vals, List.take, List.drop, List.cons_append, List.nil_append] at hfr
  simp only [ed 14 ((dTn (hD 1 lq)).1), ed 4 ((dTn (hD 2 lq))), hu_B14_8] at hfr
  clear hX hD hu_B14_8; subst hfr; clear σ β X
  refine then_normal ?_
  refine wp_seq ?_
  refine wp_region_T [0, 1, 3] [[], [1]] [[], [2]] [[], [1]] [.k 15 (.pointer (some ⟨B14_8, 0, none⟩)), .a 16, .c 5 (.int .i64 ((numS s 0 4 : Int)))] (fun ix σ β X => match ix with | 0 => True | 1 => σ 16 = .int .i64 ((numS s 0 4 : Int)) ∧ X 2 = eB B14_8 154 #[.string s, .int .i64 4, .bool false] | _ => True) [0, 2] [1, 2] [(5, 2, 1, 6), (9, 0, 2, 11)] hst8 ?_ ?_ ?_
  · exact fun ix _ _ _ _ _ _ hs hb hx h => match ix, h with
    | 1, h => by dsimp only at h ⊢; rw [← hs 16 rfl, ← hx 2 rfl]; exact h
    | 0, _ | _ + 2, _ => trivial
  · refine ⟨?_, ?_, trivial⟩
    · refine sv_any rfl rfl fun ρ β W X cx => ?_
      refine DoesU.call (run_callF (args := #[.pointer (some ⟨B14_8, 0, none⟩), .int .i64 4]) rfl cx.sees rfl (by kernel_rfl) (map2 (cx.anc 0 rfl) (cx.sees.const _))) ?_
      refine (num_ok _ s 0 4 _ ⟨(cx.blk (cx.init 1 _ rfl) rfl), by omega, by omega⟩ (by omega) (by omega)).mono ?_
      rintro e W1 ⟨rfl, hrd, hu⟩
      refine ⟨_, rfl, post_mut (cx.init 1 _ rfl) rfl rfl hu hrd.1 (fun σ β' X' hs hb hv hx => ?_)⟩
      exact ⟨(hv 16 rfl).1.trans rfl, hx⟩
    · exact s4 rfl (fun _ _ _ h => h) fun cx => run_assign' rfl (dTn (cx.anc 1 rfl)).1
  intro σ β X W9 hD hX hst9 fr hfr
  simp only [zM, exq 0 (hX 0 _ rfl), exq 2 ((dTn (hD 1 lq)).2)] at hst9
  dsimp only [mgT, vals, List.take, List.drop, List.cons_append, List.nil_append] at hfr
  simp only [ed 16 ((dTn (hD 1 lq)).1)] at hfr
  clear hX hD; subst hfr; clear σ β X
  refine then_normal ?_
  refine wp_seq ?_
  refine wp_region_T [0, 1, 0, 7, 15, 0, 63] [[], [1], [], [2], [], [], [4]] [[], [2], [], [3], [], [4], [5]] [[], [1], [], [2], [], [], [4]] [.k 17 (.pointer (some ⟨B14_8, 0, none⟩)), .a 18, .k 19 (.pointer (some ⟨B14_8, 0, none⟩)), .a 20, .c 21 (.agg #[.int .i64 k, .int .i64 l, .slice none 0 0]), .a 6, .n] (fun ix σ β X => match ix with | 0 => True | 1 => σ 18 = .int .i64 k ∧ X 2 = eB B14_8 154 #[.string s, .int .i64 5, .bool false] | 2 => True | 3 => σ 20 = .int .i64 l ∧ X 3 = eB B14_8 154 #[.string s, .int .i64 9, .bool false] | 4 => True | 5 => σ 6 = .pointer (some ⟨(pb (β 6)), 0, none⟩) ∧ X 4 = eB (pb (β 6)) 94 #[.int .i64 0, .int .i64 0, .slice none 0 0] | 6 => X 5 = eB (pb (β 6)) 94 #[.int .i64 k, .int .i64 l, .slice none 0 0] | _ => True) [0, 3, 5] [1, 3, 4, 5, 6] [(6, 5, 1, 7), (10, 0, 5, 15)] hst9 ?_ ?_ ?_
  · exact fun ix _ _ _ _ _ _ hs hb hx h => match ix, h with
    | 1, h => by dsimp only at h ⊢; rw [← hs 18 rfl, ← hx 2 rfl]; exact h
    | 3, h => by dsimp only at h ⊢; rw [← hs 20 rfl, ← hx 3 rfl]; exact h
    | 5, h => by dsimp only at h ⊢; rw [← hs 6 rfl, ← hb 6 rfl, ← hx 4 rfl]; exact h
    | 6, h => by dsimp only at h ⊢; rw [← hb 6 rfl, ← hx 5 rfl]; exact h
    | 0, _ | 2, _ | 4, _ | _ + 7, _ => trivial
  · refine ⟨?_, ?_, ?_, ?_, ?_, trivial⟩
    · refine sv_any rfl rfl fun ρ β W X cx => ?_
      refine DoesU.call (run_callF (args := #[.pointer (some ⟨B14_8, 0, none⟩), .int .i64 1]) rfl cx.sees rfl (by kernel_rfl) (map2 (cx.anc 0 rfl) (cx.sees.const _))) ?_
      refine (num_ok _ s 4 1 _ ⟨(cx.blk (cx.init 1 _ rfl) rfl), by omega, by omega⟩ (by omega) (by omega)).mono ?_
      rintro e W1 ⟨rfl, hrd, hu⟩
      refine ⟨_, rfl, post_mut (cx.init 1 _ rfl) rfl rfl hu hrd.1 (fun σ β' X' hs hb hv hx => ?_)⟩
      exact ⟨(hv 18 rfl).1.trans (congrArg (Value.int .i64) hh.kind), hx⟩
    · refine sv_any rfl rfl fun ρ β W X cx => ?_
      refine DoesU.call (run_callF (args := #[.pointer (some ⟨B14_8, 0, none⟩), .int .i64 4]) rfl cx.sees rfl (by kernel_rfl) (map2 (cx.anc 2 rfl) (cx.sees.const _))) ?_
      refine (num_ok _ s 5 4 _ ⟨(cx.blk (dTn (cx.anc 1 rfl)).2 rfl), by omega, by omega⟩ (by omega) (by omega)).mono ?_
      rintro e W1 ⟨rfl, hrd, hu⟩
      refine ⟨_, rfl, post_mut (dTn (cx.anc 1 rfl)).2 rfl rfl hu hrd.1 (fun σ β' X' hs hb hv hx => ?_)⟩
      exact ⟨(hv 20 rfl).1.trans (congrArg (Value.int .i64) hh.lsn), hx⟩
    · exact s4 rfl (fun _ _ _ h => h) fun cx => run_buildL rfl (pmc (dTn (cx.anc 1 rfl)).1 (pmc (dTn (cx.anc 3 rfl)).1 pmn)) (by kernel_rfl)
    · refine sv_any rfl rfl fun ρ β W X cx => ?_
      exact dv_alloc (cs := #[.int .i64 0, .int .i64 0, .slice none 0 0]) rfl (by kernel_rfl) rfl rfl (fun σ β' X' hs hb hv hx => ⟨hv, hx⟩)
    · refine sv_any rfl rfl fun ρ β W X cx => ?_
      exact dv_store (n := 3) rfl (dTn (cx.anc 5 rfl)).1 (cx.anc 4 rfl) (by kernel_rfl) (by kernel_rfl) (by kernel_rfl) cx (dTn (cx.anc 5 rfl)).2 rfl (Nat.le_of_ble_eq_true rfl) (by kernel_rfl) rfl rfl rfl (fun σ β' X' hs hb hx => by rw [hb 6]; exact hx)
  intro σ β X W10 hD hX hst10 fr hfr
  obtain ⟨B6_10, hu_B6_10⟩ : ∃ z, pb (β 6) = z := ⟨_, rfl⟩
  simp only [zM, exq 0 (hX 0 _ rfl), exq 3 ((dTn (hD 3 lq)).2), exq 5 ((dTn (hD 6 lq))), hu_B6_10] at hst10
  dsimp only [mgT, vals, List.take, List.drop, List.cons_append, List.nil_append] at hfr
  simp only [ed 18 ((dTn (hD 1 lq)).1), ed 20 ((dTn (hD 3 lq)).1), ed 6 ((dTn (hD 5 lq)).1), hu_B6_10] at hfr
  clear hX hD hu_B6_10; subst hfr; clear σ β X
  refine then_normal ?_
  refine wp_seq ?_
  refine wp_seq ?_
  refine wp_region_T [0, 1, 0, 4, 12, 31, 63, 127, 255, 127, 639, 2047, 4095] [] [] [] [.k 22 (.int .i64 ((numS s 0 4 : Int))), tW 23 .u32 (numS s 0 4 : Int) (numS s 0 4 : Int) (IntWalk.u32_in _ (by omega)), .k 24 (.string s), .c 25 (.string (s.extract 4 s.size)), .c 26 (.int .u32 ((sumF (s.extract 4 s.size) : Int))), .k 27 (.bool ((numS s 0 4 : Int) != (sumF (s.extract 4 s.size) : Int))), .k 28 (.bool ((numS s 0 4 : Int) != (sumF (s.extract 4 s.size) : Int))), .z 29 (!((numS s 0 4 : Int) != (sumF (s.extract 4 s.size) : Int))) (.string s), .y 30 (!((numS s 0 4 : Int) != (sumF (s.extract 4 s.size) : Int))) (.string (s.extract 5 9)), .z 31 (!((numS s 0 4 : Int) != (sumF (s.extract 4 s.size) : Int))) (.string s), .y 32 (!((numS s 0 4 : Int) != (sumF (s.extract 4 s.size) : Int))) (.string (s.extract 508 s.size)), .y 33 (!((numS s 0 4 : Int) != (sumF (s.extract 4 s.size) : Int))) (.bool (!((s.extract 5 9).toList == (s.extract 508 s.size).toList))), tO 34 ((numS s 0 4 : Int) != (sumF (s.extract 4 s.size) : Int)) (!((s.extract 5 9).toList == (s.extract 508 s.size).toList))] (fun _ _ _ _ => True) [0, 1, 2] [3, 4, 8, 10, 11] [(22, 0, 13, 35)] hst10 ?_ ?_ ?_
  · exact fun _ _ _ _ _ _ _ _ _ _ h => h
  · refine ⟨?_, ?_, ?_, ?_, ?_, trivial⟩
    · exact s4 rfl (fun _ _ _ h => h) fun cx => run_slice_lo (l := 4) rfl (by kernel_rfl) (cx.anc 2 rfl) (cx.sees.const _) (by omega) (by omega)
    · exact sv_call rfl rfl rfl rfl rfl (fun _ _ _ h => h) fun ρ β W X cx => ⟨_, _, run_callF (args := #[.string (s.extract 4 s.size)]) rfl cx.sees rfl (by kernel_rfl) (map1 (cx.anc 3 rfl)), osum_any (s.extract 4 s.size) _ (by simp; omega)⟩
    · exact m2 rfl (fun _ _ _ h => h) (fun cx => (cx.anc 6 rfl)) fun cx hq => run_slice_lh (l := 5) (m := 9) rfl (by kernel_rfl) (mbv (cx.anc 7 rfl) hq) (cx.sees.const _) (cx.sees.const _) (by omega) (by omega) (by omega) (by omega)
    · exact m2 rfl (fun _ _ _ h => h) (fun cx => (cx.anc 6 rfl)) fun cx hq => run_slice_lo (l := 508) rfl (by kernel_rfl) (mbv (cx.anc 9 rfl) hq) (cx.sees.const _) (by omega) (by omega)
    · exact m2 rfl (fun _ _ _ h => h) (fun cx => (cx.anc 6 rfl)) fun cx hq => run_strne rfl (mbv (cx.anc 8 rfl) hq) (mbv (cx.anc 10 rfl) hq)
  intro σ β X W11 hD hX hst11 fr hfr
  simp only [zM, exq 0 (hX 0 _ rfl), exq 1 (hX 1 _ rfl), exq 2 (hX 2 _ rfl)] at hst11
  dsimp only [mgT, vals, List.take, List.drop, List.cons_append, List.nil_append] at hfr
  clear hX hD; subst hfr; clear σ β X
  refine then_normal ?_
  rcases Bool.eq_false_or_eq_true (((numS s 0 4 : Int) != (sumF (s.extract 4 s.size) : Int)) || (!((s.extract 5 9).toList == (s.extract 508 s.size).toList))) with hs12 | hs12
  · skip
    have hs12p := hs12
    simp only [zB] at hs12p
    refine wp_cond_true (show Act.eval _ _ = .bool true from (congrArg Value.bool hs12)) ?_
    refine wp_seq ?_
    refine wp_region_T [0, 1, 3] [[], [0]] [[], [3]] [[], [0]] [.k 35 (.agg #[.int .i64 0, .int .i64 0, .slice none 0 0]), .n, .k 3 (.int .i64 12)] (fun ix σ β X => match ix with | 0 => True | 1 => X 3 = eB B2_1 94 #[.int .i64 0, .int .i64 0, .slice none 0 0] | _ => True) [1, 2, 3] [1] [(3, 2, 1, 4), (31, 0, 1, 32)] hst11 ?_ ?_ ?_
    · exact fun ix _ _ _ _ _ _ hs hb hx h => match ix, h with
      | 1, h => by dsimp only at h ⊢; rw [← hx 3 rfl]; exact h
      | 0, _ | _ + 2, _ => trivial
    · refine ⟨?_, trivial⟩
      · refine sv_any rfl rfl fun ρ β W X cx => ?_
        exact dv_store (n := 3) rfl (cx.out 2 rfl) (cx.anc 0 rfl) (by kernel_rfl) (by kernel_rfl) (by kernel_rfl) cx (cx.init 0 _ rfl) rfl (Nat.le_of_ble_eq_true rfl) (by kernel_rfl) rfl rfl rfl (fun σ β' X' hs hb hx => hx)
    intro σ β X W13 hD hX hst13 fr hfr
    simp only [zM, exq 1 (hX 1 _ rfl), exq 2 (hX 2 _ rfl), exq 3 ((dTn (hD 1 lq)))] at hst13
    dsimp only [mgT, vals, List.take, List.drop, List.cons_append, List.nil_append] at hfr
    clear hX hD; subst hfr; clear σ β X
    refine then_normal ?_
    refine wp_ret ?_
    refine then_ret ?_
    have hr14 : W13.cell? ⟨B2_1, 0, none⟩ = some (.int .i64 0) := (hst13.blk 2 rfl).cell 0
    have hr15 : W13.cell? ⟨B2_1, 1, none⟩ = some (.int .i64 0) := (hst13.blk 2 rfl).cell 1
    have hr16 : W13.cell? ⟨B2_1, 2, none⟩ = some (.slice none 0 0) := (hst13.blk 2 rfl).cell 2
    refine bodyPost_ret (v := .tuple #[.agg #[.int .i64 0, .int .i64 0, .slice none 0 0], .int .i64 12]) (by simp [results, Tryd.results48, go_sem, hr14, hr15, hr16]) rfl ?_
    exact absurd ((chk_ok hh).symm.trans (by assumption)) (by decide)
  have hs12p := hs12
  simp only [zB] at hs12p
  obtain ⟨hs12p1, hs12p2⟩ := hs12p
  refine wp_cond_false (show Act.eval _ _ = .bool false from (congrArg Value.bool hs12)) ?_
  refine wp_skip ?_
  refine then_normal ?_
  refine wp_seq ?_
  refine wp_seq ?_
  refine wp_region_T [0, 1, 0] [[], [1]] [[], [3]] [[], [1]] [.k 36 (.pointer (some ⟨B14_8, 0, none⟩)), .a 37, .k 38 (.int .i64 0)] (fun ix σ β X => match ix with | 0 => True | 1 => σ 37 = .int .i64 ((I.length : Int)) ∧ X 3 = eB B14_8 154 #[.string s, .int .i64 10, .bool false] | _ => True) [0, 2, 3] [1] [(36, 0, 3, 39)] hst11 ?_ ?_ ?_
  · exact fun ix _ _ _ _ _ _ hs hb hx h => match ix, h with
    | 1, h => by dsimp only at h ⊢; rw [← hs 37 rfl, ← hx 3 rfl]; exact h
    | 0, _ | _ + 2, _ => trivial
  · refine ⟨?_, trivial⟩
    · refine sv_any rfl rfl fun ρ β W X cx => ?_
      refine DoesU.call (run_callF (args := #[.pointer (some ⟨B14_8, 0, none⟩), .int .i64 1]) rfl cx.sees rfl (by kernel_rfl) (map2 (cx.anc 0 rfl) (cx.sees.const _))) ?_
      refine (num_ok _ s 9 1 _ ⟨(cx.blk (cx.init 1 _ rfl) rfl), by omega, by omega⟩ (by omega) (by omega)).mono ?_
      rintro e W1 ⟨rfl, hrd, hu⟩
      refine ⟨_, rfl, post_mut (cx.init 1 _ rfl) rfl rfl hu hrd.1 (fun σ β' X' hs hb hv hx => ?_)⟩
      exact ⟨(hv 37 rfl).1.trans (congrArg (fun n : Nat => Value.int .i64 (n : Int)) hh.many), hx⟩
  intro σ β X W17 hD hX hst17 fr hfr
  simp only [zM, exq 0 (hX 0 _ rfl), exq 2 (hX 2 _ rfl), exq 3 ((dTn (hD 1 lq)).2)] at hst17
  dsimp only [mgT, vals, List.take, List.drop, List.cons_append, List.nil_append] at hfr
  simp only [ed 37 ((dTn (hD 1 lq)).1)] at hfr
  clear hX hD; subst hfr; clear σ β X
  refine then_normal ?_
  refine wp_block ?_
  have hn18 := St.nilrow hst17 9
  refine wp_loopN (fun mz az W => ∃ j : Nat, ∃ A : Option Addr, ∃ c : Nat, ∃ u19_ : List Value, j ≤ I.length ∧ mz = I.length - j ∧ az = ⟨#[.string s, undef, .pointer (some ⟨B2_1, 0, none⟩), .int .i64 0, .pointer (some ⟨B14_8, 0, none⟩), .int .i64 ((numS s 0 4 : Int)), .pointer (some ⟨B6_10, 0, none⟩), undef, undef, .string s, .int .i64 ((s.size : Int)), .bool ((s.size : Int) != 512), undef, .string s, .pointer (some ⟨B14_8, 0, none⟩), .pointer (some ⟨B14_8, 0, none⟩), .int .i64 ((numS s 0 4 : Int)), .pointer (some ⟨B14_8, 0, none⟩), .int .i64 k, .pointer (some ⟨B14_8, 0, none⟩), .int .i64 l, .agg #[.int .i64 k, .int .i64 l, .slice none 0 0], .int .i64 ((numS s 0 4 : Int)), .int .u32 ((numS s 0 4 : Int)), .string s, .string (s.extract 4 s.size), .int .u32 ((sumF (s.extract 4 s.size) : Int)), .bool ((numS s 0 4 : Int) != (sumF (s.extract 4 s.size) : Int)), .bool ((numS s 0 4 : Int) != (sumF (s.extract 4 s.size) : Int)), mb (!((numS s 0 4 : Int) != (sumF (s.extract 4 s.size) : Int))) (.string s), mb (!((numS s 0 4 : Int) != (sumF (s.extract 4 s.size) : Int))) (.string (s.extract 5 9)), mb (!((numS s 0 4 : Int) != (sumF (s.extract 4 s.size) : Int))) (.string s), mb (!((numS s 0 4 : Int) != (sumF (s.extract 4 s.size) : Int))) (.string (s.extract 508 s.size)), mb (!((numS s 0 4 : Int) != (sumF (s.extract 4 s.size) : Int))) (.bool (!((s.extract 5 9).toList == (s.extract 508 s.size).toList))), .bool (((numS s 0 4 : Int) != (sumF (s.extract 4 s.size) : Int)) || (!((s.extract 5 9).toList == (s.extract 508 s.size).toList))), undef, .pointer (some ⟨B14_8, 0, none⟩), .int .i64 ((I.length : Int)), .int .i64 ((j : Int)), (u19_.getD 0 undef), (u19_.getD 1 undef), (u19_.getD 2 undef), (u19_.getD 3 undef), (u19_.getD 4 undef), (u19_.getD 5 undef), (u19_.getD 6 undef), (u19_.getD 7 undef), (u19_.getD 8 undef), undef, undef, undef, undef, undef, undef, undef, undef, undef, undef, undef, undef, undef, undef, undef, undef, undef, undef, undef, undef, undef, undef], []⟩ ∧ St w [] [eB B2_1 94 #[.int .i64 0, .int .i64 0, .slice none 0 0], eB B14_8 154 #[.string s, .int .i64 (((10 + sizeT (I.take j) : Nat) : Int)), .bool false], eB B6_10 94 #[.int .i64 k, .int .i64 l, .slice A j c], eO 9 1 (.slice A j c) j ((I.take j).map Value.string)] W) (I.length - 0) ?_ ?_
  · -- the loop begins
    have hp20 := hn18.pick [0, 2, 1, 3] (by decide) rfl
    exact ⟨0, none, 0, [undef, undef, undef, undef, undef, undef, undef, undef, undef], by omega, rfl, rfl, hp20⟩
  rintro n19 a19 W19 ⟨j, A, c, u19_, hj, rfl, rfl, hst19⟩
  refine wp_seq ?_
  refine wp_region_P [0] [.k 39 (.bool (decide ((j : Int) < (I.length : Int))))] [(39, 0, 1, 40)] hst19 fun W21 hst21 => ?_
  refine then_normal ?_
  refine wp_seq ?_
  rcases Bool.eq_false_or_eq_true (decide ((j : Int) < (I.length : Int))) with hs22 | hs22
  · skip
    have hs22p : (j : Int) < (I.length : Int) := by simpa using hs22
    refine wp_cond_true (show Act.eval _ _ = .bool true from (congrArg Value.bool hs22)) ?_
    refine wp_skip ?_
    refine then_normal ?_
    refine wp_seq ?_
    refine wp_block ?_
    have htj := hh.text j (by omega)
    refine wp_region_T [0, 1, 0, 4, 12, 31, 63, 127] [[], [2], [], [1], [], [5, 3], [], [2]] [[], [], [], [4], [5], [6], [], [7]] [[], [], [], [1], [], [3], [], [2]] [.k 40 (.pointer (some ⟨B6_10, 2, none⟩)), .c 41 (.slice A j c), .k 42 (.pointer (some ⟨B14_8, 0, none⟩)), .a 43, .a 44, .a 45, .k 46 (.pointer (some ⟨B6_10, 2, none⟩)), .n] (fun ix σ β X => match ix with | 0 => True | 1 => True | 2 => True | 3 => σ 43 = .string ((I.getD j ByteArray.empty)) ∧ X 4 = eB B14_8 154 #[.string s, .int .i64 (((10 + sizeT (I.take (j + 1)) : Nat) : Int)), .bool false] | 4 => σ 44 = .slice (sA (β 44)) 1 1 ∧ X 5 = eO 9 1 (.slice (sA (β 44)) 1 1) 1 ([.string ((I.getD j ByteArray.empty))]) | 5 => σ 45 = .slice (sA (β 45)) (j + 1) (sC (β 45)) ∧ X 6 = eO 9 1 (.slice (sA (β 45)) (j + 1) (sC (β 45))) (j + 1) ((I.take (j + 1)).map Value.string) | 6 => True | 7 => X 7 = eB B6_10 94 #[.int .i64 k, .int .i64 l, .slice (sA (β 45)) (j + 1) (sC (β 45))] | _ => True) [0, 4, 5, 6, 7] [1, 3, 4, 5, 7] [(40, 0, 7, 47)] hst21 ?_ ?_ ?_
    · exact fun ix _ _ _ _ _ _ hs hb hx h => match ix, h with
      | 3, h => by dsimp only at h ⊢; rw [← hs 43 rfl, ← hx 4 rfl]; exact h
      | 4, h => by dsimp only at h ⊢; rw [← hs 44 rfl, ← hb 44 rfl, ← hx 5 rfl]; exact h
      | 5, h => by dsimp only at h ⊢; rw [← hs 45 rfl, ← hb 45 rfl, ← hx 6 rfl]; exact h
      | 7, h => by dsimp only at h ⊢; rw [← hb 45 rfl, ← hx 7 rfl]; exact h
      | 0, _ | 1, _ | 2, _ | 6, _ | _ + 8, _ => trivial
    · refine ⟨?_, ?_, ?_, ?_, ?_, trivial⟩
      · exact s4 rfl (fun _ _ _ h => h) fun cx => run_load1 rfl (by kernel_rfl) (cx.anc 0 rfl) ((cx.blk (cx.init 2 _ rfl) rfl).cell 2)
      · refine sv_any rfl rfl fun ρ β W X cx => ?_
        refine DoesU.call (run_callF (args := #[.pointer (some ⟨B14_8, 0, none⟩)]) rfl cx.sees rfl (by kernel_rfl) (map1 (cx.anc 2 rfl))) ?_
        refine (text_ok _ s (10 + sizeT (I.take j)) _ ⟨(cx.blk (cx.init 1 _ rfl) rfl), by omega, by omega⟩ htj.1 htj.2.1).mono ?_
        rintro e W1 ⟨rfl, hrd, hu⟩
        have hb9 := hrd.1
        rw [htj.2.2.2] at hb9
        refine ⟨_, rfl, post_mut (cx.init 1 _ rfl) rfl rfl hu hb9 (fun σ β' X' hs hb hv hx => ?_)⟩
        exact ⟨(hv 43 rfl).1.trans (congrArg Value.string htj.2.2.1), hx⟩
      · refine sv_any rfl rfl fun ρ β W X cx => ?_
        have fF43 : ρ (.tmp 43) = .string ((I.getD j ByteArray.empty)) := (dTn (cx.anc 3 rfl)).1
        exact dv_lit (e := 9) (xs := [.string ((I.getD j ByteArray.empty))]) rfl (by simp [go_sem, fF43]) rfl (by decide) rfl rfl (fun σ β' X' hs hb hv hx => ⟨hv, hx⟩)
      · refine sv_any rfl rfl fun ρ β W X cx => ?_
        obtain ⟨i0, hi0, hz0, hz1, hz2⟩ := info_parts Tryd.infoStr
        refine dv_append (n := j) (m := 1) (nm := j + 1) (xs := (I.take j).map Value.string) (news := [.string ((I.getD j ByteArray.empty))]) (xs' := (I.take (j + 1)).map Value.string) rfl (ty := 92) rfl (by kernel_rfl) hi0 hz0 hz1 hz2 rfl (cx.anc 1 rfl) cx (cx.init 3 _ rfl) rfl (dTn (cx.anc 4 rfl)).1 (by first | (simp; done) | (simp; omega)) (At.of_own (cx.row (dTn (cx.anc 4 rfl)).2 rfl)) (by simp [Value.oneCell']) (by simp only [maxLen]; omega) (by omega) rfl rfl rfl (by omega) (rd_snoc (by omega)) (fun σ β' X' hs hb hv hx => ?_)
        exact ⟨hv, hx⟩
      · refine sv_any rfl rfl fun ρ β W X cx => ?_
        exact dv_store (n := 1) rfl (cx.anc 6 rfl) (dTn (cx.anc 5 rfl)).1 (by kernel_rfl) (by kernel_rfl) (by kernel_rfl) cx (cx.init 2 _ rfl) rfl (Nat.le_of_ble_eq_true rfl) (by kernel_rfl) rfl rfl rfl (fun σ β' X' hs hb hx => by rw [hb 45]; exact hx)
    intro σ β X W23 hD hX hst23 fr hfr
    obtain ⟨A44_23, hu_A44_23⟩ : ∃ z, sA (β 44) = z := ⟨_, rfl⟩
    obtain ⟨A45_23, hu_A45_23⟩ : ∃ z, sA (β 45) = z := ⟨_, rfl⟩
    obtain ⟨c45_23, hu_c45_23⟩ : ∃ z, sC (β 45) = z := ⟨_, rfl⟩
    simp only [zM, exq 0 (hX 0 _ rfl), exq 4 ((dTn (hD 3 lq)).2), exq 5 ((dTn (hD 4 lq)).2), exq 6 ((dTn (hD 5 lq)).2), exq 7 ((dTn (hD 7 lq))), hu_A44_23, hu_A45_23, hu_c45_23] at hst23
    dsimp only [mgT, vals, List.take, List.drop, List.cons_append, List.nil_append] at hfr
    simp only [ed 43 ((dTn (hD 3 lq)).1), ed 44 ((dTn (hD 4 lq)).1), ed 45 ((dTn (hD 5 lq)).1), hu_A44_23, hu_A45_23, hu_c45_23] at hfr
    clear hX hD hu_A44_23 hu_A45_23 hu_c45_23; subst hfr; clear σ β X
    refine blk_normal ?_
    refine then_normal ?_
    refine wp_region_P [0, 1] [tI 47 ((j : Int) + 1) (by omega), .k 38 (.int .i64 ((j : Int) + 1))] [(38, 1, 1, 39), (8, 0, 1, 9)] hst23 fun W24 hst24 => ?_
    refine then_normal ?_
    refine ⟨I.length - ((j + 1)), by omega, ?_⟩
    have hp25 := hst24.pick [0, 1, 4, 3] (by decide) rfl
    exact ⟨(j + 1), A45_23, c45_23, [.bool (decide ((j : Int) < (I.length : Int))), .pointer (some ⟨B6_10, 2, none⟩), .slice A j c, .pointer (some ⟨B14_8, 0, none⟩), .string ((I.getD j ByteArray.empty)), .slice A44_23 1 1, .slice A45_23 (j + 1) c45_23, .pointer (some ⟨B6_10, 2, none⟩), .int .i64 ((j : Int) + 1)], by omega, rfl, rfl, hp25⟩
  have hs22p : ¬ ((j : Int) < (I.length : Int)) := by simpa using hs22
  refine wp_cond_false (show Act.eval _ _ = .bool false from (congrArg Value.bool hs22)) ?_
  refine wp_exit ?_
  refine then_exit ?_
  refine then_exit ?_
  refine blk_eq ?_
  refine then_normal ?_
  refine wp_seq ?_
  refine wp_seq ?_
  obtain rfl : j = I.length := by omega
  rw [List.take_length] at hst21
  refine wp_region_T [0, 1, 3, 7, 7, 15, 63] [[2], [3]] [] [] [.c 49 (.agg #[.int .i64 k, .int .i64 l, .slice A I.length c]), .c 50 (.tuple #[.string s, .int .i64 0]), .k 48 (.tuple #[.string s, .int .i64 0]), .k 51 (.string s), .k 52 (.int .i64 0), .k 7 (.string s), .k 8 (.int .i64 0)] (fun _ _ _ _ => True) [0, 1, 2, 3] [0, 1] [(7, 5, 2, 9), (39, 2, 1, 40), (0, 0, 2, 2), (0, 3, 2, 2)] hst21 ?_ ?_ ?_
  · exact fun _ _ _ _ _ _ _ _ _ _ h => h
  · refine ⟨?_, ?_, trivial⟩
    · exact s4 rfl (fun _ _ _ h => h) fun cx => run_loadB (n := 3) rfl (by kernel_rfl) (by kernel_rfl) (cx.out 6 rfl) (cx.blk (cx.init 2 _ rfl) rfl) (Nat.le_of_ble_eq_true rfl) rfl
    · exact sv_call rfl rfl rfl rfl rfl (fun _ _ _ h => h) fun ρ β W X cx => ⟨_, _, run_callF (args := #[.agg #[.int .i64 k, .int .i64 l, .slice A I.length c]]) rfl cx.sees rfl (by kernel_rfl) (map1 (cx.anc 0 rfl)), pgbytes_s hh _ _ _ (At.of_own (cx.row (cx.init 3 _ rfl) rfl)) hS⟩
  intro σ β X W26 hD hX hst26 fr hfr
  simp only [zM, exq 0 (hX 0 _ rfl), exq 1 (hX 1 _ rfl), exq 2 (hX 2 _ rfl), exq 3 (hX 3 _ rfl)] at hst26
  dsimp only [mgT, vals, List.take, List.drop, List.cons_append, List.nil_append] at hfr
  clear hX hD; subst hfr; clear σ β X
  refine then_normal ?_
  refine wp_seq ?_
  refine wp_region_T [0, 1, 3, 7, 15, 31, 63, 127, 127, 511, 1023] [[], [1]] [] [] [.k 53 (.pointer (some ⟨B14_8, 0, none⟩)), .a 54, .c 55 (.bool false), .k 56 (.int .i64 0), .k 57 (.bool false), .k 58 (.bool false), .k 59 (.bool false), .k 60 (.string s), .k 61 (.string s), .k 62 (.bool (!(s.toList == s.toList))), .k 63 (.bool (!(s.toList == s.toList)))] (fun ix σ β X => match ix with | 0 => True | 1 => σ 54 = .bool false | _ => True) [0, 1, 2, 3] [1, 2] [(53, 0, 11, 64)] hst26 ?_ ?_ ?_
  · exact fun ix _ _ _ _ _ _ hs hb hx h => match ix, h with
    | 1, h => (hs _ rfl).symm.trans h
    | 0, _ | _ + 2, _ => trivial
  · refine ⟨?_, ?_, trivial⟩
    · refine sv_any rfl rfl fun ρ β W X cx => ?_
      refine DoesU.call (run_callF (args := #[.pointer (some ⟨B14_8, 0, none⟩)]) rfl cx.sees rfl (by kernel_rfl) (map1 (cx.anc 0 rfl))) ?_
      refine (failed_any _ s (10 + sizeT I) false _ ⟨(cx.blk (cx.init 1 _ rfl) rfl), by omega, by omega⟩).mono ?_
      rintro e W1 ⟨rfl, rfl⟩
      refine ⟨_, rfl, post_call [] rfl rfl (Ext.refl _) (by simp) List.Pairwise.nil (fun σ β' X' hs hb hv hN => ?_)⟩
      have hv1 := (hv 54 rfl).1; have hv2 := (hv 54 rfl).2
      exact hv1.trans rfl
    · exact s4 rfl (fun _ _ _ h => h) fun cx => run_move' rfl (dTn (cx.anc 1 rfl))
  intro σ β X W27 hD hX hst27 fr hfr
  simp only [zM, exq 0 (hX 0 _ rfl), exq 1 (hX 1 _ rfl), exq 2 (hX 2 _ rfl), exq 3 (hX 3 _ rfl)] at hst27
  dsimp only [mgT, vals, List.take, List.drop, List.cons_append, List.nil_append] at hfr
  simp only [ed 54 ((dTn (hD 1 lq)))] at hfr
  clear hX hD; subst hfr; clear σ β X
  refine then_normal ?_
  rcases Bool.eq_false_or_eq_true (s.toList == s.toList) with hs28 | hs28
  · skip
    refine wp_cond_false (show Act.eval _ _ = .bool false from (congrArg Value.bool (by rw [hs28]; rfl))) ?_
    refine wp_skip ?_
    refine then_normal ?_
    refine wp_seq ?_
    refine wp_region_T [0, 1, 3, 7, 15] [[], [2], [3], [], [2]] [[], [], [4], [], [5]] [[], [], [], [], [2]] [.k 65 (.pointer (some ⟨B6_10, 2, none⟩)), .c 66 (.slice A I.length c), .a 67, .k 68 (.pointer (some ⟨B6_10, 2, none⟩)), .n] (fun ix σ β X => match ix with | 0 => True | 1 => True | 2 => σ 67 = .slice (sA (β 67)) ((plainL I).length) ((plainL I).length) ∧ X 4 = eO 9 1 (.slice (sA (β 67)) ((plainL I).length) ((plainL I).length)) ((plainL I).length) ((plainL I).map Value.string) | 3 => True | 4 => X 5 = eB B6_10 94 #[.int .i64 k, .int .i64 l, .slice (sA (β 67)) ((plainL I).length) ((plainL I).length)] | _ => True) [0, 1, 3, 4, 5] [1, 2, 4] [(65, 0, 4, 69)] hst27 ?_ ?_ ?_
    · exact fun ix _ _ _ _ _ _ hs hb hx h => match ix, h with
      | 2, h => by dsimp only at h ⊢; rw [← hs 67 rfl, ← hb 67 rfl, ← hx 4 rfl]; exact h
      | 4, h => by dsimp only at h ⊢; rw [← hb 67 rfl, ← hx 5 rfl]; exact h
      | 0, _ | 1, _ | 3, _ | _ + 5, _ => trivial
    · refine ⟨?_, ?_, ?_, trivial⟩
      · exact s4 rfl (fun _ _ _ h => h) fun cx => run_load1 rfl (by kernel_rfl) (cx.anc 0 rfl) ((cx.blk (cx.init 2 _ rfl) rfl).cell 2)
      · refine sv_any rfl rfl fun ρ β W X cx => ?_
        refine DoesU.call (run_callF (args := #[.slice A I.length c]) rfl cx.sees rfl (by kernel_rfl) (map1 (cx.anc 1 rfl))) ?_
        refine (plain_any _ _ I _ (At.of_own (cx.row (cx.init 3 _ rfl) rfl)) (by have h_ := (hS).1; omega)).mono ?_
        rintro e W1 ⟨rfl, ho, hx⟩
        refine ⟨_, rfl, post_call [eO 9 1 (.slice (some ⟨W.heap.size, 0, none⟩) ((plainL I).length) ((plainL I).length)) ((plainL I).length) ((plainL I).map Value.string)] rfl rfl hx (one_new (eO_new ho)) (List.pairwise_singleton _ _) (fun σ β' X' hs hb hv hN => ?_)⟩
        have hv1 := (hv 67 rfl).1; have hv2 := (hv 67 rfl).2
        exact ⟨hv1.trans (by rw [hv2]; rfl), (by rw [hv2]; exact (List.cons.inj hN).1)⟩
      · refine sv_any rfl rfl fun ρ β W X cx => ?_
        exact dv_store (n := 1) rfl (cx.anc 3 rfl) (dTn (cx.anc 2 rfl)).1 (by kernel_rfl) (by kernel_rfl) (by kernel_rfl) cx (cx.init 2 _ rfl) rfl (Nat.le_of_ble_eq_true rfl) (by kernel_rfl) rfl rfl rfl (fun σ β' X' hs hb hx => by rw [hb 67]; exact hx)
    intro σ β X W29 hD hX hst29 fr hfr
    obtain ⟨A67_29, hu_A67_29⟩ : ∃ z, sA (β 67) = z := ⟨_, rfl⟩
    simp only [zM, exq 0 (hX 0 _ rfl), exq 1 (hX 1 _ rfl), exq 3 (hX 3 _ rfl), exq 4 ((dTn (hD 2 lq)).2), exq 5 ((dTn (hD 4 lq))), hu_A67_29] at hst29
    dsimp only [mgT, vals, List.take, List.drop, List.cons_append, List.nil_append] at hfr
    simp only [ed 67 ((dTn (hD 2 lq)).1), hu_A67_29] at hfr
    clear hX hD hu_A67_29; subst hfr; clear σ β X
    refine then_normal ?_
    refine wp_seq ?_
    refine wp_region_T [0, 1, 3] [[4], [0]] [[], [5]] [[], [0]] [.c 69 (.agg #[.int .i64 k, .int .i64 l, .slice A67_29 ((plainL I).length) ((plainL I).length)]), .n, .k 3 (.int .i64 0)] (fun ix σ β X => match ix with | 0 => True | 1 => X 5 = eB B2_1 94 #[.int .i64 k, .int .i64 l, .slice A67_29 ((plainL I).length) ((plainL I).length)] | _ => True) [1, 2, 3, 4, 5] [0, 1] [(3, 2, 1, 4), (65, 0, 1, 66)] hst29 ?_ ?_ ?_
    · exact fun ix _ _ _ _ _ _ hs hb hx h => match ix, h with
      | 1, h => by dsimp only at h ⊢; rw [← hx 5 rfl]; exact h
      | 0, _ | _ + 2, _ => trivial
    · refine ⟨?_, ?_, trivial⟩
      · exact s4 rfl (fun _ _ _ h => h) fun cx => run_loadB (n := 3) rfl (by kernel_rfl) (by kernel_rfl) (cx.out 6 rfl) (cx.blk (cx.init 4 _ rfl) rfl) (Nat.le_of_ble_eq_true rfl) rfl
      · refine sv_any rfl rfl fun ρ β W X cx => ?_
        exact dv_store (n := 3) rfl (cx.out 2 rfl) (cx.anc 0 rfl) (by kernel_rfl) (by kernel_rfl) (by kernel_rfl) cx (cx.init 0 _ rfl) rfl (Nat.le_of_ble_eq_true rfl) (by kernel_rfl) rfl rfl rfl (fun σ β' X' hs hb hx => hx)
    intro σ β X W30 hD hX hst30 fr hfr
    simp only [zM, exq 1 (hX 1 _ rfl), exq 2 (hX 2 _ rfl), exq 3 (hX 3 _ rfl), exq 4 (hX 4 _ rfl), exq 5 ((dTn (hD 1 lq)))] at hst30
    dsimp only [mgT, vals, List.take, List.drop, List.cons_append, List.nil_append] at hfr
    clear hX hD; subst hfr; clear σ β X
    refine then_normal ?_
    refine wp_ret ?_
    have hr31 : W30.cell? ⟨B2_1, 0, none⟩ = some (.int .i64 k) := (hst30.blk 4 rfl).cell 0
    have hr32 : W30.cell? ⟨B2_1, 1, none⟩ = some (.int .i64 l) := (hst30.blk 4 rfl).cell 1
    have hr33 : W30.cell? ⟨B2_1, 2, none⟩ = some (.slice A67_29 ((plainL I).length) ((plainL I).length)) := (hst30.blk 4 rfl).cell 2
    refine bodyPost_ret (v := .tuple #[.agg #[.int .i64 k, .int .i64 l, .slice A67_29 ((plainL I).length) ((plainL I).length)], .int .i64 0]) (by simp [results, Tryd.results48, go_sem, hr31, hr32, hr33]) rfl ?_
    exact ⟨_, _, rfl, hst30.own' 2 rfl, hst30.ext⟩
  refine wp_cond_true (show Act.eval _ _ = .bool true from (congrArg Value.bool (by rw [hs28]; rfl))) ?_
  refine wp_seq ?_
  refine wp_region_T [0, 1, 3] [[], [0]] [[], [4]] [[], [0]] [.k 64 (.agg #[.int .i64 0, .int .i64 0, .slice none 0 0]), .n, .k 3 (.int .i64 22)] (fun ix σ β X => match ix with | 0 => True | 1 => X 4 = eB B2_1 94 #[.int .i64 0, .int .i64 0, .slice none 0 0] | _ => True) [1, 2, 3, 4] [1] [(3, 2, 1, 4), (60, 0, 1, 61)] hst27 ?_ ?_ ?_
  · exact fun ix _ _ _ _ _ _ hs hb hx h => match ix, h with
    | 1, h => by dsimp only at h ⊢; rw [← hx 4 rfl]; exact h
    | 0, _ | _ + 2, _ => trivial
  · refine ⟨?_, trivial⟩
    · refine sv_any rfl rfl fun ρ β W X cx => ?_
      exact dv_store (n := 3) rfl (cx.out 2 rfl) (cx.anc 0 rfl) (by kernel_rfl) (by kernel_rfl) (by kernel_rfl) cx (cx.init 0 _ rfl) rfl (Nat.le_of_ble_eq_true rfl) (by kernel_rfl) rfl rfl rfl (fun σ β' X' hs hb hx => hx)
  intro σ β X W34 hD hX hst34 fr hfr
  simp only [zM, exq 1 (hX 1 _ rfl), exq 2 (hX 2 _ rfl), exq 3 (hX 3 _ rfl), exq 4 ((dTn (hD 1 lq)))] at hst34
  dsimp only [mgT, vals, List.take, List.drop, List.cons_append, List.nil_append] at hfr
  clear hX hD; subst hfr; clear σ β X
  refine then_normal ?_
  refine wp_ret ?_
  refine then_ret ?_
  have hr35 : W34.cell? ⟨B2_1, 0, none⟩ = some (.int .i64 0) := (hst34.blk 3 rfl).cell 0
  have hr36 : W34.cell? ⟨B2_1, 1, none⟩ = some (.int .i64 0) := (hst34.blk 3 rfl).cell 1
  have hr37 : W34.cell? ⟨B2_1, 2, none⟩ = some (.slice none 0 0) := (hst34.blk 3 rfl).cell 2
  refine bodyPost_ret (v := .tuple #[.agg #[.int .i64 0, .int .i64 0, .slice none 0 0], .int .i64 22]) (by simp [results, Tryd.results48, go_sem, hr35, hr36, hr37]) rfl ?_
  exact absurd ‹(s.toList == s.toList) = false› (by simp)

/-- Read gives back what Bytes wrote -/
theorem pgread_any (k l : Int) (ss : List ByteArray) (w : World) (hr : rightB k l ss = true) : Calls Tryd.prog 48 #[.string (bytesF k l (plainL ss))] w (PgPost k l (plainL ss) 0 w) := by
  have h := pgread_s _ k l (plainL ss) w (says_bytes hr)
  rw [plain_plain] at h
  exact h
end Go.Proofs.YtfjpglohcppjeaaDoor

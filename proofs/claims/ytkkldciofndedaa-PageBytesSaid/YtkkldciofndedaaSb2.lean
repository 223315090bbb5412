/- strings.Builder with a finer frame: only the builder's block, and rows of bytes, turn. -/
import Derived.Test.YtkkldciofndedaaSb
import Derived.Test.YtkkldciofndedaaShelf
namespace Go.Proofs.Ytkkldciofndedaa
open Go.RowKit
set_option linter.unusedVariables false

/-- only block b, rows of bytes from base on, and what is new, have turned -/
structure Bw (base b : Nat) (w w' : World) : Prop where
  os : w'.os = w.os
  tape : w'.tape = w.tape
  output : w'.output = w.output
  size : w.heap.size ≤ w'.heap.size
  low : ∀ g, g < base → w'.heap[g]? = w.heap[g]?
  other : ∀ g t cs, g ≠ b → t ≠ 5 → Blk w g t cs → Blk w' g t cs
theorem Bw.refl (base b : Nat) (w : World) : Bw base b w w := ⟨rfl, rfl, rfl, Nat.le_refl _, fun _ _ => rfl, fun _ _ _ _ _ h => h⟩
theorem Bw.trans {base b : Nat} {x y z : World} (h : Bw base b x y) (k : Bw base b y z) : Bw base b x z :=
  ⟨k.os.trans h.os, k.tape.trans h.tape, k.output.trans h.output, Nat.le_trans h.size k.size, fun g hg => (k.low g hg).trans (h.low g hg), fun g t cs h1 h2 h3 => k.other g t cs h1 h2 (h.other g t cs h1 h2 h3)⟩
theorem Bw.of_ext {base b : Nat} {w w' : World} (h : Ext w w') (hb : base ≤ w.heap.size) : Bw base b w w' :=
  ⟨h.out.os, h.out.tape, h.out.output, h.size, fun g hg => h.block (by omega), fun g t cs _ _ hk => hk.ext h⟩
theorem Bw.ext {base b : Nat} {x y z : World} (h : Bw base b x y) (k : Ext y z) (hb : base ≤ y.heap.size) : Bw base b x z := h.trans (Bw.of_ext k hb)
theorem Bw.set {base b : Nat} (w : World) (hb : base ≤ b) (i : Nat) (u : Value) : Bw base b w (w.setCell ⟨b, i, none⟩ u) :=
  ⟨rfl, rfl, rfl, by simp [World.setCell], fun g hg => Below.heap_setCell w _ u g (fun e => by have : g = b := e; omega), fun g t cs hne _ hk => hk.far hne u⟩
theorem Bw.grown {base b : Nat} {w w' : World} {v : Value} {n : Nat} {xs : List Value} (ho : w.ownsRow base 5 1 v n xs) (hg : w.grownBy w' v.ownBlock) (hb : base ≤ w.heap.size) : Bw base b w w' :=
  ⟨hg.os, hg.tape, hg.output, hg.size, fun g hlt => hg.block g (by omega) (fun e => by have := own_block ho g e.symm; omega), fun g t cs _ ht hk => hk.grown hg (own_ne ho hk (fun e => ht e.symm))⟩
theorem Bw.to_ext {base b : Nat} {w w' : World} (h : Bw base b w w') (hb : w.heap.size ≤ base) : Ext w w' := ⟨h.os, h.tape, h.output, h.size, fun k hk => h.low k (by omega)⟩
theorem Ext.bw {base b : Nat} {x y z : World} (h : Ext x y) (k : Bw base b y z) (hb : x.heap.size ≤ base) : Ext x z :=
  ⟨k.os.trans h.out.os, k.tape.trans h.out.tape, k.output.trans h.out.output, Nat.le_trans h.size k.size, fun i hi => (k.low i (by omega)).trans (h.block hi)⟩
theorem own_bw {base b : Nat} {w w' : World} {base' : Nat} {e : TypeId} {v : Value} {n : Nat} {xs : List Value} (h : w.ownsRow base' e 1 v n xs) (hx : Bw base b w w') (he : e ≠ 5) (hb : v.ownBlock ≠ some b) : w'.ownsRow base' e 1 v n xs := by
  refine ⟨h.1, ?_⟩
  rcases h.2 with hn | ⟨g, cap, cur, rfl, hbg, hgg, rest⟩
  · exact .inl hn
  · exact .inr ⟨g, cap, cur, rfl, hbg, hx.other g e cur (fun e => hb (by rw [← e]; rfl)) he hgg, rest⟩

/-- the builder in block b holds bs, in a row of its own -/
def SbS (base : Nat) (w : World) (b : Nat) (bs : List Value) : Prop :=
  base ≤ b ∧ ∃ p v, Blk w b 87 #[p, v] ∧ (p = .pointer none ∨ p = .pointer (some ⟨b, 0, none⟩)) ∧ w.ownsRow base 5 1 v bs.length bs
theorem SbS.ext {base : Nat} {w w' : World} {b : Nat} {bs : List Value} (h : SbS base w b bs) (hx : Ext w w') : SbS base w' b bs := by
  obtain ⟨h1, p, v, h2, h3, h4⟩ := h
  exact ⟨h1, p, v, h2.ext hx, h3, own_ext h4 hx⟩
theorem SbS.is {base : Nat} {w : World} {b : Nat} {bs : List Value} (h : SbS base w b bs) : Lib.IsBuilder 87 5 base b bs w := by
  obtain ⟨h1, p, v, h2, h3, h4⟩ := h
  have hne := own_ne h4 h2 (by decide)
  rcases h3 with rfl | rfl
  · exact .inl ⟨h1, v, h2, h4, hne⟩
  · exact .inr ⟨h1, v, h2, h4, hne⟩
theorem SbS.new {base : Nat} {w : World} {b : Nat} (h : Blk w b 87 #[.pointer none, .slice none 0 0]) (hb : base ≤ b) : SbS base w b [] := ⟨hb, _, _, h, .inl rfl, World.ownsRow_nil _ _ _ _⟩

set_option maxHeartbeats 2000000 in
set_option maxRecDepth 100000 in
theorem sbw_any (base b : Nat) (bs : List Value) (s : ByteArray) (w : World) (h : SbS base w b bs) (hlen : bs.length + s.size ≤ 1000000) (hBw : base ≤ w.heap.size) :
    Calls Try.prog 47 #[.pointer (some ⟨b, 0, none⟩), .string s] w fun e w' => e = .returned (.tuple #[.int .i64 s.size, .nilIface]) ∧ SbS base w' b (bs ++ Lib.strCells s) ∧ Bw base b w w' := by
  obtain ⟨i0, hi, hz0, hz1, hz2⟩ := info_parts Try.infoU8
  obtain ⟨hB, p, v, hbk0, hp, hown0⟩ := h
  have hne := own_ne hown0 hbk0 (by decide)
  go_enter Try.func47, Try.ntmps47
  go_wp2_with fail
  have hck : Calls Try.prog 63 #[.pointer (some ⟨b, 0, none⟩)] w fun e w' => e = .returned (.tuple #[]) ∧ Blk w' b 87 #[.pointer (some ⟨b, 0, none⟩), v] ∧ w'.ownsRow base 5 1 v bs.length bs ∧ Bw base b w w' := by
    rcases hp with rfl | rfl
    · refine (sbcheck_fresh b w (hbk0.cell 0) (by unfold Blk at hbk0; simp [World.shape?, hbk0]) (hbk0.frozen 0)).mono ?_
      rintro e w' ⟨rfl, rfl⟩
      exact ⟨rfl, hbk0.set_ 0 _, own_set hown0 hne 0 _, Bw.set w hB 0 _⟩
    · refine (sbcheck_used b w (hbk0.cell 0)).mono ?_
      rintro e w' ⟨rfl, rfl⟩
      exact ⟨rfl, hbk0, hown0, Bw.refl _ _ _⟩
  refine hck.mono ?_
  rintro e w1 ⟨rfl, hbk, hown, hb1⟩
  have c0 : w1.cell? ⟨b, 0, none⟩ = some (.pointer (some ⟨b, 0, none⟩)) := hbk.cell 0
  have c1 : w1.cell? ⟨b, 1, none⟩ = some v := hbk.cell 1
  clear hck
  go_wp2_with (at_builtin; refine Lib.wpList_append_own_string _ rfl _ _ 34 9 rfl base 5 i0 Try.underlying34 Try.underlying9 hi hz0 hz1 hz2 _ _ _ rfl hown s rfl ?c3 ?c4 ?c5 ?_)
  case c3 => unfold maxLen; omega
  case c4 => omega
  case c5 => have := hb1.size; omega
  intro v' w2 hown' hgrow _
  have hb2 : Blk w2 b 87 #[.pointer (some ⟨b, 0, none⟩), v] := hbk.grown hgrow (own_ne hown hbk (by decide))
  have d0 : w2.cell? ⟨b, 0, none⟩ = some (.pointer (some ⟨b, 0, none⟩)) := hb2.cell 0
  have d1 : w2.cell? ⟨b, 1, none⟩ = some v := hb2.cell 1
  have f1 : w2.frozen? ⟨b, 1, none⟩ = false := hb2.frozen 1
  obtain ⟨ao, n', cap, rfl⟩ : ∃ ao n' cap, v' = .slice ao n' cap := by
    rcases hown'.2 with ⟨hv, _⟩ | ⟨g, cap, cur, hv, _⟩
    · exact ⟨_, _, _, hv⟩
    · exact ⟨_, _, _, hv⟩
  go_wp2
  go_ret2
  refine ⟨rfl, ⟨hB, _, _, hb2.set_ 1 _, .inr rfl, own_set (by simpa [Lib.strCells_length] using hown') (own_ne hown' hb2 (by decide)) 1 _⟩, ?_⟩
  exact (hb1.trans (Bw.grown hown hgrow (by have := hb1.size; omega))).trans (Bw.set w2 hB 1 _)

/-- Len -/
theorem sblen_any (base b : Nat) (bs : List Value) (w : World) (h : SbS base w b bs) : Calls Try.prog 50 #[.pointer (some ⟨b, 0, none⟩)] w fun e w' => e = .returned (.int .i64 bs.length) ∧ w = w' :=
  (Try.Builder_Len base b bs w h.is).mono fun _ _ h => ⟨h.1, h.2.symm⟩
/-- String, once and again -/
theorem sbstr_any (base b : Nat) (l : List UInt8) (w : World) (h : Lib.IsBuilderF 87 5 base b (Lib.byteCells l) w) (hB : base ≤ w.heap.size) :
    Calls Try.prog 51 #[.pointer (some ⟨b, 0, none⟩)] w fun e w' => e = .returned (.string ⟨l.toArray⟩) ∧ Lib.IsBuilderF 87 5 base b (Lib.byteCells l) w' ∧ Below base w w' := Try.Builder_String_any_f base b l w h hB
theorem rowF_ext {w w' : World} {base : Nat} {e : TypeId} {size n : Nat} {v : Value} {xs : List Value} (h : w.ownsRowF base e size v n xs) (hx : Ext w w') : w'.ownsRowF base e size v n xs := by
  refine ⟨h.1, ?_⟩
  rcases h.2 with hn | ⟨g, cap, cur, fz, h1, h2, h3, rest⟩
  · exact .inl hn
  · exact .inr ⟨g, cap, cur, fz, h1, h2, by rw [hx.block (Array.getElem?_eq_some_iff.1 h3).1]; exact h3, rest⟩
theorem sbF_ext {base b : Nat} {bs : List Value} {w w' : World} {T e : TypeId} (h : Lib.IsBuilderF T e base b bs w) (hx : Ext w w') : Lib.IsBuilderF T e base b bs w' := by
  rcases h with ⟨h1, v, h2, h3, h4⟩ | ⟨h1, v, h2, h3, h4⟩
  · exact .inl ⟨h1, v, (hx.block (Array.getElem?_eq_some_iff.1 h2).1).trans h2, rowF_ext h3 hx, h4⟩
  · exact .inr ⟨h1, v, (hx.block (Array.getElem?_eq_some_iff.1 h2).1).trans h2, rowF_ext h3 hx, h4⟩
end Go.Proofs.Ytkkldciofndedaa

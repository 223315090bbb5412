/- A block that is known whole: a local struct, a row of a fixed length. -/
import Derived.Test.YtfjpglohcppjeaaDoorAppend
namespace Go.Proofs.YtfjpglohcppjeaaDoor
set_option linter.unusedVariables false
set_option linter.unusedSimpArgs false
open Go.RowKit

theorem At.one_new (w : World) (u : Value) (t : TypeId) : At (w.alloc (.cells #[u] t)) (some ⟨w.heap.size, 0, none⟩) [u] := by
  intro j x hj
  rcases j with _ | j
  · simp at hj
    subst hj
    exact ⟨_, rfl, by simp, by rw [Addr.add_lit]; exact World.cell?_alloc_at _ _ _ _ rfl⟩
  · simp at hj
theorem Ext.size2 {w w' : World} {a b : Obj} (h : Ext ((w.alloc a).alloc b) w') : w.heap.size + 2 ≤ w'.heap.size := by
  have := h.size
  simp only [World.size_alloc] at this
  omega
theorem Ext.size1 {w w' : World} {a : Obj} (h : Ext (w.alloc a) w') : w.heap.size + 1 ≤ w'.heap.size := by
  have := h.size
  simp only [World.size_alloc] at this
  omega
theorem Ext.size3 {w w' : World} {a b c : Obj} (h : Ext (((w.alloc a).alloc b).alloc c) w') : w.heap.size + 3 ≤ w'.heap.size := by
  have := h.size
  simp only [World.size_alloc] at this
  omega
theorem far1 {w : World} {B : Nat} {p : Addr} {x a : Value} {i : Nat} (h : w.cell? p = some x) (hne : p.block ≠ B) : (w.setCell ⟨B, i, none⟩ a).cell? p = some x :=
  (World.cell?_of_block (Below.heap_setCell w ⟨B, i, none⟩ a p.block hne)).trans h
theorem far3 {w : World} {B : Nat} {p : Addr} {x a b c : Value} (h : w.cell? p = some x) (hne : p.block ≠ B) :
    (((w.setCell ⟨B, 0, none⟩ a).setCell ⟨B, 1, none⟩ b).setCell ⟨B, 2, none⟩ c).cell? p = some x := far1 (far1 (far1 h hne) hne) hne
theorem far4 {w : World} {B : Nat} {p : Addr} {x a b c d : Value} (h : w.cell? p = some x) (hne : p.block ≠ B) :
    ((((w.setCell ⟨B, 0, none⟩ a).setCell ⟨B, 1, none⟩ b).setCell ⟨B, 2, none⟩ c).setCell ⟨B, 3, none⟩ d).cell? p = some x := far1 (far1 (far1 (far1 h hne) hne) hne) hne
def Blk (w : World) (g : Nat) (t : TypeId) (cs : Array Value) : Prop := w.heap[g]? = some (.cells cs t (0, 0))
theorem Blk.lt {w : World} {g : Nat} {t : TypeId} {cs : Array Value} (h : Blk w g t cs) : g < w.heap.size := (Array.getElem?_eq_some_iff.1 h).1
theorem Blk.cell {w : World} {g : Nat} {t : TypeId} {cs : Array Value} (h : Blk w g t cs) (i : Nat) : w.cell? ⟨g, i, none⟩ = cs[i]? := cell_of_row w g i cs t (0, 0) h
theorem Blk.frozen {w : World} {g : Nat} {t : TypeId} {cs : Array Value} (h : Blk w g t cs) (i : Nat) : w.frozen? ⟨g, i, none⟩ = false := frozen_of_row w g i cs t h
theorem Blk.new (w : World) (t : TypeId) (cs : Array Value) : Blk (w.alloc (.cells cs t)) w.heap.size t cs := heap_alloc_new w _
theorem Blk.new' {w : World} {g : Nat} {t : TypeId} {cs : Array Value} (h : g = w.heap.size) : Blk (w.alloc (.cells cs t)) g t cs := by subst h; exact heap_alloc_new w _
theorem Blk.drew {w : World} {g : Nat} {t : TypeId} {cs : Array Value} (h : Blk w g t cs) : Blk w.drew g t cs := h
theorem Blk.drewN {w : World} {g : Nat} {t : TypeId} {cs : Array Value} (h : Blk w g t cs) (n : Nat) : Blk (w.drewN n) g t cs := h
theorem Blk.alloc {w : World} {g : Nat} {t : TypeId} {cs : Array Value} (h : Blk w g t cs) (o : Obj) : Blk (w.alloc o) g t cs := (Below.heap_alloc w o g h.lt).trans h
theorem Blk.ext {w w' : World} {g : Nat} {t : TypeId} {cs : Array Value} (h : Blk w g t cs) (hx : Ext w w') : Blk w' g t cs := (hx.block h.lt).trans h
theorem Blk.set_ {w : World} {g : Nat} {t : TypeId} {cs : Array Value} (h : Blk w g t cs) (i : Nat) (u : Value) : Blk (w.setCell ⟨g, i, none⟩ u) g t (cs.setIfInBounds i u) := heap_setCell_same w g i cs t u h
theorem Blk.far {w : World} {g : Nat} {t : TypeId} {cs : Array Value} (h : Blk w g t cs) {p : Addr} (hp : g ≠ p.block) (u : Value) : Blk (w.setCell p u) g t cs := (Below.heap_setCell w p u g hp).trans h
theorem Blk.grown {w w' : World} {g : Nat} {t : TypeId} {cs : Array Value} {row : Option Nat} (h : Blk w g t cs) (hg : w.grownBy w' row) (hr : row ≠ some g) : Blk w' g t cs := (hg.block g h.lt (fun e => hr e.symm)).trans h
/-- an owned row of another element type is another block -/
theorem own_ne {w : World} {g : Nat} {t : TypeId} {cs : Array Value} {base : Nat} {e : TypeId} {v : Value} {n : Nat} {xs : List Value} (h : w.ownsRow base e 1 v n xs) (hb : Blk w g t cs) (hne : e ≠ t) : v.ownBlock ≠ some g := by
  rcases h.2 with ⟨rfl, _⟩ | ⟨g', cap, cur, rfl, _, hh, _⟩
  · simp [Value.ownBlock]
  · intro he
    have hgg : g' = g := by simpa [Value.ownBlock] using he
    subst hgg
    unfold Blk at hb
    rw [hb] at hh
    injection hh with hh
    injection hh with _ ht
    exact hne ht.symm
theorem own_set {w : World} {g : Nat} {base : Nat} {e : TypeId} {v : Value} {n : Nat} {xs : List Value} (h : w.ownsRow base e 1 v n xs) (hne : v.ownBlock ≠ some g) (i : Nat) (u : Value) : (w.setCell ⟨g, i, none⟩ u).ownsRow base e 1 v n xs := by
  refine ⟨h.1, ?_⟩
  rcases h.2 with hn | ⟨g', cap, cur, rfl, hb, hh, r⟩
  · exact .inl hn
  · exact .inr ⟨g', cap, cur, rfl, hb, by rw [Below.heap_setCell _ _ _ _ (fun e => hne (by simp [Value.ownBlock, e]))]; exact hh, r⟩
/-- the row itself, as a block -/
theorem own_blk {w : World} {base : Nat} {e : TypeId} {g n c : Nat} {xs : List Value} (h : w.ownsRow base e 1 (.slice (some ⟨g, 0, none⟩) n c) n xs) : ∃ cur, Blk w g e cur ∧ cur.toList.take n = xs := by
  rcases h.2 with ⟨hv, _⟩ | ⟨g', cap, cur, hv, _, hh, _, _, _, ht⟩
  · cases hv
  · injection hv with h1
    injection h1 with h1
    injection h1 with h1
    subst h1
    exact ⟨cur, hh, by simpa using ht⟩
theorem Blk.ne_ {w : World} {g g' : Nat} {t t' : TypeId} {cs cs' : Array Value} (h : Blk w g t cs) (h' : Blk w g' t' cs') (hne : t ≠ t') : g ≠ g' := by
  rintro rfl
  unfold Blk at h h'
  rw [h] at h'
  injection h' with h'
  injection h' with _ ht
  exact hne ht
end Go.Proofs.YtfjpglohcppjeaaDoor

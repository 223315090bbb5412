/- Small words on worlds: a slice that reads as a list, the order of worlds, rows that a call made itself. Own text. -/
import Derived.Test.YtfjpglohcppjeaaDoorRows
import Derived.WalkKit
import Derived.WalkSpells
import Derived.WalkLawsBesides
import Derived.Lib.Hide
import Derived.Laws.CopyOwn
import Derived.Deep.DeepMust
import Derived.Deep.Draws
namespace Go.Proofs.YtfjpglohcppjeaaDoor
set_option linter.unusedVariables false
set_option linter.unusedSimpArgs false
open Go.RowKit

/-- w' holds all that w holds, unchanged -/
def Ext (w w' : World) : Prop := Below w.heap.size w w'
theorem Ext.out {w w' : World} (h : Ext w w') : Below w.heap.size w w' := h
theorem Ext.refl (w : World) : Ext w w := Below.refl _ _
theorem Ext.trans {a b c : World} (h : Ext a b) (k : Ext b c) : Ext a c := Below.trans h (Below.mono k (Below.size h))
theorem Ext.size {a b : World} (h : Ext a b) : a.heap.size ≤ b.heap.size := Below.size h
theorem Ext.alloc {a b : World} (h : Ext a b) (o : Obj) : Ext a (b.alloc o) := Below.alloc h h.size o
theorem Ext.drew {a b : World} (h : Ext a b) : Ext a b.drew := Below.drew h
theorem Ext.drewN {a b : World} (h : Ext a b) (n : Nat) : Ext a (b.drewN n) := ⟨h.out.os, h.out.tape, h.out.output, h.out.size, h.out.block⟩
theorem Ext.set {a b : World} (h : Ext a b) {p : Addr} (hp : a.heap.size ≤ p.block) (u : Value) : Ext a (b.setCell p u) := Below.setCell h hp u
theorem Ext.grown {a b c : World} {row : Option Nat} (h : Ext a b) (hg : b.grownBy c row) (hr : ∀ k, row = some k → a.heap.size ≤ k) : Ext a c := Below.grown h hg h.size hr
theorem Ext.cell {a b : World} (h : Ext a b) {p : Addr} (hp : p.block < a.heap.size) : b.cell? p = a.cell? p := h.out.cell hp
theorem Ext.frozen {a b : World} (h : Ext a b) {p : Addr} (hp : p.block < a.heap.size) : b.frozen? p = a.frozen? p := h.out.frozen hp
theorem Ext.block {a b : World} (h : Ext a b) {k : Nat} (hk : k < a.heap.size) : b.heap[k]? = a.heap[k]? := h.out.block k hk

theorem Ext.lt_new {w w1 : World} {o : Obj} (h : Ext (w.alloc o) w1) : w.heap.size < w1.heap.size := by
  have := h.size
  simp only [World.size_alloc] at this
  omega
theorem Ext.cell_new {w w1 : World} {cs : Array Value} {t : TypeId} (h : Ext (w.alloc (.cells cs t)) w1) (i : Nat) : w1.cell? ⟨w.heap.size, i, none⟩ = cs[i]? :=
  (h.cell (p := ⟨w.heap.size, i, none⟩) (by simp)).trans (World.cell?_alloc_at cs t _ i rfl)
theorem Ext.frozen_new {w w1 : World} {cs : Array Value} {t : TypeId} (h : Ext (w.alloc (.cells cs t)) w1) (i : Nat) : w1.frozen? ⟨w.heap.size, i, none⟩ = false :=
  (h.frozen (p := ⟨w.heap.size, i, none⟩) (by simp)).trans (World.frozen?_alloc_at cs t _ i rfl)

/-- the list xs of one-cell values lies at A in w -/
def At (w : World) (A : Option Addr) (xs : List Value) : Prop :=
  ∀ j u, xs[j]? = some u → ∃ ad, A = some ad ∧ ad.block < w.heap.size ∧ w.cell? (ad.add j) = some u
theorem add_block (a : Addr) (n : Nat) : (a.add n).block = a.block := by unfold Addr.add; split <;> rfl
theorem add_add' (a : Addr) (i j : Nat) : (a.add i).add j = a.add (i + j) := by
  unfold Addr.add
  by_cases hi : i = 0 <;> by_cases hj : j = 0 <;> simp [hi, hj, Nat.add_assoc]
theorem At.nil (w : World) (A : Option Addr) : At w A [] := by intro j u h; simp at h
theorem At.ext {w w' : World} {A : Option Addr} {xs : List Value} (h : At w A xs) (hb : Ext w w') : At w' A xs := fun j u hj =>
  let ⟨ad, e, hl, hc⟩ := h j u hj
  ⟨ad, e, Nat.lt_of_lt_of_le hl hb.size, (hb.cell (by rw [add_block]; exact hl)).trans hc⟩
theorem At.take {w : World} {A : Option Addr} {xs : List Value} (h : At w A xs) (n : Nat) : At w A (xs.take n) := fun j u hj =>
  h j u (by rw [List.getElem?_take] at hj; split at hj; exact hj; cases hj)
theorem At.get {w : World} {A : Option Addr} {xs : List Value} (h : At w A xs) {k : Nat} (hk : k < xs.length) :
    ∃ ad, A = some ad ∧ ad.block < w.heap.size ∧ w.cell? (ad.add k) = some xs[k] := h k _ (List.getElem?_eq_getElem hk)
theorem At.at_ {w : World} {ad : Addr} {xs : List Value} (h : At w (some ad) xs) : ∀ j u, xs[j]? = some u → w.cell? (ad.add j) = some u := fun j u hj => by
  obtain ⟨a, e, _, hc⟩ := h j u hj
  injection e with e
  subst e
  exact hc
/-- the slice A[k:] of a slice with capacity cap -/
theorem At.drop {w : World} {A : Option Addr} {xs : List Value} (h : At w A xs) (k cap : Nat) (hc : xs.length ≤ cap) :
    At w (if cap = k then A else A.map (·.add k)) (xs.drop k) := by
  intro j u hj
  rw [List.getElem?_drop] at hj
  obtain ⟨ad, rfl, hl, hc'⟩ := h _ _ hj
  have hlt : k + j < xs.length := by
    rcases Nat.lt_or_ge (k + j) xs.length with h1 | h1
    · exact h1
    · rw [List.getElem?_eq_none h1] at hj; cases hj
  rw [if_neg (by omega)]
  exact ⟨_, rfl, by rw [add_block]; exact hl, by rw [add_add']; exact hc'⟩
theorem At.of_own {w : World} {base : Nat} {e : TypeId} {A : Option Addr} {n m c : Nat} {xs : List Value} (h : w.ownsRow base e 1 (.slice A n c) m xs) : At w A xs := by
  intro j u hj
  rcases h.2 with ⟨hv, hm⟩ | ⟨g, cap, cur, hv, hb, hh, _⟩
  · have := h.1; subst hm
    have hx : xs = [] := List.eq_nil_of_length_eq_zero (by simpa using this)
    subst hx; simp at hj
  · have hA : A = some ⟨g, 0, none⟩ := by injection hv
    subst hA
    exact ⟨_, rfl, (Array.getElem?_eq_some_iff.1 hh).1, h.cells (g := g) rfl j u hj⟩
theorem own_ext {w w' : World} {base : Nat} {e : TypeId} {v : Value} {n : Nat} {xs : List Value} (h : w.ownsRow base e 1 v n xs) (hb : Ext w w') : w'.ownsRow base e 1 v n xs := by
  refine ⟨h.1, ?_⟩
  rcases h.2 with hn | ⟨g, cap, cur, rfl, hbg, hgg, rest⟩
  · exact .inl hn
  · exact .inr ⟨g, cap, cur, rfl, hbg, by rw [hb.block (Array.getElem?_eq_some_iff.1 hgg).1]; exact hgg, rest⟩
theorem own_mono {w : World} {base base' : Nat} {e : TypeId} {v : Value} {n : Nat} {xs : List Value} (h : w.ownsRow base e 1 v n xs) (hb : base' ≤ base) : w.ownsRow base' e 1 v n xs := by
  refine ⟨h.1, ?_⟩
  rcases h.2 with hn | ⟨g, cap, cur, rfl, hbg, hgg, rest⟩
  · exact .inl hn
  · exact .inr ⟨g, cap, cur, rfl, Nat.le_trans hb hbg, hgg, rest⟩
/-- a row without spare places is its block -/
theorem own_full {w : World} {base : Nat} {e : TypeId} {g n : Nat} {xs : List Value} (h : w.ownsRow base e 1 (.slice (some ⟨g, 0, none⟩) n n) n xs) :
    w.heap[g]? = some (.cells xs.toArray e (0, 0)) ∧ base ≤ g ∧ xs.length = n := by
  rcases h.2 with ⟨hv, _⟩ | ⟨g', cap, cur, hv, hbg, hgg, _, _, hs, ht⟩
  · cases hv
  · injection hv with h1 h2 h3
    injection h1 with h1
    injection h1 with h1
    subst h1; subst h3
    refine ⟨?_, hbg, by have := h.1; omega⟩
    rw [hgg, ← ht]
    have : cur.toList.take (n * 1) = cur.toList := List.take_of_length_le (by simp; omega)
    rw [this]
theorem own_of_block {w : World} {base : Nat} {e : TypeId} {g n : Nat} {xs : List Value} (h : w.heap[g]? = some (.cells xs.toArray e (0, 0))) (hb : base ≤ g) (hn : xs.length = n) (hm : n ≤ maxLen) :
    w.ownsRow base e 1 (.slice (some ⟨g, 0, none⟩) n n) n xs :=
  ⟨by omega, .inr ⟨g, n, xs.toArray, rfl, hb, h, Nat.le_refl _, hm, by simp [hn], by simp [← hn]⟩⟩
theorem own_block {w : World} {base : Nat} {e : TypeId} {v : Value} {n : Nat} {xs : List Value} (h : w.ownsRow base e 1 v n xs) : ∀ k, v.ownBlock = some k → base ≤ k := fun k hk => (h.lt k hk).1
theorem own_form {w : World} {base : Nat} {e : TypeId} {v : Value} {n : Nat} {xs : List Value} (h : w.ownsRow base e 1 v n xs) : ∃ A c, v = .slice A n c ∧ (A = none → n = 0) := by
  rcases h.2 with ⟨rfl, rfl⟩ | ⟨g, cap, cur, rfl, _⟩
  · exact ⟨_, _, rfl, fun _ => rfl⟩
  · exact ⟨_, _, rfl, fun h => by cases h⟩

/-- make([]T, n), T of one cell: the block that is laid -/
theorem own_made {w : World} {base : Nat} {e : TypeId} {g n : Nat} {z : Value} (h : w.ownsRow base e 1 (.slice (some ⟨g, 0, none⟩) n n) n (madeCells #[z] (n * 1)).toList) :
    w.heap[g]? = some (.cells (List.replicate n z).toArray e (0, 0)) := by
  have := (own_full h).1
  rwa [toList_madeCells_one, Nat.mul_one] at this

theorem ret_int {k : IntKind} {a b : Int} (h : a = b) : Ending.returned (.int k a) = .returned (.int k b) := by rw [h]
theorem ret_bool {a b : Bool} (h : a = b) : Ending.returned (.bool a) = .returned (.bool b) := by rw [h]
theorem ret_val {a b : Value} (h : a = b) : Ending.returned a = .returned b := by rw [h]
theorem At.get0 {w : World} {g : Nat} {xs : List Value} (h : At w (some ⟨g, 0, none⟩) xs) {k : Nat} (hk : k < xs.length) : w.cell? ⟨g, k, none⟩ = some xs[k] := by
  obtain ⟨ad, e, _, hc⟩ := h.get hk
  injection e with e; subst e
  rwa [Addr.add_lit, Nat.zero_add] at hc
theorem str_one (ss : List ByteArray) : ∀ u ∈ ss.map Value.string, u.oneCell' = true := by
  intro u hu
  obtain ⟨s, _, rfl⟩ := List.mem_map.1 hu
  rfl
theorem map_get {α β : Type} (f : α → β) (l : List α) (k : Nat) (h : k < l.length) : (l.map f)[k]? = some (f l[k]) := by simp [h]
end Go.Proofs.YtfjpglohcppjeaaDoor

/- Worlds that differ in the blocks S alone (and in what is new). -/
import Derived.Test.YtfjpglohcppjeaaDoorRegionU
namespace Go.Proofs.YtfjpglohcppjeaaDoor
open Go.RowKit
set_option linter.unusedVariables false
set_option linter.unusedSimpArgs false

structure Upd (S : List Nat) (w w' : World) : Prop where
  os : w'.os = w.os
  tape : w'.tape = w.tape
  output : w'.output = w.output
  size : w.heap.size ≤ w'.heap.size
  block : ∀ k, k < w.heap.size → k ∉ S → w'.heap[k]? = w.heap[k]?
theorem Upd.refl (S : List Nat) (w : World) : Upd S w w := ⟨rfl, rfl, rfl, Nat.le_refl _, fun _ _ _ => rfl⟩
theorem Upd.of_ext {S : List Nat} {w w' : World} (h : Ext w w') : Upd S w w' := ⟨h.out.os, h.out.tape, h.out.output, h.out.size, fun k hk _ => h.out.block k hk⟩
theorem Upd.trans {S : List Nat} {a b c : World} (h : Upd S a b) (k : Upd S b c) : Upd S a c :=
  ⟨k.os.trans h.os, k.tape.trans h.tape, k.output.trans h.output, Nat.le_trans h.size k.size, fun i hi hn => (k.block i (Nat.lt_of_lt_of_le hi h.size) hn).trans (h.block i hi hn)⟩
theorem Upd.ext {S : List Nat} {a b c : World} (h : Upd S a b) (k : Ext b c) : Upd S a c := h.trans (Upd.of_ext k)
theorem Upd.mono {S T : List Nat} {a b : World} (h : Upd S a b) (hs : ∀ k, k < a.heap.size → k ∈ S → k ∈ T) : Upd T a b := ⟨h.os, h.tape, h.output, h.size, fun k hk hn => h.block k hk fun hm => hn (hs k hk hm)⟩
theorem Upd.alloc {S : List Nat} {a b : World} (h : Upd S a b) (o : Obj) : Upd S a (b.alloc o) := h.ext ((Ext.refl b).alloc o)
theorem Upd.drew {S : List Nat} {a b : World} (h : Upd S a b) : Upd S a b.drew := h.ext (Ext.refl b).drew
theorem Upd.drewN {S : List Nat} {a b : World} (h : Upd S a b) (n : Nat) : Upd S a (b.drewN n) := h.ext ((Ext.refl b).drewN n)
theorem Upd.set {S : List Nat} {a b : World} (h : Upd S a b) {p : Addr} (hp : p.block ∈ S ∨ a.heap.size ≤ p.block) (u : Value) : Upd S a (b.setCell p u) := by
  refine ⟨h.os, h.tape, h.output, by simpa [World.setCell] using h.size, fun k hk hn => (Below.heap_setCell b p u k (fun e => ?_)).trans (h.block k hk hn)⟩
  rcases hp with hp | hp
  · exact hn (by rw [e]; exact hp)
  · omega
theorem Upd.grown {S : List Nat} {a b c : World} {row : Option Nat} (h : Upd S a b) (hg : b.grownBy c row) (hr : ∀ k, row = some k → k ∈ S ∨ a.heap.size ≤ k) : Upd S a c :=
  ⟨hg.os.trans h.os, hg.tape.trans h.tape, hg.output.trans h.output, Nat.le_trans h.size hg.size, fun k hk hn => (hg.block k (Nat.lt_of_lt_of_le hk h.size) (fun e => by
    rcases hr k e.symm with h1 | h1
    · exact hn h1
    · omega)).trans (h.block k hk hn)⟩
/-- what is written lies above: the elder world stays -/
theorem Ext.upd {S : List Nat} {a b c : World} (h : Ext a b) (k : Upd S b c) (hs : ∀ i ∈ S, a.heap.size ≤ i) : Ext a c :=
  ⟨k.os.trans h.out.os, k.tape.trans h.out.tape, k.output.trans h.out.output, Nat.le_trans h.out.size k.size, fun i hi => (k.block i (Nat.lt_of_lt_of_le hi h.out.size) (fun hm => by have := hs i hm; omega)).trans (h.out.block i hi)⟩
theorem Upd.to_ext {a b : World} (h : Upd [] a b) : Ext a b := (Ext.refl a).upd h (by simp)
theorem Blk.upd {S : List Nat} {w w' : World} {g : Nat} {t : TypeId} {cs : Array Value} (h : Blk w g t cs) (hx : Upd S w w') (hg : g ∉ S) : Blk w' g t cs := (hx.block g h.lt hg).trans h
theorem own_upd {S : List Nat} {w w' : World} {base : Nat} {e : TypeId} {v : Value} {n : Nat} {xs : List Value} (h : w.ownsRow base e 1 v n xs) (hx : Upd S w w') (hs : ∀ k, v.ownBlock = some k → k ∉ S) : w'.ownsRow base e 1 v n xs := by
  refine ⟨h.1, ?_⟩
  rcases h.2 with hn | ⟨g, cap, cur, rfl, hbg, hgg, rest⟩
  · exact .inl hn
  · exact .inr ⟨g, cap, cur, rfl, hbg, by rw [hx.block g (Array.getElem?_eq_some_iff.1 hgg).1 (hs g (by simp [Value.ownBlock]))]; exact hgg, rest⟩
theorem own_upd1 {w w' : World} {base : Nat} {e t : TypeId} {v : Value} {n B : Nat} {xs : List Value} {cs : Array Value} (h : w.ownsRow base e 1 v n xs) (hb : Blk w B t cs) (hne : e ≠ t) (hx : Upd [B] w w') : w'.ownsRow base e 1 v n xs :=
  own_upd h hx fun k hk hm => by
    have := own_ne h hb hne
    rw [hk] at this
    simp only [List.mem_singleton] at hm
    exact this (by rw [hm])
theorem Upd.cell {S : List Nat} {a b : World} (h : Upd S a b) {p : Addr} (hp : p.block < a.heap.size) (hn : p.block ∉ S) : b.cell? p = a.cell? p := World.cell?_of_block (h.block _ hp hn)
theorem Upd.frozen {S : List Nat} {a b : World} (h : Upd S a b) {p : Addr} (hp : p.block < a.heap.size) (hn : p.block ∉ S) : b.frozen? p = a.frozen? p := World.frozen?_of_block (h.block _ hp hn)
/-- the world under a name -/
theorem at_world {P : Program} {c : Code} {Q : Exit → Act → World → Prop} {a : Act} {w : World} (h : ∀ W, W = w → c.wp P Q a W) : c.wp P Q a w := h w rfl
theorem Ext.of_eq {a b : World} (h : a = b) : Ext a b := by subst h; exact Ext.refl _
theorem ptr_inj {a b i j : Nat} (h : Value.pointer (some ⟨a, i, none⟩) = .pointer (some ⟨b, j, none⟩)) : a = b := by
  injection h with h
  injection h with h
  injection h
/-- a variable that was made: some cells -/
def NewA (n : Nat) (t : TypeId) (base : Nat) (v : Value) (w : World) : Prop := ∃ B cs, v = .pointer (some ⟨B, 0, none⟩) ∧ base ≤ B ∧ Blk w B t cs ∧ cs.size = n
theorem NewA.ext {n : Nat} {t : TypeId} {base : Nat} {v : Value} {w w' : World} (h : NewA n t base v w) (hx : Ext w w') : NewA n t base v w' := by
  obtain ⟨B, cs, h1, h2, h3, h4⟩ := h
  exact ⟨B, cs, h1, h2, h3.ext hx, h4⟩
theorem NewA.set {n : Nat} {t : TypeId} {base : Nat} {v : Value} {w : World} {p : Addr} {u : Value} (h : NewA n t base v w) : NewA n t base v (w.setCell p u) := by
  obtain ⟨B, cs, h1, h2, h3, h4⟩ := h
  by_cases e : B = p.block
  · refine ⟨B, if p.spot.isSome then cs else cs.setIfInBounds p.off u, h1, h2, ?_, by split <;> simp [h4]⟩
    unfold Blk at h3 ⊢
    rw [e] at h3 ⊢
    simp [World.setCell, Array.getElem?_modify, h3]
  · exact ⟨B, cs, h1, h2, h3.far e u, h4⟩
theorem NewA.new {w0 w : World} {t : TypeId} {cs : Array Value} (h : w0.heap.size ≤ w.heap.size) : NewA cs.size t w0.heap.size (.pointer (some ⟨w.heap.size, 0, none⟩)) (w.alloc (.cells cs t)) := ⟨_, cs, rfl, h, Blk.new _ _ _, rfl⟩
theorem arr1 {cs : Array Value} (h : cs.size = 1) : ∃ y0, cs = #[y0] := by
  rcases cs with ⟨l⟩
  match l, h with
  | [y0], _ => exact ⟨_, rfl⟩
theorem arr2 {cs : Array Value} (h : cs.size = 2) : ∃ y0 y1, cs = #[y0, y1] := by
  rcases cs with ⟨l⟩
  match l, h with
  | [y0, y1], _ => exact ⟨_, _, rfl⟩
theorem arr3 {cs : Array Value} (h : cs.size = 3) : ∃ y0 y1 y2, cs = #[y0, y1, y2] := by
  rcases cs with ⟨l⟩
  match l, h with
  | [y0, y1, y2], _ => exact ⟨_, _, _, rfl⟩
theorem arr4 {cs : Array Value} (h : cs.size = 4) : ∃ y0 y1 y2 y3, cs = #[y0, y1, y2, y3] := by
  rcases cs with ⟨l⟩
  match l, h with
  | [y0, y1, y2, y3], _ => exact ⟨_, _, _, _, rfl⟩
theorem arr5 {cs : Array Value} (h : cs.size = 5) : ∃ y0 y1 y2 y3 y4, cs = #[y0, y1, y2, y3, y4] := by
  rcases cs with ⟨l⟩
  match l, h with
  | [y0, y1, y2, y3, y4], _ => exact ⟨_, _, _, _, _, rfl⟩
theorem arr6 {cs : Array Value} (h : cs.size = 6) : ∃ y0 y1 y2 y3 y4 y5, cs = #[y0, y1, y2, y3, y4, y5] := by
  rcases cs with ⟨l⟩
  match l, h with
  | [y0, y1, y2, y3, y4, y5], _ => exact ⟨_, _, _, _, _, _, rfl⟩
theorem arr7 {cs : Array Value} (h : cs.size = 7) : ∃ y0 y1 y2 y3 y4 y5 y6, cs = #[y0, y1, y2, y3, y4, y5, y6] := by
  rcases cs with ⟨l⟩
  match l, h with
  | [y0, y1, y2, y3, y4, y5, y6], _ => exact ⟨_, _, _, _, _, _, _, rfl⟩
theorem arr8 {cs : Array Value} (h : cs.size = 8) : ∃ y0 y1 y2 y3 y4 y5 y6 y7, cs = #[y0, y1, y2, y3, y4, y5, y6, y7] := by
  rcases cs with ⟨l⟩
  match l, h with
  | [y0, y1, y2, y3, y4, y5, y6, y7], _ => exact ⟨_, _, _, _, _, _, _, _, rfl⟩
theorem len_succ {α : Type} {l : List α} {n : Nat} (h : l.length = n + 1) : ∃ v t, l = v :: t ∧ t.length = n := by
  rcases l with _ | ⟨v, t⟩
  · simp at h
  · exact ⟨v, t, rfl, by simpa using h⟩
theorem At.one_blk {w : World} {B : Nat} {t : TypeId} {u : Value} (h : Blk w B t #[u]) : At w (some ⟨B, 0, none⟩) [u] := by
  intro j x hj
  rcases j with _ | j
  · simp at hj
    subst hj
    exact ⟨_, rfl, h.lt, by rw [Addr.add_lit]; exact h.cell 0⟩
  · simp at hj
theorem does_append {P : Program} {o : Oper} {ρ : Operand → Value} {w : World} {post : Value → World → Prop} (s x : Operand) (t : TypeId)
    (ho : o.op = .call { callee := .builtin .append, args := #[s, x], argTypes := #[t, t] })
    (base : Nat) (e : TypeId) (i : TypeInfo) (z : Value) (bytes : Nat) (ht : P.underlying t = some (.slice e)) (hi : P.info? e = some i) (hz : i.zero = some z)
    (hsize : i.size = 1) (hby : i.bytes = bytes) (hzs : z.cells.size = 1) (v : Value) (n : Nat) (xs : List Value) (hs : ρ s = v) (hown : w.ownsRow base e 1 v n xs)
    (A : Option Addr) (m c : Nat) (news : List Value) (hx : ρ x = .slice A m c) (hl : news.length = m) (hA : At w A news) (h1 : ∀ u ∈ news, u.oneCell' = true)
    (h63 : n + m ≤ maxLen) (hbytes : (n + m) * bytes ≤ 140737488355328) (hbase : base ≤ w.heap.size)
    (h : ∀ v' w', w'.ownsRow base e 1 v' (n + m) (xs ++ news) → w.grownBy w' v.ownBlock → (v'.ownBlock = v.ownBlock ∨ v'.ownBlock = some w.heap.size) → post v' w') : DoesU P o ρ w post := by
  obtain ⟨v', w', hrun, h2, h3, h4⟩ := run_append_any1 (P := P) w base t o.type e i z bytes ht hi hz hsize hby hzs v n xs hown A m c news hl hA h1 h63 hbytes hbase
  have e : (execOp ρ o).run P w = .ok (.value v') w' := by
    unfold execOp
    simp only [ho, resolve, invoke, builtin, Sem.run_bind, Sem.run_pure, Result.andThen_ok, List.map_toArray, List.map_cons, List.map_nil, hs, hx, hrun]
  exact DoesU.value e (h v' w' h2 h3 h4)
end Go.Proofs.YtfjpglohcppjeaaDoor

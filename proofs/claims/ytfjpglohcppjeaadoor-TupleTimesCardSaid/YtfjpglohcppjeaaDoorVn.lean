/- Elements of several cells in slices and arrays: addresses, loads. -/
import Derived.Test.YtfjpglohcppjeaaDoorVq
namespace Go.Proofs.YtfjpglohcppjeaaDoor
open Go.RowKit
set_option linter.unusedVariables false
set_option linter.unusedSimpArgs false

theorem At.eltc {T : Type} {w : World} {A : Option Addr} {f : T → List Value} {sz : Nat} (hf : ∀ t, (f t).length = sz) : ∀ {ts : List T}, At w A (ts.flatMap f) → ∀ {m : Nat} {t : T}, ts[m]? = some t → ∀ {k : Nat} {u : Value}, (f t)[k]? = some u → w.cell? ((ad A).add (m * sz + k)) = some u := by
  have key : ∀ (ts : List T) (m : Nat) (t : T), ts[m]? = some t → ∀ (k : Nat) (u : Value), (f t)[k]? = some u → (ts.flatMap f)[m * sz + k]? = some u := by
    intro ts
    induction ts with
    | nil => intro m t h; simp at h
    | cons a ts ih =>
      intro m t h k u hu
      rw [List.flatMap_cons]
      cases m with
      | zero =>
        simp at h; subst h
        rw [Nat.zero_mul, Nat.zero_add]
        have := (List.getElem?_eq_some_iff.1 hu).1
        rw [List.getElem?_append_left this]
        exact hu
      | succ m =>
        rw [List.getElem?_append_right (by rw [hf, Nat.add_mul]; omega), hf, show (m + 1) * sz + k - sz = m * sz + k by rw [Nat.add_mul]; omega]
        exact ih m t (by simpa using h) k u hu
  intro ts hA m t hm k u hu
  exact hA.cellAd (key ts m t hm k u hu)
theorem flatLen {T : Type} {f : T → List Value} {sz : Nat} (hf : ∀ t, (f t).length = sz) : ∀ ts : List T, (ts.flatMap f).length = ts.length * sz
  | [] => by simp
  | t :: ts => by rw [List.flatMap_cons, List.length_append, hf, flatLen hf ts, List.length_cons, Nat.add_mul]; omega
theorem getD_some {T : Type} {ts : List T} {m : Nat} (d : T) (h : m < ts.length) : ts[m]? = some (ts.getD m d) := by simp [h]
section
variable {P : Program} {o : Oper} {ρ : Operand → Value} {W : World}
theorem run_indexSlM {x y : Operand} {t e : TypeId} {A : Option Addr} {n c m sz : Nat} {k : IntKind} {j : Int} {xs : List Value} (h : o.op = .indexAddr t x y) (ht : P.underlying t = some (.slice e)) (hz : szP P e = some sz) (hx : ρ x = .slice A n c) (hy : ρ y = .int k j)
    (hj : j = (m : Int)) (hm : m < n) (hA : At W A xs) (hl : 0 < xs.length) : (execOp ρ o).run P W = .ok (.value (.pointer (some ((ad A).add (m * sz))))) W := by
  subst hj
  obtain ⟨a, rfl, _, _⟩ := hA.get (k := 0) hl
  unfold execOp; rw [h]
  have h1 : (0 : Int) ≤ (m : Int) ∧ (m : Int) < (n : Int) := ⟨by omega, by omega⟩
  simp only [hx, hy, Instr.indexAt, asIntOf, Sem.run_bind, Sem.run_pure, Result.andThen_ok, run_underlying ht, h1, and_self, if_true, run_size hz]
  simp [ad]
theorem run_fieldAd {t : TypeId} {x : Operand} {f k m : Nat} {A : Option Addr} (h : o.op = .fieldAddr t x f) (hf : fieldP P t f = some k) (hx : ρ x = .pointer (some ((ad A).add m))) :
    (execOp ρ o).run P W = .ok (.value (.pointer (some ((ad A).add (m + k))))) W := by
  unfold fieldP at hf
  split at hf
  · rename_i fs hu
    split at hf
    · rename_i fd hfd
      split at hf
      · rename_i mm hm
        injection hf with hf
        unfold execOp; rw [h]
        simp only [hx, Instr.fieldAt, Instr.sureAddr, Sem.run_bind, run_underlying hu, Result.andThen_ok, hfd, Sem.run_pure, fieldPlace, run_size hm, Nat.add_one_ne_zero, if_false, add_add', hf]
      · cases hf
    · cases hf
  · cases hf
def arrP (P : Program) (t : TypeId) : Option (Nat × Nat) := match P.underlying t with
  | some (.array n e) => (szP P e).map fun z => (n, z)
  | _ => none
/-- an element of an array in memory -/
theorem run_indexArr {t : TypeId} {x y : Operand} {a : Addr} {n sz m : Nat} {k : IntKind} {j : Int} (h : o.op = .indexAddr t x y) (ht : arrP P t = some (n, sz)) (hx : ρ x = .pointer (some a)) (hy : ρ y = .int k j) (hj : j = (m : Int)) (hm : m < n) :
    (execOp ρ o).run P W = .ok (.value (.pointer (some (a.add (m * sz))))) W := by
  subst hj
  unfold arrP at ht
  split at ht
  · rename_i n' e hu
    cases hz : szP P e with
    | none => rw [hz] at ht; cases ht
    | some z =>
      rw [hz] at ht
      simp only [Option.map_some, Option.some.injEq, Prod.mk.injEq] at ht
      obtain ⟨rfl, rfl⟩ := ht
      unfold execOp; rw [h]
      have h1 : (0 : Int) ≤ (m : Int) ∧ (m : Int) < (n' : Int) := ⟨by omega, by omega⟩
      simp only [hx, hy, Instr.indexAt, asIntOf, Instr.sureAddr, Sem.run_bind, Sem.run_pure, Result.andThen_ok, run_underlying hu, h1, and_self, if_true, run_size hz]
      simp
  · cases ht
theorem run_indexArrB {t : TypeId} {x y : Operand} {b off n sz m q : Nat} {k : IntKind} {j : Int} (h : o.op = .indexAddr t x y) (ht : arrP P t = some (n, sz)) (hx : ρ x = .pointer (some ⟨b, off, none⟩)) (hy : ρ y = .int k j) (hj : j = (m : Int)) (hm : m < n) (hq : off + m * sz = q) :
    (execOp ρ o).run P W = .ok (.value (.pointer (some ⟨b, q, none⟩))) W := by
  rw [run_indexArr h ht hx hy hj hm, Addr.add_lit, hq]
theorem run_indexArrA {t : TypeId} {x y : Operand} {A : Option Addr} {p n sz m : Nat} {k : IntKind} {j : Int} (h : o.op = .indexAddr t x y) (ht : arrP P t = some (n, sz)) (hx : ρ x = .pointer (some ((ad A).add p))) (hy : ρ y = .int k j) (hj : j = (m : Int)) (hm : m < n) :
    (execOp ρ o).run P W = .ok (.value (.pointer (some ((ad A).add (p + m * sz))))) W := by
  rw [run_indexArr h ht hx hy hj hm, add_add']
theorem run_loadFrom {a : Addr} {cs : Array Value} (hA : ∀ (k : Nat) u, cs[k]? = some u → W.cell? (a.add k) = some u) : ∀ (n i : Nat) (acc : Array Value), i + n = cs.size → (loadCellsFrom a i n acc).run P W = .ok (acc ++ cs.extract i cs.size) W := by
  intro n
  induction n with
  | zero => intro i acc h; simp [loadCellsFrom]; omega
  | succ n ih =>
    intro i acc h
    have hlt : i < cs.size := by omega
    have hc := hA i cs[i] (Array.getElem?_eq_getElem hlt)
    unfold loadCellsFrom
    simp only [Sem.run_bind, load, Sem.run, hc, Result.andThen_ok]
    rw [ih (i + 1) (acc.push cs[i]) (by omega)]
    congr 1
    rw [Array.push_eq_append, Array.append_assoc]
    congr 1
    apply Array.ext'
    simp only [Array.toList_append, Array.toList_extract, List.extract_eq_take_drop]
    rw [List.drop_eq_getElem_cons (i := i) (by simpa using hlt), show cs.size - i = (cs.size - (i + 1)) + 1 by omega]
    rfl
/-- a struct or an array out of memory that lies somewhere -/
theorem run_loadAtN {t : TypeId} {x : Operand} {a : Addr} {n : Nat} {cs : Array Value} (h : o.op = .load t x) (ht : aggP P t = some true) (hn : szP P t = some n) (hx : ρ x = .pointer (some a)) (hs : cs.size = n) (hA : ∀ (k : Nat) u, cs[k]? = some u → W.cell? (a.add k) = some u) : (execOp ρ o).run P W = .ok (.value (.agg cs)) W := by
  subst hs
  unfold execOp; rw [h]
  simp only [hx, Instr.loadAt, Instr.sureAddr, loadVar, Sem.run_bind, Sem.run_pure, Result.andThen_ok, run_isAgg ht, if_true, run_size hn, loadCells]
  rw [run_loadFrom hA cs.size 0 #[] (by omega)]
  simp
/-- a struct out of a slice of structs -/
theorem run_loadElt {T : Type} {f : T → List Value} {t : TypeId} {x : Operand} {A : Option Addr} {m sz n off : Nat} {ts : List T} {u : T} {cs : Array Value} (h : o.op = .load t x) (ht : aggP P t = some true) (hn : szP P t = some n) (hx : ρ x = .pointer (some ((ad A).add (m * sz + off)))) (hs : cs.size = n)
    (hf : ∀ t, (f t).length = sz) (hA : At W A (ts.flatMap f)) (hm : ts[m]? = some u) (hcs : ∀ k, k < n → (f u)[off + k]? = cs[k]?) : (execOp ρ o).run P W = .ok (.value (.agg cs)) W :=
  run_loadAtN h ht hn hx hs fun k v hk => by
    have := (Array.getElem?_eq_some_iff.1 hk).1
    rw [add_add', Nat.add_assoc]
    exact hA.eltc hf hm (by rw [hcs k (by omega)]; exact hk)
end
end Go.Proofs.YtfjpglohcppjeaaDoor

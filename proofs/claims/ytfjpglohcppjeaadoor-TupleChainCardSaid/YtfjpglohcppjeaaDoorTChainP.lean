/- The plain law of TupleChain: along a chain of versions a snapshot whose commits form a prefix sees one. -/
import Derived.Test.YtfjpglohcppjeaaDoorTOwn
namespace Go.Proofs.YtfjpglohcppjeaaDoor
open Go.RowKit
set_option linter.unusedVariables false
set_option linter.unusedSimpArgs false

abbrev Vp := Int × Int
def cellsP (v : Vp) : List Value := [.int .i64 v.1, .int .i64 v.2, .int .i64 (-1), .int .i64 0, .bool false, .slice none 0 0]
theorem cellsP_len (v : Vp) : (cellsP v).length = 6 := rfl
abbrev flatP (l : List Vp) : List Value := l.flatMap cellsP
theorem flatP_len (l : List Vp) : (flatP l).length = l.length * 6 := by
  induction l with
  | nil => rfl
  | cons v l ih => rw [flatP, List.flatMap_cons, List.length_append, cellsP_len]; show 6 + (flatP l).length = _; rw [ih, List.length_cons]; omega
theorem flatP_app (a b : List Vp) : flatP (a ++ b) = flatP a ++ flatP b := by simp [flatP]
theorem flatP_set (A N : List Vp) (c e x : Int) : (flatP (A ++ (c, e) :: N)).set (A.length * 6 + 1) (.int .i64 x) = flatP (A ++ (c, x) :: N) := by
  rw [flatP_app, flatP_app, List.set_append, if_neg (by rw [flatP_len]; omega), flatP_len]
  congr 1
  rw [show A.length * 6 + 1 - A.length * 6 = 1 by omega]
  rfl
section
variable (hi : Int) (ls : List Int) (g : Int → Int)
def OkC : Int → List Vp → Prop
  | e, [] => e = 0 ∨ g e ≠ 2
  | e, (x, m) :: L => (g x = 2 ∧ x = e ∧ OkC m L) ∨ (g x ≠ 2 ∧ m = 0 ∧ OkC e L)
def OkF : List Vp → Prop
  | (c, e) :: L => c = 2 ∧ OkC g e L
  | [] => False
def manyF (vs : List Vp) : Nat := (vs.filter fun v => visF hi ls [] g v.1 v.2).length
def wstep (s : Bool × Bool) (v : Vp) : Bool × Bool := if g v.1 = 2 then (s.1 && !(s.2 && endedF hi ls g v.1), s.2 || !(endedF hi ls g v.1)) else s
def whF (L : List Vp) (s : Bool × Bool) : Bool × Bool := L.foldl (wstep hi ls g) s
end
section
variable {hi : Int} {ls : List Int} {g : Int → Int}
theorem okc_skip {e : Int} {R : List Vp} : ∀ {N : List Vp}, (∀ v ∈ N, g v.1 ≠ 2 ∧ v.2 = 0) → OkC g e R → OkC g e (N ++ R)
  | [], _, h => h
  | (x, m) :: N, hN, h => .inr ⟨(hN _ (List.mem_cons_self ..)).1, (hN _ (List.mem_cons_self ..)).2, okc_skip (fun v hv => hN v (List.mem_cons_of_mem _ hv)) h⟩
/-- the first versions lead to one that c made -/
def Lead (g : Int → Int) (A : List Vp) (c : Int) : Prop := ∀ m R, OkC g m R → OkF g (A ++ (c, m) :: R)
theorem lead_0 : Lead g [] 2 := fun m R h => ⟨rfl, h⟩
theorem lead_step {A N : List Vp} {c x : Int} (h : Lead g A c) (hN : ∀ v ∈ N, g v.1 ≠ 2 ∧ v.2 = 0) (hx : g x = 2) : Lead g (A ++ (c, x) :: N) x := fun m R hR => by
  have := h x (N ++ (x, m) :: R) (okc_skip hN (.inl ⟨hx, rfl, hR⟩))
  rwa [show A ++ (c, x) :: (N ++ (x, m) :: R) = (A ++ (c, x) :: N) ++ (x, m) :: R by simp] at this
theorem lead_end {A N : List Vp} {c e : Int} (h : Lead g A c) (hN : ∀ v ∈ N, g v.1 ≠ 2 ∧ v.2 = 0) (he : e = 0 ∨ g e ≠ 2) : OkF g (A ++ (c, e) :: N) := by
  have := okc_skip (R := []) hN (show OkC g e [] from he)
  rw [List.append_nil] at this
  exact h e N this
theorem snoc_no {N : List Vp} {x : Int} (hN : ∀ v ∈ N, g v.1 ≠ 2 ∧ v.2 = 0) (hx : g x ≠ 2) : ∀ v ∈ N ++ [(x, 0)], g v.1 ≠ 2 ∧ v.2 = 0 := by
  intro v hv
  rcases List.mem_append.1 hv with h | h
  · exact hN v h
  · rw [List.mem_singleton] at h; subst h; exact ⟨hx, rfl⟩
theorem did_ended (x : Int) : didF hi ls [] g x = endedF hi ls g x := by simp [didF, mineF]
theorem ended_no {x : Int} (h2 : g 2 = 2) (h : g x ≠ 2) : endedF hi ls g x = false := by
  have hx : x ≠ 2 := fun e => h (by rw [e]; exact h2)
  rw [endedF, if_neg hx]
  have : (g x == 2) = false := by simpa using h
  rw [this, Bool.and_false]
theorem wh_false : ∀ (L : List Vp) (o : Bool), (whF hi ls g L (false, o)).1 = false
  | [], _ => rfl
  | v :: L, o => by
    show (whF hi ls g L (wstep hi ls g (false, o) v)).1 = false
    rw [wstep]
    split
    · exact wh_false L _
    · exact wh_false L _
def one (b : Bool) : Nat := bif b then 1 else 0
theorem many_cons (v : Vp) (L : List Vp) : manyF hi ls g (v :: L) = one (visF hi ls [] g v.1 v.2) + manyF hi ls g L := by
  unfold manyF one
  rw [List.filter_cons]
  cases visF hi ls [] g v.1 v.2 <;> simp <;> omega
theorem many_snoc (v : Vp) (L : List Vp) : manyF hi ls g (L ++ [v]) = manyF hi ls g L + one (visF hi ls [] g v.1 v.2) := by
  unfold manyF one
  rw [List.filter_append, List.length_append, List.filter_cons]
  cases visF hi ls [] g v.1 v.2 <;> simp
theorem chain_core (h2 : g 2 = 2) (h0 : g 0 ≠ 2) : ∀ (L : List Vp) (e : Int) (d w : Bool), OkC g e L → (whF hi ls g L (w, !d)).1 = true → one (d && !(e != 0 && endedF hi ls g e)) + manyF hi ls g L = one d
  | [], e, d, w, hok, _ => by
    have : (e != 0 && endedF hi ls g e) = false := by
      rcases hok with h | h
      · subst h; rfl
      · rw [ended_no h2 h, Bool.and_false]
    rw [this]
    simp [manyF]
  | (x, m) :: L, e, d, w, hok, hw => by
    have hw' : (whF hi ls g L (wstep hi ls g (w, !d) (x, m))).1 = true := hw
    rw [many_cons]
    show one (d && !(e != 0 && endedF hi ls g e)) + (one (visF hi ls [] g x m) + manyF hi ls g L) = one d
    rcases hok with ⟨h1, hxe, h3⟩ | ⟨h1, hm0, h3⟩
    · subst hxe
      have hne : (x != 0) = true := by
        rw [bne_iff_ne]; intro e; rw [e] at h1; exact h0 h1
      have hstep : wstep hi ls g (w, !d) (x, m) = (w && !(!d && endedF hi ls g x), !d || !(endedF hi ls g x)) := by rw [wstep, if_pos h1]
      rw [hstep] at hw'
      have hvis : visF hi ls [] g x m = (endedF hi ls g x && !(m != 0 && endedF hi ls g m)) := by rw [visF, did_ended, did_ended]
      rw [hne, Bool.true_and, hvis]
      cases hd : d with
      | true =>
        rw [hd] at hw'
        simp only [Bool.not_true, Bool.false_and, Bool.not_false, Bool.and_true, Bool.false_or] at hw'
        have ih := chain_core h2 h0 L m (endedF hi ls g x) w h3 hw'
        cases hx : endedF hi ls g x with
        | true => rw [hx] at ih; rw [ih]; rfl
        | false => rw [hx] at ih; rw [ih]; rfl
      | false =>
        rw [hd] at hw'
        cases hx : endedF hi ls g x with
        | true =>
          rw [hx] at hw'
          simp only [Bool.not_false, Bool.true_and, Bool.not_true, Bool.and_false, Bool.true_or] at hw'
          rw [wh_false] at hw'; cases hw'
        | false =>
          rw [hx] at hw'
          simp only [Bool.not_false, Bool.and_false, Bool.and_true, Bool.or_true, Bool.true_or] at hw'
          have ih := chain_core h2 h0 L m false w h3 (by simpa using hw')
          simp only [Bool.false_and] at ih ⊢
          rw [ih]; rfl
    · have hstep : wstep hi ls g (w, !d) (x, m) = (w, !d) := by rw [wstep, if_neg h1]
      rw [hstep] at hw'
      have hvis : visF hi ls [] g x m = false := by rw [visF, did_ended, ended_no h2 h1, Bool.false_and]
      rw [hvis]
      have ih := chain_core h2 h0 L e d w h3 hw'
      show _ + (0 + _) = _
      rw [Nat.zero_add]; exact ih
theorem chain_law (h2 : g 2 = 2) (h0 : g 0 ≠ 2) {vs : List Vp} (hok : OkF g vs) (hw : (whF hi ls g (vs.drop 1) (true, false)).1 = true) : manyF hi ls g vs = 1 := by
  cases vs with
  | nil => exact hok.elim
  | cons v L =>
    obtain ⟨c, e⟩ := v
    obtain ⟨hc, ho⟩ := hok
    subst hc
    rw [many_cons]
    have hvis : visF hi ls [] g 2 e = (true && !(e != 0 && endedF hi ls g e)) := by
      rw [visF, did_ended, did_ended]
      have : endedF hi ls g 2 = true := by rw [endedF, if_pos rfl]
      rw [this]
    show one (visF hi ls [] g 2 e) + _ = 1
    rw [hvis]
    exact chain_core h2 h0 L e true true ho hw
theorem wh_snoc (v : Vp) (L : List Vp) (s : Bool × Bool) : whF hi ls g (L ++ [v]) s = wstep hi ls g (whF hi ls g L s) v := by simp [whF, List.foldl_append]
end
end Go.Proofs.YtfjpglohcppjeaaDoor

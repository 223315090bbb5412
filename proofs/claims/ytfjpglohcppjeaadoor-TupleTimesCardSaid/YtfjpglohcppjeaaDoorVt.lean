/- A region's table: the slots that its operations fill, known ahead; the operations that only compute are checked all at once. -/
import Derived.Test.YtfjpglohcppjeaaDoorVq
import Derived.Laws.Sem
namespace Go.Proofs.YtfjpglohcppjeaaDoor
open Go.RowKit
set_option linter.unusedVariables false
set_option linter.unusedSimpArgs false

/-- one operation's line: n: not in the table; a: not in the table, with a slot; k: computes v; c: yields v, shown apart; e: computes raw, which is v; s: computes v under a side condition; z, y, f, g: the same where q holds, else undef; u: a guard says no -/
inductive TE where
  | n
  | a (d : Tmp)
  | k (d : Tmp) (v : Value)
  | c (d : Tmp) (v : Value)
  | e (d : Tmp) (raw v : Value) (h : raw = v)
  | s (d : Tmp) (side : Prop) (raw v : Value) (hs : side) (h : raw = v)
  | z (d : Tmp) (q : Bool) (v : Value)
  | y (d : Tmp) (q : Bool) (v : Value)
  | f (d : Tmp) (q : Bool) (side : Prop) (raw v : Value) (hs : q = true → side) (h : q = true → raw = v)
  | u (d : Tmp)
def TE.dst : TE → Option Tmp
  | .n => none
  | .a _ => none
  | .k d _ => some d
  | .c d _ => some d
  | .e d _ _ _ => some d
  | .s d _ _ _ _ _ => some d
  | .z d _ _ => some d
  | .y d _ _ => some d
  | .f d _ _ _ _ _ _ => some d
  | .u d => some d
def TE.on : TE → Bool
  | .z _ q _ => q
  | .y _ q _ => q
  | .f _ q _ _ _ _ _ => q
  | .u _ => false
  | _ => true
def TE.v : TE → Value
  | .n => undef
  | .a _ => undef
  | .k _ v => v
  | .c _ v => v
  | .e _ _ v _ => v
  | .s _ _ _ v _ _ => v
  | .z _ _ v => v
  | .y _ _ v => v
  | .f _ _ _ _ v _ _ => v
  | .u _ => undef
/-- what stands in the slot -/
def TE.val : TE → Value
  | .n => undef
  | .a _ => undef
  | .k _ v => v
  | .c _ v => v
  | .e _ _ v _ => v
  | .s _ _ _ v _ _ => v
  | .z _ q v => mb q v
  | .y _ q v => mb q v
  | .f _ q _ _ v _ _ => mb q v
  | .u _ => undef
theorem TE.val_eq (t : TE) : t.val = mb t.on t.v := by cases t <;> rfl
/-- shown apart? -/
def TE.apart : TE → Bool
  | .n => true
  | .a _ => true
  | .c _ _ => true
  | .y _ _ _ => true
  | _ => false
def TE.side : TE → Prop
  | .s _ p _ _ _ _ => p
  | .f _ _ p _ _ _ _ => p
  | _ => True
def TE.raw : TE → Value
  | .e _ r _ _ => r
  | .s _ _ r _ _ _ => r
  | .f _ _ _ r _ _ _ => r
  | t => t.v
theorem TE.ok (t : TE) (h : t.on = true) : t.side ∧ t.raw = t.v := by
  cases t with
  | s d side raw v hs h1 => exact ⟨hs, h1⟩
  | e d raw v h1 => exact ⟨trivial, h1⟩
  | f d q side raw v hs hr => exact ⟨hs h, hr h⟩
  | _ => exact ⟨trivial, rfl⟩
def dT : List TE → Nat → (Tmp → Value) → Prop → Prop
  | [], _, _, p => p
  | te :: _, 0, σ, p => match te with
    | .n => p
    | .a _ => p
    | .k d v => σ d = v
    | .c d v => σ d = v
    | .e d _ v _ => σ d = v
    | .s d _ _ v _ _ => σ d = v
    | .z d q v => σ d = mb q v
    | .y d q v => σ d = mb q v
    | .f d q _ _ v _ _ => σ d = mb q v
    | .u d => σ d = undef
  | _ :: l, i + 1, σ, p => dT l i σ p
theorem dT_iff : ∀ (tb : List TE) (i : Nat) (σ : Tmp → Value) (p : Prop), dT tb i σ p = match (tb.getD i .n).dst with
    | some d => σ d = (tb.getD i .n).val
    | none => p
  | [], _, _, _ => rfl
  | te :: _, 0, _, _ => by cases te <;> rfl
  | _ :: l, i + 1, σ, p => dT_iff l i σ p
theorem dTn {tb : List TE} {i : Nat} {σ : Tmp → Value} {p : Prop} (h : dT tb i σ p) (hn : (tb.getD i .n).dst = none := by rfl) : p := by
  rw [dT_iff, hn] at h; exact h

def placeL (P : Program) : List Field → Option (List (Nat × Nat))
  | [] => some []
  | f :: l => match szP P f.type, placeL P l with
    | some n, some r => some ((f.offset, n) :: r)
    | _, _ => none
theorem run_places {P : Program} {W : World} : ∀ {fs : List Field} {pl : List (Nat × Nat)}, placeL P fs = some pl → (fs.mapM fun f => (do pure (f.offset, ← sizeOf f.type) : Sem (Nat × Nat))).run P W = .ok pl W
  | [], pl, h => by
    cases h
    rw [List.mapM_nil]
    rfl
  | f :: fs, pl, h => by
    unfold placeL at h
    split at h
    · rename_i n r hn hr
      cases h
      rw [List.mapM_cons]
      simp only [Sem.run_bind, run_size hn, Result.andThen_ok, Sem.run_pure, run_places hr]
    · cases h
def buildP (P : Program) (t : TypeId) (parts : List (Nat × Value)) : Option (Array Value) :=
  match zeroP P t, P.underlying t with
  | some zc, some (.struct fields) => match placeL P fields.toList with
    | some pl => Instr.fill (pl.toArray[·]?) zc parts
    | none => none
  | some zc, some (.array _ e) => match szP P e with
    | some size => Instr.fill (fun i => some (i * size, size)) zc parts
    | none => none
  | _, _ => none
theorem run_build {P : Program} {o : Oper} {ρ : Operand → Value} {t : TypeId} {parts : Array (Nat × Operand)} {cs : Array Value} (h : o.op = .build t parts) (hb : buildP P t (parts.toList.map fun p => (p.1, ρ p.2)) = some cs) (W : World) :
    (execOp ρ o).run P W = .ok (.value (.agg cs)) W := by
  unfold buildP at hb
  split at hb
  · rename_i zc fields hz hu
    split at hb
    · rename_i pl hpl
      unfold zeroP at hz
      cases hi : P.info? t with
      | none => rw [hi] at hz; cases hz
      | some inf =>
        rw [hi] at hz
        simp only [Option.bind_some] at hz
        cases hzv : inf.zero with
        | none => rw [hzv] at hz; cases hz
        | some z =>
          rw [hzv] at hz
          have hcs : z.cells = zc := Option.some.inj hz
          have h0 : (zeroValue t).run P W = .ok z W := by
            unfold zeroValue
            simp only [Sem.run_bind, run_typeInfo _ hi, Result.andThen_ok, hzv, Sem.run_pure]
          have hm : (fields.mapM fun f => (do pure (f.offset, ← sizeOf f.type) : Sem (Nat × Nat))).run P W = .ok pl.toArray W := by
            have e : fields = fields.toList.toArray := by simp
            rw [e, List.mapM_toArray]
            simp only [map_eq_pure_bind, Sem.run_bind, run_places hpl, Result.andThen_ok, Sem.run_pure]
          have hpa : (parts.map fun x => match x with | (i, x) => (i, ρ x)).toList = parts.toList.map fun p => (p.1, ρ p.2) := by simp
          unfold execOp; rw [h]
          simp only [Instr.build, Sem.run_bind, h0, Result.andThen_ok, run_underlying hu, hm, hcs, hpa, hb, Sem.run_pure]
    · cases hb
  · rename_i zc n e hz hu
    split at hb
    · rename_i size hsz
      unfold zeroP at hz
      cases hi : P.info? t with
      | none => rw [hi] at hz; cases hz
      | some inf =>
        rw [hi] at hz
        simp only [Option.bind_some] at hz
        cases hzv : inf.zero with
        | none => rw [hzv] at hz; cases hz
        | some z =>
          rw [hzv] at hz
          have hcs : z.cells = zc := Option.some.inj hz
          have h0 : (zeroValue t).run P W = .ok z W := by
            unfold zeroValue
            simp only [Sem.run_bind, run_typeInfo _ hi, Result.andThen_ok, hzv, Sem.run_pure]
          have hpa : (parts.map fun x => match x with | (i, x) => (i, ρ x)).toList = parts.toList.map fun p => (p.1, ρ p.2) := by simp
          unfold execOp; rw [h]
          simp only [Instr.build, Sem.run_bind, h0, Result.andThen_ok, run_underlying hu, run_size hsz, hcs, hpa, hb, Sem.run_pure]
    · cases hb
  · cases hb
theorem pmn {ρ : Operand → Value} : ([] : List (Nat × Operand)).map (fun p => (p.1, ρ p.2)) = [] := rfl
theorem pmc {ρ : Operand → Value} {i : Nat} {x : Operand} {v : Value} {l : List (Nat × Operand)} {vs : List (Nat × Value)} (h : ρ x = v) (hl : l.map (fun p => (p.1, ρ p.2)) = vs) : ((i, x) :: l).map (fun p => (p.1, ρ p.2)) = (i, v) :: vs := by
  rw [List.map_cons, hl, h]
theorem run_buildL {P : Program} {o : Oper} {ρ : Operand → Value} {W : World} {t : TypeId} {parts : Array (Nat × Operand)} {vs : List (Nat × Value)} {cs : Array Value} (h : o.op = .build t parts) (hm : parts.toList.map (fun p => (p.1, ρ p.2)) = vs) (hb : buildP P t vs = some cs) :
    (execOp ρ o).run P W = .ok (.value (.agg cs)) W := run_build h (by rw [hm]; exact hb) W
def lookParts (l : Operand → Option Value) : List (Nat × Operand) → Option (List (Nat × Value))
  | [] => some []
  | (i, x) :: r => match l x, lookParts l r with
    | some v, some r => some ((i, v) :: r)
    | _, _ => none
theorem lookParts_eq {l : Operand → Option Value} {ρ : Operand → Value} (hl : ∀ x v, l x = some v → ρ x = v) : ∀ {ps : List (Nat × Operand)} {r : List (Nat × Value)}, lookParts l ps = some r → ps.map (fun p => (p.1, ρ p.2)) = r
  | [], r, h => by cases h; rfl
  | (i, x) :: ps, r, h => by
    unfold lookParts at h
    split at h
    · rename_i v r' hv hr
      cases h
      rw [List.map_cons, lookParts_eq hl hr]
      simp [hl x v hv]
    · cases h
/- what an operation computes out of its operands -/
def pOp (P : Program) (op : Op) (l : Operand → Option Value) : Option (Prop × Value) :=
  match op with
  | .move x => (l x).map fun v => (True, v)
  | .assign x => (l x).map fun v => (True, v)
  | .pick c a b => match l c, l a, l b with
    | some (.bool c), some a, some b => some (True, bif c then a else b)
    | _, _, _ => none
  | .extract x k => match l x with
    | some (.tuple vs) => (vs[k]?).map fun v => (True, v)
    | _ => none
  | .fieldAddr t x f => match l x, fieldP P t f with
    | some (.pointer (some ⟨b, off, none⟩)), some k => some (True, .pointer (some ⟨b, off + k, none⟩))
    | _, _ => none
  | .nilCheck x => match l x with
    | some (.pointer (some a)) => some (True, .pointer (some a))
    | _ => none
  | .unOp .not _ x => match l x with
    | some (.bool b) => some (True, .bool (!b))
    | _ => none
  | .binOp op t x y _ => match l x, l y with
    | some (.int k a), some (.int k' b) => if k = k' then (match op with
      | .rem => some (b ≠ 0, .int k (a.tmod b))
      | .quo => some (b ≠ 0, .int k (k.wrap (a.tdiv b)))
      | .and => some (True, .int k (k.wrap ((BitVec.ofInt k.bits a &&& BitVec.ofInt k.bits b).toNat : Int)))
      | op => (intBin op k a b).map fun v => (True, v)) else none
    | some (.string a), some (.string b) => match op with
      | .eql => some (True, .bool (a.toList == b.toList))
      | .neq => some (True, .bool (!(a.toList == b.toList)))
      | .add => some (a.size + b.size ≤ 9223372036854775807, .string (a ++ b))
      | _ => none
    | some (.slice A _ _), some (.slice none _ _) => match op, P.underlying t with
      | .eql, some (.slice _) => some (True, .bool A.isNone)
      | _, _ => none
    | _, _ => none
  | .convert t t' x => match l x, P.underlying t' with
    | some (.int _ n), some (.int k') => if (P.underlying t).isSome then some (True, .int k' (k'.wrap n)) else none
    | _, _ => none
  | .call ⟨.builtin .len, ⟨[x]⟩, ⟨[t]⟩⟩ => match l x, P.underlying t with
    | some (.string s), some .string => some (True, .int .i64 s.size)
    | some (.slice _ n _), some (.slice _) => some (True, .int .i64 n)
    | _, _ => none
  | .build t parts => match lookParts l parts.toList with
    | some ps => (buildP P t ps).map fun cs => (True, .agg cs)
    | none => none
  | _ => none
theorem pOp_run {P : Program} {o : Oper} {ρ : Operand → Value} {l : Operand → Option Value} (hl : ∀ x v, l x = some v → ρ x = v) {side : Prop} {v : Value} (h : pOp P o.op l = some (side, v)) (hs : side) (W : World) : (execOp ρ o).run P W = .ok (.value v) W := by
  generalize hop : o.op = op at h
  unfold pOp at h
  split at h
  · rename_i x
    cases hx : l x with
    | none => rw [hx] at h; cases h
    | some u => rw [hx] at h; cases h; exact run_move' hop (hl _ _ hx)
  · rename_i x
    cases hx : l x with
    | none => rw [hx] at h; cases h
    | some u => rw [hx] at h; cases h; exact run_assign' hop (hl _ _ hx)
  · rename_i c a b
    split at h
    · rename_i c' a' b' hc ha hb
      cases h
      cases c' with
      | true => exact run_pick_t hop (hl _ _ hc) (hl _ _ ha)
      | false => exact run_pick_f hop (hl _ _ hc) (hl _ _ hb)
    · cases h
  · rename_i x k
    split at h
    · rename_i vs hx
      cases hv : vs[k]? with
      | none => rw [hv] at h; cases h
      | some u => rw [hv] at h; cases h; exact run_extract' hop (hl _ _ hx) hv
    · cases h
  · rename_i t x f
    split at h
    · rename_i b off k hx hf
      cases h
      exact run_fieldAddr' hop hf (hl _ _ hx) rfl
    · cases h
  · rename_i x
    split at h
    · rename_i a hx
      cases h
      exact run_nilCheck hop (hl _ _ hx)
    · cases h
  · rename_i x
    split at h
    · rename_i b hx
      cases h
      exact run_not hop (hl _ _ hx) rfl
    · cases h
  · rename_i op t x y t2
    split at h
    · rename_i k a k' b hx hy
      split at h
      · rename_i hk
        subst hk
        split at h
        · cases h
          exact run_rem hop (hl _ _ hx) (hl _ _ hy) hs rfl
        · cases h
          exact run_quo hop (hl _ _ hx) (hl _ _ hy) hs rfl
        · cases h
          exact run_and hop (hl _ _ hx) (hl _ _ hy) rfl
        · cases hv : intBin op k a b with
          | none => rw [hv] at h; cases h
          | some u => rw [hv] at h; cases h; exact run_bin hop (hl _ _ hx) (hl _ _ hy) hv
      · cases h
    · rename_i a b hx hy
      split at h
      · cases h; exact run_streq hop (hl _ _ hx) (hl _ _ hy)
      · cases h; exact run_strne hop (hl _ _ hx) (hl _ _ hy)
      · cases h; exact run_strcat hop (hl _ _ hx) (hl _ _ hy) hs
      · cases h
    · rename_i A n c n' c' hx hy
      split at h
      · rename_i e ht
        cases h
        exact run_eqnil hop ht (hl _ _ hx) (hl _ _ hy) rfl
      · cases h
    · cases h
  · rename_i t t' x
    split at h
    · rename_i k n k' hx ht'
      split at h
      · rename_i ht
        cases h
        exact run_convI hop ht ht' (hl _ _ hx) rfl
      · cases h
    · cases h
  · rename_i x t
    split at h
    · rename_i s hx ht
      cases h
      exact run_len_s hop ht (hl _ _ hx)
    · rename_i A n c e hx ht
      cases h
      exact run_len_l hop ht (hl _ _ hx)
    · cases h
  · rename_i t parts
    split at h
    · rename_i ps hps
      cases hb : buildP P t ps with
      | none => rw [hb] at h; cases h
      | some cs => rw [hb] at h; cases h; exact run_build hop (by rw [lookParts_eq hl hps]; exact hb) W
    · cases h
  · cases h

/- the operands' values out of the table and the frame -/
def gq (b x : Bool) : Bool := match b with
  | true => x
  | false => !x
def actC (tb : List TE) : Option (Nat × Bool) → Option Bool
  | none => some true
  | some (g, b) => match tb.getD g .n with
    | .n => none
    | .a _ => none
    | .u _ => some false
    | te => match te.v with
      | .bool x => some (te.on && gq b x)
      | _ => none
def findT (t : Tmp) : List Oper → List TE → Nat → Option (Nat × TE)
  | o :: os, te :: tb, j => match o.dst with
    | some d => bif Nat.beq d t then some (j, te) else findT t os tb (j + 1)
    | none => findT t os tb (j + 1)
  | o :: os, [], j => match o.dst with
    | some d => bif Nat.beq d t then some (j, .n) else findT t os [] (j + 1)
    | none => findT t os [] (j + 1)
  | [], _, _ => none
def guardAt (ops : Array Oper) (i : Nat) : Option (Nat × Bool) := match ops[i]? with
  | some o => o.guard
  | none => none
def chainG (ops : Array Oper) : Nat → Option (Nat × Bool) → Option (Nat × Bool) → Nat → Bool
  | 0, _, _, _ => false
  | fuel + 1, some (g, b), gj, j => (match gj with
      | some (g', b') => Nat.beq g g' && (b == b')
      | none => true) || Nat.beq g j || chainG ops fuel (guardAt ops g) gj j
  | _ + 1, none, none, _ => true
  | _ + 1, none, some _, _ => false
def lookT (ops : Array Oper) (L : List Nat) (t0 : Array Value) (tb : List TE) (i : Nat) : Operand → Option Value
  | .const v => some v
  | .global g => some (.pointer (some ⟨g, 0, none⟩))
  | .func f => some (.func (.func f) #[] #[])
  | .tmp t => match findT t ops.toList tb 0 with
    | none => some (t0.getD t undef)
    | some (j, te) => bif isAnc L i j then (match te with
        | .n => none
        | .a _ => none
        | .k _ v => some v
        | .c _ v => some v
        | te => bif chainG ops 4 (guardAt ops i) (guardAt ops j) j then some te.v else some te.val)
      else bif Nat.beq j i || isAnc L j i then some (t0.getD t undef) else none
theorem findT_some {t : Tmp} : ∀ {os : List Oper} {tb : List TE} {k j : Nat} {te : TE}, findT t os tb k = some (j, te) → k ≤ j ∧ (os[j - k]?).bind (·.dst) = some t ∧ te = tb.getD (j - k) .n
  | [], _, _, _, _, h => by cases h
  | o :: os, te' :: tb, k, j, te, h => by
    have hrec : findT t os tb (k + 1) = some (j, te) → k ≤ j ∧ ((o :: os)[j - k]?).bind (·.dst) = some t ∧ te = (te' :: tb).getD (j - k) .n := fun h => by
      obtain ⟨h1, h2, h3⟩ := findT_some h
      have e : j - k = (j - (k + 1)) + 1 := by omega
      rw [e]
      exact ⟨by omega, by simpa using h2, by simpa using h3⟩
    unfold findT at h
    split at h
    · rename_i d hd
      cases hb : Nat.beq d t with
      | true =>
        rw [hb] at h
        simp only [cond_true, Option.some.injEq, Prod.mk.injEq] at h
        obtain ⟨rfl, rfl⟩ := h
        simp only [Nat.sub_self]
        exact ⟨Nat.le_refl _, by simp [hd, Nat.eq_of_beq_eq_true hb], rfl⟩
      | false => rw [hb] at h; exact hrec h
    · exact hrec h
  | o :: os, [], k, j, te, h => by
    have hrec : findT t os [] (k + 1) = some (j, te) → k ≤ j ∧ ((o :: os)[j - k]?).bind (·.dst) = some t ∧ te = ([] : List TE).getD (j - k) .n := fun h => by
      obtain ⟨h1, h2, h3⟩ := findT_some h
      have e : j - k = (j - (k + 1)) + 1 := by omega
      rw [e]
      exact ⟨by omega, by simpa using h2, by simpa using h3⟩
    unfold findT at h
    split at h
    · rename_i d hd
      cases hb : Nat.beq d t with
      | true =>
        rw [hb] at h
        simp only [cond_true, Option.some.injEq, Prod.mk.injEq] at h
        obtain ⟨rfl, rfl⟩ := h
        simp only [Nat.sub_self]
        exact ⟨Nat.le_refl _, by simp [hd, Nat.eq_of_beq_eq_true hb], rfl⟩
      | false => rw [hb] at h; exact hrec h
    · exact hrec h
theorem findT_none {t : Tmp} : ∀ {os : List Oper} {tb : List TE} {k : Nat}, findT t os tb k = none → ∀ j : Nat, (os[j]?).bind (·.dst) ≠ some t
  | [], _, _, _, j => by simp
  | o :: os, te :: tb, k, h, j => by
    unfold findT at h
    split at h
    · rename_i d hd
      cases hb : Nat.beq d t with
      | true => rw [hb] at h; cases h
      | false =>
        rw [hb] at h
        cases j with
        | zero => simp only [List.getElem?_cons_zero, Option.bind_some, hd, ne_eq, Option.some.injEq]; exact Nat.ne_of_beq_eq_false hb
        | succ j => simpa using findT_none h j
    · rename_i hd
      cases j with
      | zero => simp [hd]
      | succ j => simpa using findT_none h j
  | o :: os, [], k, h, j => by
    unfold findT at h
    split at h
    · rename_i d hd
      cases hb : Nat.beq d t with
      | true => rw [hb] at h; cases h
      | false =>
        rw [hb] at h
        cases j with
        | zero => simp only [List.getElem?_cons_zero, Option.bind_some, hd, ne_eq, Option.some.injEq]; exact Nat.ne_of_beq_eq_false hb
        | succ j => simpa using findT_none h j
    · rename_i hd
      cases j with
      | zero => simp [hd]
      | succ j => simpa using findT_none h j
theorem dstAt_list {ops : Array Oper} {j : Nat} : (ops.toList[j]?).bind (·.dst) = dstAt ops j := by
  unfold dstAt; rw [Array.getElem?_toList]

/-- the check of one line: (what is, what ought to be) -/
abbrev Chk := Option Tmp × Option Bool × Option (Prop × Value)
def goT (P : Program) (ops : Array Oper) (L : List Nat) (t0 : Array Value) (tb : List TE) (i : Nat) (te : TE) : Chk := match te with
  | .n => (none, none, none)
  | .a d => (dstAt ops i, none, none)
  | .u _ => (dstAt ops i, actC tb (guardAt ops i), none)
  | .c _ _ => (dstAt ops i, actC tb (guardAt ops i), none)
  | .y _ _ _ => (dstAt ops i, actC tb (guardAt ops i), none)
  | _ => (dstAt ops i, actC tb (guardAt ops i), match ops[i]? with
    | some o => pOp P o.op (lookT ops L t0 tb i)
    | none => none)
def wantT (te : TE) : Chk := match te with
  | .n => (none, none, none)
  | .a d => (some d, none, none)
  | .u d => (some d, some false, none)
  | .c d _ => (some d, some true, none)
  | .y d q _ => (some d, some q, none)
  | te => (te.dst, some te.on, some (te.side, te.raw))
theorem goT_pure {P : Program} {ops : Array Oper} {L : List Nat} {t0 : Array Value} {tb : List TE} {i : Nat} {te : TE} (h : te.apart = false) (hon : te.on = true) : goT P ops L t0 tb i te = (dstAt ops i, actC tb (guardAt ops i), match ops[i]? with
    | some o => pOp P o.op (lookT ops L t0 tb i)
    | none => none) ∧ wantT te = (te.dst, some te.on, some (te.side, te.raw)) := by
  cases te <;> first | cases h; done | cases hon; done | exact ⟨rfl, rfl⟩
theorem actC_some {tb : List TE} {g : Nat} {b r : Bool} (h : actC tb (some (g, b)) = some r) : (tb.getD g .n).dst ≠ none ∧ (((tb.getD g .n).on = false ∧ r = false) ∨ ∃ x, (tb.getD g .n).v = .bool x ∧ r = ((tb.getD g .n).on && gq b x)) := by
  have h' : (match tb.getD g .n with
    | .n => none
    | .a _ => none
    | .u _ => some false
    | te => match te.v with
      | .bool x => some (te.on && gq b x)
      | _ => none) = some r := h
  generalize tb.getD g .n = te at h' ⊢
  clear h
  split at h'
  · cases h'
  · cases h'
  · injection h' with h
    exact ⟨by simp [TE.dst], .inl ⟨rfl, h.symm⟩⟩
  · rename_i h1 h2 h3
    split at h'
    · rename_i x hx
      injection h' with h
      refine ⟨?_, .inr ⟨x, hx, h.symm⟩⟩
      cases te <;> first | exact absurd rfl h1 | exact absurd rfl (h2 _) | simp [TE.dst]
    · cases h'
def goTs (P : Program) (ops : Array Oper) (L : List Nat) (t0 : Array Value) (tb : List TE) : Nat → List TE → List Chk
  | _, [] => []
  | i, te :: l => goT P ops L t0 tb i te :: goTs P ops L t0 tb (i + 1) l
theorem goTs_get {P : Program} {ops : Array Oper} {L : List Nat} {t0 : Array Value} {tb : List TE} : ∀ {l : List TE} {k i : Nat}, goTs P ops L t0 tb k l = l.map wantT → i < l.length → goT P ops L t0 tb (k + i) (l.getD i .n) = wantT (l.getD i .n)
  | [], _, _, _, h => absurd h (Nat.not_lt_zero _)
  | te :: l, k, i, h, hi => by
    rw [goTs, List.map_cons] at h
    obtain ⟨h1, h2⟩ := List.cons.inj h
    cases i with
    | zero => exact h1
    | succ i =>
      have := goTs_get (i := i) h2 (by simpa using hi)
      rw [show k + (i + 1) = k + 1 + i by omega]
      simpa using this
/-- what else is to be seen of the lines: those that compute touch no entry, guards stand ahead; the table has the region's length -/
def lineOk (ops : Array Oper) (L : List Nat) (cr kl : List (List Nat)) (sp : List Nat) : Nat → List TE → Bool
  | _, [] => true
  | i, te :: l => ((te.apart && sp.contains i) || (!te.apart && (atV cr i).isEmpty && (atV kl i).isEmpty && (match guardAt ops i with
      | some (g, _) => isAnc L i g
      | none => true))) && lineOk ops L cr kl sp (i + 1) l
theorem lineOk_get {ops : Array Oper} {L : List Nat} {cr kl : List (List Nat)} {sp : List Nat} : ∀ {l : List TE} {k i : Nat}, lineOk ops L cr kl sp k l = true → i < l.length →
    ((l.getD i .n).apart = true ∧ (k + i) ∈ sp) ∨ ((l.getD i .n).apart = false ∧ atV cr (k + i) = [] ∧ atV kl (k + i) = [] ∧ ∀ g b, guardAt ops (k + i) = some (g, b) → isAnc L (k + i) g = true)
  | [], _, _, _, h => absurd h (Nat.not_lt_zero _)
  | te :: l, k, i, h, hi => by
    rw [lineOk, Bool.and_eq_true] at h
    cases i with
    | zero =>
      have h1 := h.1
      rw [Bool.or_eq_true] at h1
      rcases h1 with h1 | h1
      · rw [Bool.and_eq_true] at h1
        exact .inl ⟨h1.1, List.contains_iff_mem.1 h1.2⟩
      · simp only [Bool.and_eq_true, Bool.not_eq_true', List.isEmpty_iff] at h1
        refine .inr ⟨h1.1.1.1, h1.1.1.2, h1.1.2, fun g b hg => ?_⟩
        have := h1.2
        rw [show k = k + 0 from rfl, hg] at this
        exact this
    | succ i =>
      have := lineOk_get (i := i) h.2 (by simpa using hi)
      rw [show k + (i + 1) = k + 1 + i by omega]
      simpa using this
def tOk (P : Program) (ops : Array Oper) (L : List Nat) (t0 : Array Value) (tb : List TE) : Prop := goTs P ops L t0 tb 0 tb = tb.map wantT

section
variable {P : Program} {ops : Array Oper} {L : List Nat} {t0 : Array Value} {d0 : List Deferred} {w0 : World} {bor : List Nat} {X0 : List Ent} {us cr kl : List (List Nat)} {tb : List TE}
  {A : Nat → (Tmp → Value) → (Tmp → Value) → (Nat → Ent) → Prop}

theorem tOk_get (h : tOk P ops L t0 tb) {i : Nat} (hi : i < tb.length) : goT P ops L t0 tb i (tb.getD i .n) = wantT (tb.getD i .n) := by
  have := goTs_get h hi
  rwa [Nat.zero_add] at this
theorem tOk_dst (h : tOk P ops L t0 tb) {i : Nat} (hi : i < tb.length) {d : Tmp} (hd : (tb.getD i .n).dst = some d) : dstAt ops i = some d ∧ actC tb (guardAt ops i) = some (tb.getD i .n).on := by
  have h1 := tOk_get h hi
  cases hte : tb.getD i .n with
  | n => rw [hte] at hd; cases hd
  | a _ => rw [hte] at hd; cases hd
  | _ =>
    rw [hte] at h1 hd
    simp only [goT, wantT, Prod.mk.injEq, TE.dst, TE.on] at h1 hd ⊢
    injection hd with hd
    subst hd
    exact ⟨h1.1, h1.2.1⟩
theorem getD_lt {tb : List TE} {i : Nat} (h : (tb.getD i .n).dst ≠ none) : i < tb.length := by
  rcases Nat.lt_or_ge i tb.length with g | g
  · exact g
  · rw [List.getD_eq_getElem?_getD, List.getElem?_eq_none g] at h; exact absurd rfl h
theorem ne_n_dst {te : TE} (h : te.dst ≠ none) : ∃ d, te.dst = some d := by cases te <;> first | exact absurd rfl h | exact ⟨_, rfl⟩
/-- where a guard's chain says so, the other operation was on, too -/
theorem chainG_on (h : tOk P ops L t0 tb) {j : Nat} (hj : (tb.getD j .n).dst ≠ none) : ∀ (fuel : Nat) (gi : Option (Nat × Bool)), actC tb gi = some true → chainG ops fuel gi (guardAt ops j) j = true → (tb.getD j .n).on = true := by
  obtain ⟨d, hd⟩ := ne_n_dst hj
  obtain ⟨_, hact⟩ := tOk_dst h (getD_lt hj) hd
  intro fuel
  induction fuel with
  | zero => intro gi _ hc; cases hc
  | succ fuel ih =>
    intro gi hg hc
    cases gi with
    | none =>
      cases hgj : guardAt ops j with
      | none => rw [hgj] at hact; simp only [actC, Option.some.injEq] at hact; exact hact.symm
      | some gb => rw [hgj] at hc; cases hc
    | some gb =>
      obtain ⟨g, b⟩ := gb
      unfold chainG at hc
      rw [Bool.or_eq_true, Bool.or_eq_true] at hc
      rcases hc with (hc | hc) | hc
      · cases hgj : guardAt ops j with
        | none => rw [hgj] at hact; simp only [actC, Option.some.injEq] at hact; exact hact.symm
        | some gb' =>
          obtain ⟨g', b'⟩ := gb'
          rw [hgj] at hc hact
          simp only [Bool.and_eq_true, beq_iff_eq] at hc
          obtain ⟨h1, rfl⟩ := hc
          have := Nat.eq_of_beq_eq_true h1
          subst this
          rw [hg] at hact
          exact (Option.some.inj hact).symm
      · have := Nat.eq_of_beq_eq_true hc
        subst this
        obtain ⟨_, h1 | ⟨x, _, h1⟩⟩ := actC_some hg
        · cases h1.2
        · cases h2 : (tb.getD g .n).on with
          | true => rfl
          | false => rw [h2] at h1; cases h1
      · have hgo : actC tb (guardAt ops g) = some true := by
          obtain ⟨hne, h1⟩ := actC_some hg
          obtain ⟨d', hd'⟩ := ne_n_dst hne
          obtain ⟨_, h2⟩ := tOk_dst h (getD_lt hne) hd'
          rw [h2]
          congr 1
          rcases h1 with h1 | ⟨x, _, h1⟩
          · cases h1.2
          · cases h3 : (tb.getD g .n).on with
            | true => rfl
            | false => rw [h3] at h1; cases h1
        exact ih _ hgo hc

theorem anc_val {i : Nat} {ρ : Operand → Value} {β : Tmp → Value} {W : World} {X : Nat → Ent} (cx : CtxV ops L ⟨t0, d0⟩ w0 bor X0 us (fun ix σ β X => dT tb ix σ (A ix σ β X)) i ρ β W X) {j : Nat} {d : Tmp} (ha : isAnc L i j = true) (hd : (tb.getD j .n).dst = some d) : ρ (.tmp d) = (tb.getD j .n).val := by
  have := cx.anc j ha
  rw [dT_iff, hd] at this
  exact this
theorem lookT_sound (hdk : dstOk ops t0.size = true) (h : tOk P ops L t0 tb) {i : Nat} {ρ : Operand → Value} {β : Tmp → Value} {W : World} {X : Nat → Ent} (cx : CtxV ops L ⟨t0, d0⟩ w0 bor X0 us (fun ix σ β X => dT tb ix σ (A ix σ β X)) i ρ β W X)
    (hon : actC tb (guardAt ops i) = some true) {x : Operand} {v : Value} (hx : lookT ops L t0 tb i x = some v) : ρ x = v := by
  unfold lookT at hx
  split at hx
  · cases hx; exact cx.sees.const _
  · cases hx; exact cx.sees.glob _
  · cases hx; exact cx.sees.func _
  · rename_i t
    split at hx
    · rename_i hf
      cases hx
      refine cx.out t (List.all_eq_true.2 fun j _ => ?_)
      have := findT_none hf j
      rw [dstAt_list] at this
      simp [this]
    · rename_i j te hf
      obtain ⟨_, h2, h3⟩ := findT_some hf
      rw [dstAt_list, Nat.sub_zero] at h2
      rw [Nat.sub_zero] at h3
      cases ha : isAnc L i j with
      | true =>
        rw [ha, cond_true] at hx
        have hdd : te.dst ≠ none → te.dst = some t := fun hne => by
          rw [h3] at hne ⊢
          obtain ⟨d', hd'⟩ := ne_n_dst hne
          obtain ⟨h5, _⟩ := tOk_dst h (getD_lt hne) hd'
          rw [h2] at h5
          rw [hd', h5]
        have hval : te.dst ≠ none → ρ (.tmp t) = te.val := fun hne => by
          have := hdd hne
          rw [h3] at this ⊢
          exact anc_val cx ha this
        have hch : te.dst ≠ none → (bif chainG ops 4 (guardAt ops i) (guardAt ops j) j then some te.v else some te.val) = some v → ρ (.tmp t) = v := fun hne hx => by
          cases hc : chainG ops 4 (guardAt ops i) (guardAt ops j) j with
          | true =>
            rw [hc, cond_true] at hx
            cases hx
            rw [hval hne, TE.val_eq]
            have := chainG_on h (j := j) (by rw [← h3]; exact hne) 4 _ hon hc
            rw [← h3] at this
            rw [this]; rfl
          | false => rw [hc, cond_false] at hx; cases hx; exact hval hne
        cases te with
        | n => cases hx
        | a _ => cases hx
        | k d u => cases hx; exact hval (by simp [TE.dst])
        | c d u => cases hx; exact hval (by simp [TE.dst])
        | _ => exact hch (by simp [TE.dst]) hx
      | false =>
        rw [ha, cond_false] at hx
        cases hb : Nat.beq j i || isAnc L j i with
        | false => rw [hb] at hx; cases hx
        | true =>
          rw [hb, cond_true] at hx
          cases hx
          refine cx.out t (List.all_eq_true.2 fun j' _ => ?_)
          by_cases e : dstAt ops j' = some t
          · have hjj : j' = j := by
              refine Classical.byContradiction fun hne => ?_
              exact absurd e ((dstOk_spec hdk h2).2 j' hne)
            subst hjj
            rw [Bool.or_eq_true] at hb
            rcases hb with hb | hb
            · simp [Nat.eq_of_beq_eq_true hb]
            · simp [hb]
          · simp [e]
theorem pure_step (hdk : dstOk ops t0.size = true) (h : tOk P ops L t0 tb) {sp : List Nat} (hl : lineOk ops L cr kl sp 0 tb = true) {i : Nat} (hi : i < tb.length) (hap : (tb.getD i .n).apart = false) :
    StepV P ops L ⟨t0, d0⟩ w0 bor X0 us cr kl (fun ix σ β X => dT tb ix σ (A ix σ β X)) i := by
  have hne : (tb.getD i .n).dst ≠ none := fun e => by generalize tb.getD i .n = te at *; cases te <;> cases e <;> cases hap
  obtain ⟨d, hd⟩ := ne_n_dst hne
  obtain ⟨hdst, hact⟩ := tOk_dst h hi hd
  have hl' := lineOk_get (i := i) hl hi
  rw [Nat.zero_add] at hl'
  obtain ⟨hc, hk, hga⟩ : atV cr i = [] ∧ atV kl i = [] ∧ ∀ g b, guardAt ops i = some (g, b) → isAnc L i g = true := by
    rcases hl' with ⟨h1, _⟩ | ⟨_, h2, h3, h4⟩
    · rw [hap] at h1; cases h1
    · exact ⟨h2, h3, h4⟩
  obtain ⟨o, ho, hod⟩ : ∃ o, ops[i]? = some o ∧ o.dst = some d := by
    unfold dstAt at hdst
    cases ho : ops[i]? with
    | none => rw [ho] at hdst; cases hdst
    | some o => rw [ho] at hdst; exact ⟨o, rfl, hdst⟩
  have hgo : guardAt ops i = o.guard := by simp [guardAt, ho]
  intro ρ β W X cx
  rw [ho]
  dsimp only
  have hval : ∀ (σ β : Tmp → Value) (X : Nat → Ent), σ d = (tb.getD i .n).val → dT tb i σ (A i σ β X) := fun σ β X e => by rw [dT_iff, hd]; exact e
  have hno : (tb.getD i .n).on = false → (atV cr i = [] ∧ atV kl i = [] ∧ ∀ (σ β' : Tmp → Value), (∀ t, o.dst ≠ some t → σ t = ρ (.tmp t)) → (∀ d, o.dst = some d → σ d = undef) → (∀ t, o.dst ≠ some t → β' t = β t) → (∀ d, o.dst = some d → β' d = undef) → dT tb i σ (A i σ β' X)) := fun e =>
    ⟨hc, hk, fun σ β' hs hv hb hbv => hval σ β' X (by rw [hv d hod, TE.val_eq, e]; rfl)⟩
  have hyes : (tb.getD i .n).on = true → DoesU P o ρ W (PostV cr kl (fun ix σ β X => dT tb ix σ (A ix σ β X)) i o.dst ρ β W X) := fun e => by
    have h1 := tOk_get h hi
    obtain ⟨hs, hr⟩ := (tb.getD i .n).ok e
    have h2 : pOp P o.op (lookT ops L t0 tb i) = some ((tb.getD i .n).side, (tb.getD i .n).raw) := by
      obtain ⟨h3, h4⟩ := goT_pure (P := P) (ops := ops) (L := L) (t0 := t0) (tb := tb) (i := i) hap e
      rw [h3, h4, ho] at h1
      injection h1 with _ h1
      injection h1
    refine DoesU.value (pOp_run (fun x v hx => lookT_sound hdk h cx (by rw [hact, e]) hx) h2 hs W) ⟨[], by rw [hc]; rfl, ⟨Upd.refl _ _, by simp, List.Pairwise.nil⟩, fun σ β' X' hs' hv hb hbv hx hN => hval σ β' X' ?_⟩
    rw [hv d hod, hr, TE.val_eq, e]; rfl
  cases hg : o.guard with
  | none =>
    rw [hgo, hg] at hact
    exact GSayV.none hg (hyes (Option.some.inj hact).symm)
  | some gb =>
    obtain ⟨g, b⟩ := gb
    have ha := hga g b (by rw [hgo, hg])
    rw [hgo, hg] at hact
    obtain ⟨hgn, hcase⟩ := actC_some hact
    obtain ⟨dg, hdg⟩ := ne_n_dst hgn
    have hgd := (tOk_dst h (getD_lt hgn) hdg).1
    have hgv := anc_val cx ha hdg
    have hoff : (tb.getD g .n).on = false → (tb.getD i .n).on = false → GSayV ops ρ o (DoesU P o ρ W (PostV cr kl (fun ix σ β X => dT tb ix σ (A ix σ β X)) i o.dst ρ β W X)) (atV cr i = [] ∧ atV kl i = [] ∧ ∀ (σ β' : Tmp → Value), (∀ t, o.dst ≠ some t → σ t = ρ (.tmp t)) → (∀ d, o.dst = some d → σ d = undef) → (∀ t, o.dst ≠ some t → β' t = β t) → (∀ d, o.dst = some d → β' d = undef) → dT tb i σ (A i σ β' X)) :=
      fun e1 e2 => GSayV.un hg hgd (by rw [hgv, TE.val_eq, e1]; rfl) (hno e2)
    rcases hcase with ⟨e1, e2⟩ | ⟨x, hx, e2⟩
    · exact hoff e1 e2
    · cases e1 : (tb.getD g .n).on with
      | false => exact hoff e1 (by rw [e2, e1]; rfl)
      | true =>
        have hv : ρ (.tmp dg) = .bool x := by rw [hgv, TE.val_eq, e1, hx]; rfl
        rw [e1, Bool.true_and] at e2
        by_cases e3 : x = b
        · subst e3
          exact GSayV.on hg hgd hv (hyes (by rw [e2]; cases x <;> rfl))
        · exact GSayV.off hg hgd hv e3 (hno (by rw [e2]; cases x <;> cases b <;> first | rfl | exact absurd rfl e3))
end

/- the frame behind a region -/
def valT (ops : Array Oper) (tb : List TE) (σ : Tmp → Value) (i : Nat) : Value := match (tb.getD i .n).dst with
  | some _ => (tb.getD i .n).val
  | none => σ ((dstAt ops i).getD 0)
/-- the lines' values; a line that is not in the table has its slot's -/
def vals : List TE → (Tmp → Value) → List Value
  | [], _ => []
  | .n :: l, σ => vals l σ
  | .a d :: l, σ => σ d :: vals l σ
  | .k _ v :: l, σ => v :: vals l σ
  | .c _ v :: l, σ => v :: vals l σ
  | .e _ _ v _ :: l, σ => v :: vals l σ
  | .s _ _ _ v _ _ :: l, σ => v :: vals l σ
  | .z _ q v :: l, σ => mb q v :: vals l σ
  | .y _ q v :: l, σ => mb q v :: vals l σ
  | .f _ q _ _ v _ _ :: l, σ => mb q v :: vals l σ
  | .u _ :: l, σ => undef :: vals l σ
/-- runs: (slots kept, first line, lines, slots kept and filled) -/
def mgT (tb : List TE) (σ : Tmp → Value) : List (Nat × Nat × Nat × Nat) → List Value → List Value
  | [], l => l
  | (g, f, n, k) :: r, l => l.take g ++ (vals ((tb.drop f).take n) σ ++ mgT tb σ r (l.drop k))
def inAll (F : Nat → Prop) : List Nat → Prop
  | [] => True
  | i :: l => F i ∧ inAll F l
theorem inAll_get {F : Nat → Prop} : ∀ {l : List Nat}, inAll F l → ∀ i, i ∈ l → F i
  | [], _, _, h => by cases h
  | x :: l, h, i, hi => by
    rcases List.mem_cons.1 hi with rfl | hi
    · exact h.1
    · exact inAll_get h.2 i hi
theorem AllTo.of {F : Nat → Prop} : ∀ {n : Nat}, (∀ i, i < n → F i) → AllTo F n
  | 0, _ => trivial
  | n + 1, h => ⟨AllTo.of fun i hi => h i (by omega), h n (by omega)⟩
theorem wp_region_T {P : Program} {ops : Array Oper} {Q : Exit → Act → World → Prop} {w0 : World} {bor : List Nat} {X0 : List Ent} {id : Nat} {dr : Bool} {w : World} {t0 : List Value} {d0 : List Deferred} (L : List Nat) (us cr kl : List (List Nat)) (tb : List TE)
    (A : Nat → (Tmp → Value) → (Tmp → Value) → (Nat → Ent) → Prop) (fin sp : List Nat) (rs : List (Nat × Nat × Nat × Nat)) (hst : St w0 bor X0 w) (hloc : LocalV ops X0.length L cr A)
    (hstep : inAll (StepV P ops L ⟨t0.toArray, d0⟩ w0 bor X0 us cr kl (fun ix σ β X => dT tb ix σ (A ix σ β X))) sp)
    (hrest : ∀ (σ β : Tmp → Value) (X : Nat → Ent) (w' : World), (∀ i, i < ops.size → dT tb i σ (A i σ β X)) → (∀ q e, X0[q]? = some e → X q = e) → St w0 bor (fin.map X) w' → ∀ fr, fr = mgT tb σ rs t0 → Q .normal ⟨fr.toArray, d0⟩ w')
    (ht : goTs P ops L t0.toArray tb 0 tb = tb.map wantT := by kernel_rfl) (hl : lineOk ops L cr kl sp 0 tb = true := by kernel_rfl) (hn : tb.length = ops.size := by kernel_rfl)
    (hfr : ∀ σ, putAll (dstsU ops) ((idxU ops).map (valT ops tb σ)) t0.toArray = (mgT tb σ rs t0).toArray := by intro σ; kernel_rfl)
    (hm : P.follows .mixedOrders = true := by kernel_rfl) (hL : okAnc ops L = true := by kernel_rfl) (hd : dstOk ops t0.toArray.size = true := by kernel_rfl) (hflow : flowV ops.size X0.length L us cr kl = true := by kernel_rfl) (hfin : finV ops.size X0.length cr kl fin = true := by kernel_rfl) :
    (Code.region id ops dr).wp P Q ⟨t0.toArray, d0⟩ w := by
  refine wp_region_W hm L us cr kl (fun ix σ β X => dT tb ix σ (A ix σ β X)) fin hL hd hflow hfin (fun i σ σ' β β' X X' h1 h2 h3 h => ?_) hst (AllTo.of fun i hi => ?_) fun σ β X w' hD hX hst' fr hfr' => ?_
  · dsimp only at h ⊢
    rw [dT_iff] at h ⊢
    cases hdd : (tb.getD i .n).dst with
    | some d =>
      rw [hdd] at h
      dsimp only at h ⊢
      have hi : i < tb.length := getD_lt (by rw [hdd]; simp)
      have := (tOk_dst ht hi hdd).1
      rw [← h1 d (by unfold seesV; simp [this])]
      exact h
    | none =>
      rw [hdd] at h
      exact hloc i σ σ' β β' X X' h1 h2 h3 h
  · have hi' : i < tb.length := by rw [hn]; exact hi
    have h := lineOk_get (i := i) hl hi'
    rw [Nat.zero_add] at h
    rcases h with ⟨_, h⟩ | ⟨h, _⟩
    · exact inAll_get hstep i h
    · exact pure_step hd ht hl hi' h
  · subst hfr'
    have e : (dstsU ops).map σ = (idxU ops).map (valT ops tb σ) := by
      unfold dstsU
      rw [List.map_map]
      refine List.map_congr_left fun i hi => ?_
      have him := List.mem_filter.1 hi
      have hlt : i < ops.size := List.mem_range.1 him.1
      have h := hD i hlt
      rw [dT_iff] at h
      unfold valT
      cases hdd : (tb.getD i .n).dst with
      | none => rfl
      | some d =>
        rw [hdd] at h
        dsimp only at h ⊢
        have := (tOk_dst ht (i := i) (by rw [hn]; exact hlt) hdd).1
        simp only [Function.comp, this, Option.getD_some]
        exact h
    rw [e, hfr σ]
    exact hrest σ β X w' hD hX hst' _ rfl
/-- a region that only computes -/
theorem wp_region_P {P : Program} {ops : Array Oper} {Q : Exit → Act → World → Prop} {w0 : World} {bor : List Nat} {X0 : List Ent} {id : Nat} {dr : Bool} {w : World} {t0 t1 : List Value} {d0 : List Deferred} (L : List Nat) (tb : List TE)
    (rs : List (Nat × Nat × Nat × Nat)) (hst : St w0 bor X0 w) (hrest : ∀ w', St w0 bor X0 w' → Q .normal ⟨t1.toArray, d0⟩ w')
    (h1 : mgT tb (fun _ => undef) rs t0 = t1 := by dsimp only [mgT, vals, List.take, List.drop, List.cons_append, List.nil_append])
    (ht : goTs P ops L t0.toArray tb 0 tb = tb.map wantT := by kernel_rfl) (hl : lineOk ops L [] [] [] 0 tb = true := by kernel_rfl) (hn : tb.length = ops.size := by kernel_rfl)
    (hfr : ∀ σ, putAll (dstsU ops) ((idxU ops).map (valT ops tb σ)) t0.toArray = (mgT tb (fun _ => undef) rs t0).toArray := by intro σ; kernel_rfl)
    (hm : P.follows .mixedOrders = true := by kernel_rfl) (hL : okAnc ops L = true := by kernel_rfl) (hd : dstOk ops t0.toArray.size = true := by kernel_rfl) :
    (Code.region id ops dr).wp P Q ⟨t0.toArray, d0⟩ w := by
  have hat : ∀ i, atV ([] : List (List Nat)) i = [] := fun i => by simp [atV]
  refine wp_region_W hm L [] [] [] (fun ix σ β X => dT tb ix σ True) (List.range X0.length) hL hd ?_ ?_ (fun i σ σ' β β' X X' h1 h2 h3 h => ?_) hst (AllTo.of fun i hi => ?_) fun σ β X w' hD hX hst' fr hfr' => ?_
  · unfold flowV; simp [hat]
  · unfold finV; simp [hat, List.nodup_range]
  · dsimp only at h ⊢
    rw [dT_iff] at h ⊢
    cases hdd : (tb.getD i .n).dst with
    | some d =>
      rw [hdd] at h
      dsimp only at h ⊢
      have hi : i < tb.length := getD_lt (by rw [hdd]; simp)
      have := (tOk_dst ht hi hdd).1
      rw [← h1 d (by unfold seesV; simp [this])]
      exact h
    | none => trivial
  · have hi' : i < tb.length := by rw [hn]; exact hi
    have h := lineOk_get (i := i) hl hi'
    rw [Nat.zero_add] at h
    rcases h with ⟨_, h⟩ | ⟨h, _⟩
    · cases h
    · exact pure_step (A := fun _ _ _ _ => True) hd ht hl hi' h
  · subst hfr'
    have e : (dstsU ops).map σ = (idxU ops).map (valT ops tb σ) := by
      unfold dstsU
      rw [List.map_map]
      refine List.map_congr_left fun i hi => ?_
      have him := List.mem_filter.1 hi
      have hlt : i < ops.size := List.mem_range.1 him.1
      have h := hD i hlt
      rw [dT_iff] at h
      unfold valT
      cases hdd : (tb.getD i .n).dst with
      | none => rfl
      | some d =>
        rw [hdd] at h
        dsimp only at h ⊢
        have := (tOk_dst ht (i := i) (by rw [hn]; exact hlt) hdd).1
        simp only [Function.comp, this, Option.getD_some]
        exact h
    rw [e, hfr σ, h1]
    refine hrest w' ?_
    have : (List.range X0.length).map X = X0 := by
      apply List.ext_getElem (by simp)
      intro q h1 h2
      rw [List.getElem_map, List.getElem_range]
      exact hX q _ (List.getElem?_eq_getElem h2)
    rw [this] at hst'
    exact hst'
/- short forms of lines -/
abbrev tI (d : Tmp) (z : Int) (h : -9223372036854775808 ≤ z ∧ z ≤ 9223372036854775807) : TE := .e d (.int .i64 (IntKind.i64.wrap z)) (.int .i64 z) (congrArg _ (IntWalk.i64_in _ h))
abbrev tJ (d : Tmp) (r z : Int) (h : -9223372036854775808 ≤ r ∧ r ≤ 9223372036854775807) (e : r = z) : TE := .e d (.int .i64 (IntKind.i64.wrap r)) (.int .i64 z) (congrArg _ ((IntWalk.i64_in _ h).trans e))
abbrev tW (d : Tmp) (k : IntKind) (r z : Int) (h : k.wrap r = z) : TE := .e d (.int k (k.wrap r)) (.int k z) (congrArg _ h)
abbrev tRe (d : Tmp) (k : IntKind) (a b z : Int) (h : a.tmod b = z) (hb : b ≠ 0 := by decide) : TE := .s d (b ≠ 0) (.int k (a.tmod b)) (.int k z) hb (congrArg _ h)
abbrev tQu (d : Tmp) (k : IntKind) (a b z : Int) (h : k.wrap (a.tdiv b) = z) (hb : b ≠ 0 := by decide) : TE := .s d (b ≠ 0) (.int k (k.wrap (a.tdiv b))) (.int k z) hb (congrArg _ h)
abbrev tAn (d : Tmp) (k : IntKind) (a b z : Int) (h : k.wrap ((BitVec.ofInt k.bits a &&& BitVec.ofInt k.bits b).toNat : Int) = z) : TE := .e d (.int k (k.wrap ((BitVec.ofInt k.bits a &&& BitVec.ofInt k.bits b).toNat : Int))) (.int k z) (congrArg _ h)
abbrev tS (d : Tmp) (a b : ByteArray) (h : a.size + b.size ≤ 9223372036854775807) : TE := .s d (a.size + b.size ≤ 9223372036854775807) (.string (a ++ b)) (.string (a ++ b)) h rfl
theorem and_line (c x : Bool) : (bif c then mb c (.bool x) else .bool false) = .bool (c && x) := by cases c <;> rfl
theorem or_line (c x : Bool) : (bif c then .bool true else mb (!c) (.bool x)) = .bool (c || x) := by cases c <;> rfl
abbrev tA (d : Tmp) (c x : Bool) : TE := .e d (bif c then mb c (.bool x) else .bool false) (.bool (c && x)) (and_line c x)
abbrev tO (d : Tmp) (c x : Bool) : TE := .e d (bif c then .bool true else mb (!c) (.bool x)) (.bool (c || x)) (or_line c x)
abbrev tAk (d : Tmp) (c x v : Bool) (h : (c && x) = v) : TE := .e d (bif c then mb c (.bool x) else .bool false) (.bool v) ((and_line c x).trans (congrArg Value.bool h))
abbrev tOk' (d : Tmp) (c x v : Bool) (h : (c || x) = v) : TE := .e d (bif c then .bool true else mb (!c) (.bool x)) (.bool v) ((or_line c x).trans (congrArg Value.bool h))
end Go.Proofs.YtfjpglohcppjeaaDoor

/- More laws of operations: division, function values, methods of interface values, lists of numbers. -/
import Derived.Test.YtfjpglohcppjeaaDoorVo
namespace Go.Proofs.YtfjpglohcppjeaaDoor
open Go.RowKit
set_option linter.unusedVariables false

section
variable {P : Program} {ops : Array Oper} {L : List Nat} {a0 : Act} {w0 : World} {bor : List Nat} {X0 : List Ent} {us cr kl : List (List Nat)}
  {D : Nat → (Tmp → Value) → (Tmp → Value) → (Nat → Ent) → Prop} {i : Nat} {o : Oper} {ρ : Operand → Value} {β : Tmp → Value} {W : World} {X : Nat → Ent}

theorem run_rem {t t' : TypeId} {x y : Operand} {k : IntKind} {a b z : Int} (h : o.op = .binOp .rem t x y t') (hx : ρ x = .int k a) (hy : ρ y = .int k b) (hb : b ≠ 0) (hz : a.tmod b = z) : (execOp ρ o).run P W = .ok (.value (.int k z)) W := by
  subst hz
  unfold execOp; rw [h]
  simp [hx, hy, eqGuard, binOp, Op.intDiv, hb]
theorem run_quo {t t' : TypeId} {x y : Operand} {k : IntKind} {a b z : Int} (h : o.op = .binOp .quo t x y t') (hx : ρ x = .int k a) (hy : ρ y = .int k b) (hb : b ≠ 0) (hz : k.wrap (a.tdiv b) = z) : (execOp ρ o).run P W = .ok (.value (.int k z)) W := by
  subst hz
  unfold execOp; rw [h]
  simp [hx, hy, eqGuard, binOp, Op.intDiv, hb]
theorem run_and {t t' : TypeId} {x y : Operand} {k : IntKind} {a b z : Int} (h : o.op = .binOp .and t x y t') (hx : ρ x = .int k a) (hy : ρ y = .int k b) (hz : k.wrap ((BitVec.ofInt k.bits a &&& BitVec.ofInt k.bits b).toNat : Int) = z) : (execOp ρ o).run P W = .ok (.value (.int k z)) W := by
  subst hz
  unfold execOp; rw [h]
  simp [hx, hy, eqGuard, binOp, Op.intBits]
theorem bits_mask (a : Int) (n : Nat) (hn : n ≤ 62) : IntKind.i64.wrap ((BitVec.ofInt 64 a &&& BitVec.ofInt 64 (2 ^ n - 1)).toNat : Int) = a % 2 ^ n := by
  have h2 : (BitVec.ofInt 64 ((2 : Int) ^ n - 1)).toNat = 2 ^ n - 1 := by
    rw [BitVec.toNat_ofInt]
    have hp : (2 : Int) ^ n = ((2 ^ n : Nat) : Int) := by simp
    have h1 : 1 ≤ 2 ^ n := Nat.one_le_two_pow
    have h3 : 2 ^ n ≤ 2 ^ 62 := Nat.pow_le_pow_right (by omega) hn
    rw [hp]
    have h4 : (2 : Nat) ^ 62 = 4611686018427387904 := by decide
    rw [h4] at h3
    omega
  have h3 : (BitVec.ofInt 64 a &&& BitVec.ofInt 64 (2 ^ n - 1)).toNat = (BitVec.ofInt 64 a).toNat % 2 ^ n := by
    rw [BitVec.toNat_and, h2, Nat.and_two_pow_sub_one_eq_mod]
  rw [h3, BitVec.toNat_ofInt]
  have hd : (2 : Nat) ^ 64 = 2 ^ n * 2 ^ (64 - n) := by rw [← Nat.pow_add]; congr 1; omega
  have hlt : 2 ^ n ≤ 2 ^ 62 := Nat.pow_le_pow_right (by omega) hn
  have h62 : (2 : Nat) ^ 62 = 4611686018427387904 := by decide
  have hpos : 0 < 2 ^ n := Nat.two_pow_pos n
  have e : (((a % ((2 ^ 64 : Nat) : Int)).toNat % 2 ^ n : Nat) : Int) = a % 2 ^ n := by
    have h0 : 0 ≤ a % ((2 ^ 64 : Nat) : Int) := Int.emod_nonneg _ (by decide)
    rw [Int.natCast_emod, Int.toNat_of_nonneg h0, hd]
    push_cast
    exact Int.emod_emod_of_dvd _ (Int.dvd_mul_right _ _)
  rw [e]
  have h5 : 0 ≤ a % 2 ^ n := Int.emod_nonneg _ (by have : (2 : Int) ^ n = ((2 ^ n : Nat) : Int) := by simp
                                                   rw [this]; omega)
  have h6 : a % 2 ^ n < 2 ^ n := Int.emod_lt_of_pos _ (by have : (2 : Int) ^ n = ((2 ^ n : Nat) : Int) := by simp
                                                          rw [this]; omega)
  have h7 : (2 : Int) ^ n = ((2 ^ n : Nat) : Int) := by simp
  refine IntWalk.i64_in _ ⟨by omega, ?_⟩
  rw [h7] at h6 ⊢
  omega
/-- a call of a function value -/
theorem run_callV {c : Call} {x : Operand} {f : FuncId} {first cap args args' : Array Value} (h : o.op = .call c) (hcal : c.callee = .value x) (hx : ρ x = .func (.func f) first cap) (hf : callP P f = true) (ha : c.args.map ρ = args) (hargs : first ++ args ++ cap = args') :
    (execOp ρ o).run P W = .ok (.enter f args') W := by
  subst hargs
  unfold callP at hf
  split at hf
  · rename_i fn hfn
    simp only [Bool.and_eq_true, Bool.not_eq_true'] at hf
    have hb : fn.body.isNone = false := by
      cases hh : fn.body with
      | none => rw [hh] at hf; simp at hf
      | some _ => rfl
    unfold execOp; rw [h]
    simp only [resolve, hcal, hx, Deferred.ofValue, ha, Sem.run_bind, Sem.run_pure, Result.andThen_ok, invoke, callFunc, program, Sem.run, hfn, hf.2, hb]
    simp
  · cases hf
/-- which function a method of a dynamic type is -/
def Meth (P : Program) (t : TypeId) (v : Value) (name : String) (f : FuncId) (rv : Value) : Prop := ∀ W, (method (P.types.size + Made.depth) t v name).run P W = .ok (f, rv) W
theorem run_invoke {c : Call} {x : Operand} {name : String} {t : TypeId} {v rv : Value} {f : FuncId} {args args' : Array Value} (h : o.op = .call c) (hcal : c.callee = .invoke x name) (hx : ρ x = .iface t v) (hm : Meth P t v name f rv) (hf : callP P f = true)
    (ha : c.args.map ρ = args) (hargs : #[rv] ++ args = args') : (execOp ρ o).run P W = .ok (.enter f args') W := by
  subst hargs
  unfold callP at hf
  split at hf
  · rename_i fn hfn
    simp only [Bool.and_eq_true, Bool.not_eq_true'] at hf
    have hb : fn.body.isNone = false := by
      cases hh : fn.body with
      | none => rw [hh] at hf; simp at hf
      | some _ => rfl
    have hex : (#[Value.iface t v] ++ args).extract 1 (#[Value.iface t v] ++ args).size = args := by
      apply Array.ext'
      simp
    unfold execOp; rw [h]
    simp only [resolve, hcal, hx, ha, Sem.run_bind, Sem.run_pure, Result.andThen_ok, invoke]
    have h0 : (#[Value.iface t v] ++ args)[0]? = some (.iface t v) := by exact Array.getElem?_append_left (show 0 < 1 by omega)
    simp only [h0, hex, callMethod, program, Sem.run_bind, Sem.run, Result.andThen_ok, hm W, callFunc, hfn, hf.2, hb]
    simp
  · cases hf
theorem getD_int {ls : List Int} {m : Nat} (h : m < ls.length) : (ls.map (Value.int .i64))[m]? = some (.int .i64 (ls.getD m 0)) := by simp [h]
theorem getD_str {ls : List ByteArray} {m : Nat} (h : m < ls.length) : (ls.map Value.string)[m]? = some (.string (ls.getD m ByteArray.empty)) := by simp [h]
theorem getD_u8 {ls : List Int} {m : Nat} (h : m < ls.length) : (ls.map (Value.int .u8))[m]? = some (.int .u8 (ls.getD m 0)) := by simp [h]
end
def Ret (v : Value) (w : World) (e : Ending) (w' : World) : Prop := e = .returned v ∧ Ext w w'
theorem Ret.of {a b : Value} {w w' : World} (h : a = b) (hx : Ext w w') : Ret b w (.returned a) w' := ⟨by rw [h], hx⟩
theorem Ret.bool {a b : Bool} {w w' : World} (h : a = b) (hx : Ext w w') : Ret (.bool b) w (.returned (.bool a)) w' := ⟨by rw [h], hx⟩
theorem Ret.int {k : IntKind} {a b : Int} {w w' : World} (h : a = b) (hx : Ext w w') : Ret (.int k b) w (.returned (.int k a)) w' := ⟨by rw [h], hx⟩
end Go.Proofs.YtfjpglohcppjeaaDoor

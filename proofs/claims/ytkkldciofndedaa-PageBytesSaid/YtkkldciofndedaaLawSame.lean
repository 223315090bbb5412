/- the law's same: a page and an error against the reference's. -/
import Derived.Test.YtkkldciofndedaaRefDo
namespace Go.Proofs.Ytkkldciofndedaa
open Go.RowKit
set_option linter.unusedVariables false

set_option maxRecDepth 100000 in
set_option maxHeartbeats 2000000 in
/-- equal pages and errors, their items anywhere -/
theorem lsame_any (k l : Int) (A : Option Addr) (n c : Nat) (ss : List ByteArray) (er : Int) (A' : Option Addr) (n' c' : Nat) (w : World) (hn : n = ss.length) (hn' : n' = ss.length) (h : At w A (ss.map Value.string)) (h' : At w A' (ss.map Value.string)) (hl : ss.length ≤ 100000) :
    Calls Try.prog 22 #[.agg #[.int .i64 k, .int .i64 l, .slice A n c], .int .i64 er, .agg #[.int .i64 k, .int .i64 l, .slice A' n' c', .int .i64 er]] w (Ret1 (.bool true) w) := by
  subst hn hn'
  have H := Lib.hid h; clear h
  have H' := Lib.hid h'; clear h'
  have X0 := Lib.hid (((Ext.refl w).alloc (.cells #[.int .i64 k, .int .i64 l, .slice A ss.length c] 26)).alloc (.cells #[.int .i64 k, .int .i64 l, .slice A' ss.length c', .int .i64 er] 49))
  go_enter Try.func22, Try.ntmps22
  go_wp2_with fail
  refine (same_any _ _ _ _ _ _ _ _ _ _ _ _ _ rfl rfl (H.out.ext X0.out) (H'.out.ext X0.out) hl hl).mono ?_
  rw [same_self]
  rintro e w1 ⟨rfl, hx⟩
  have X1 := Lib.hid (X0.out.trans hx)
  clear hx
  go_wp2
  go_ret
  exact ⟨rfl, X1.out⟩
end Go.Proofs.Ytkkldciofndedaa

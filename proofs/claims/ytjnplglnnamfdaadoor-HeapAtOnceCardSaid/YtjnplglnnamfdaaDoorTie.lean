/-
  DERIVED. GIVEN WITH THE SEED: THE PROGRAM's TIES (one call each: nine closed facts by the kernel) AND EACH ROW's TIE, after the 31st guide's Derived/Test/Toyas{Tie, Card}.lean. No idea stands in it: it is a product of the set-up. Laid BY PROGRAM, IN A SANDBOX (cutbox-door.mjs). By AI agents, Wed Nov 11 2026. No macro, syntax, notation, axiom, sorry.
-/
import Derived.Test.YtjnplglnnamfdaaDoorRows
import Derived.LaidByTextLater
import Derived.SevenTiedAt
import Derived.LaidSub
import Derived.LaidOnce
namespace Go.Proofs.YtjnplglnnamfdaaDoor
open Go
set_option maxRecDepth 100000
theorem seatTie1 : Tryd.prog.laidByTextLater [("vintner/value.kinds", Rows.laid_vintner_value_kinds), ("vintner/tuple.none", Rows.laid_vintner_tuple_none)] [.funcs, .data] true :=
  Program.laidByTextLater_by_one 19 8 3 (by kernel_rfl) (by kernel_rfl) (by kernel_rfl) (by kernel_rfl) (by kernel_rfl) (by kernel_rfl) (fun _ _ => by kernel_rfl)
theorem noOwnUnsafe : Tryd.pinned.checked.prog.headLifts.contains "ownunsafe" = false := by kernel_rfl
theorem tie : Tryd.prog.laidByTextLater [("vintner/value.kinds", Rows.laid_vintner_value_kinds), ("vintner/tuple.none", Rows.laid_vintner_tuple_none)] [.funcs, .data] true :=
  Program.laidByTextLater.sub seatTie1 ["vintner/value.kinds", "vintner/tuple.none"] (by kernel_rfl) (by kernel_rfl)
theorem heapDone_row_tie : Rows.heapDoneRow.laidByTextAt .later Tryd.pinned [.funcs, .data] true :=
  OpenClaim.laidByTextAt_later rfl rfl tie noOwnUnsafe
theorem tie2 : Tryd.prog.laidByTextLater [("vintner/tuple.none", Rows.laid_vintner_tuple_none)] [.data] true :=
  Program.laidByTextLater.sub seatTie1 ["vintner/tuple.none"] (by kernel_rfl) (by kernel_rfl)
theorem heapAtOnce_row_tie : Rows.heapAtOnceRow.laidByTextAt .later Tryd.pinned [.data] true :=
  OpenClaim.laidByTextAt_later rfl rfl tie2 noOwnUnsafe
theorem heapDoneUpto_row_tie : Rows.heapDoneUptoRow.laidByTextAt .later Tryd.pinned [.funcs, .data] true :=
  OpenClaim.laidByTextAt_later rfl rfl tie noOwnUnsafe
theorem heapAtOnceUpto_row_tie : Rows.heapAtOnceUptoRow.laidByTextAt .later Tryd.pinned [.data] true :=
  OpenClaim.laidByTextAt_later rfl rfl tie2 noOwnUnsafe
end Go.Proofs.YtjnplglnnamfdaaDoor

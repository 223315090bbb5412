/-
  NARROWER THAN 'FOR EVERY INPUT', by the rows' own cells (each row's printed sentence says how): HeapOwn: laid · HeapGoes: laid · HeapLong: laid · HeapRows: laid · HeapStored: laid · VacuumMap: laid.
  DERIVED. THE GIVEN ROWS OF THIS SEAT. 6 by the template 'for every input the law returns true; each argument reads behind the call as it read before'; 0 by the template 'total and deterministic' (their statements: YtjnplglnnamfdaaGreatDoorTotals.lean).
  GIVEN WITH THE SEED: the statements are not yours to turn. If you find one false, say at which input.
  Laid BY PROGRAM, IN A SANDBOX (cutbox-rows.mjs): the forced cells as the released guide's own fill.sh prints them over the translation 0406230128d1338e… (all of the seat's roots in one cut). By AI agents, Wed Nov 11 2026. No macro, syntax, notation, axiom, sorry.
-/
import Derived.Test.YtjnplglnnamfdaaGreatDoorChecked
import GoSem.Claim
import GoSem.ClaimJoined
import GoSem.ClaimMapViews
import Derived.JoinedTies
import Derived.KernelRfl
namespace Go.Proofs.YtjnplglnnamfdaaGreatDoor
/- THE CELL 'sum', in the pinned program and in every row, IS THE sha256 OF THE DUMP (.gsa) THAT YtjnplglnnamfdaaGreatDoorProg.lean LOADS. Nothing in Lean hashes anything: it is a label: what it is worth is what the hold of that sum in a sandbox is worth. -/
noncomputable def Tryz.pinned : Pinned := { name := "ytjnplglnnamfdaagreatdoor", sum := "0406230128d1338ef5c511c6a5aad7820efd01d585412c2bc45a41f568198cf2", checked := Tryz.checked }
namespace Rows
def none {H : Type} : Left H := { results := [], args := [] }

/- WHAT THE LISTED PACKAGE-LEVEL VARIABLES READ AS WHEN THE CALL BEGINS. Each datum BY PROGRAM (the guide's laid-datum.mjs) off the statement by which the dump's own 'gosem.cut.vars' lays the variable. In a bare row this is a premise. The card (YtjnplglnnamfdaaGreatDoorCards.lean) ties it to the program's text. -/
def laid_vintner_tuple_none {H : Type} : DataW H := .agg [.lit (.int .i64 (-1)), .lit (.int .i64 0)]
def laid_vintner_value_kinds {H : Type} : DataW H := .iface "func table" (.agg [.iface "func" (.lit (.string [118, 105, 110, 116, 110, 101, 114, 47, 118, 97, 108, 117, 101, 46, 107, 105, 110, 100, 115, 36, 49])), .iface "func" (.lit (.string [118, 105, 110, 116, 110, 101, 114, 47, 118, 97, 108, 117, 101, 46, 107, 105, 110, 100, 115, 36, 50])), .iface "func" (.lit (.string [118, 105, 110, 116, 110, 101, 114, 47, 118, 97, 108, 117, 101, 46, 107, 105, 110, 100, 115, 36, 51]))])

/-- 'vintnerlaw09.HeapOwn': WHATEVER THE INPUT: true; the input reads as it did. -/
def heapOwnSpec : ChangeSpec := { name := "heapOwn", fn := fun _ => fun
  | [d1, d2, d3] => { results := [.lit (.bool true)], args := [d1, d2, d3] }
  | _ => none }
def heapOwnRow : OpenClaim := { program := "ytjnplglnnamfdaagreatdoor", sum := "0406230128d1338ef5c511c6a5aad7820efd01d585412c2bc45a41f568198cf2", func := "vintner/vintnerlaw09.HeapOwn", spec := "heapOwn", inPlace := ["internal/abi.NoEscape", "internal/bytealg.MakeNoZero"], unfollowed := true, recurses := true, named := ["vintner/tuple.none"], apart := false, laid := [("vintner/tuple.none", laid_vintner_tuple_none)] }
def HeapOwnSaid : Prop := heapOwnRow.holds Tryz.pinned (OpenSpec.ofChange heapOwnSpec)

/-- ITS FALSE NEIGHBOUR: 'it returns false'. Refute it at one input. -/
def heapOwnWrong : ChangeSpec := { name := "heapOwn", fn := fun _ => fun
  | [d1, d2, d3] => { results := [.lit (.bool false)], args := [d1, d2, d3] }
  | _ => none }
def HeapOwnWrongFalsely : Prop := heapOwnRow.holds Tryz.pinned (OpenSpec.ofChange heapOwnWrong)

/-- 'vintnerlaw09.HeapGoes': WHATEVER THE INPUT: true; the input reads as it did. -/
def heapGoesSpec : ChangeSpec := { name := "heapGoes", fn := fun _ => fun
  | [d1, d2, d3] => { results := [.lit (.bool true)], args := [d1, d2, d3] }
  | _ => none }
def heapGoesRow : OpenClaim := { program := "ytjnplglnnamfdaagreatdoor", sum := "0406230128d1338ef5c511c6a5aad7820efd01d585412c2bc45a41f568198cf2", func := "vintner/vintnerlaw09.HeapGoes", spec := "heapGoes", inPlace := ["internal/abi.NoEscape", "internal/bytealg.MakeNoZero"], unfollowed := true, recurses := true, named := ["vintner/tuple.none"], apart := false, laid := [("vintner/tuple.none", laid_vintner_tuple_none)] }
def HeapGoesSaid : Prop := heapGoesRow.holds Tryz.pinned (OpenSpec.ofChange heapGoesSpec)

/-- ITS FALSE NEIGHBOUR: 'it returns false'. Refute it at one input. -/
def heapGoesWrong : ChangeSpec := { name := "heapGoes", fn := fun _ => fun
  | [d1, d2, d3] => { results := [.lit (.bool false)], args := [d1, d2, d3] }
  | _ => none }
def HeapGoesWrongFalsely : Prop := heapGoesRow.holds Tryz.pinned (OpenSpec.ofChange heapGoesWrong)

/-- 'vintnerlaw09.HeapLong': WHATEVER THE INPUT: true; the input reads as it did. -/
def heapLongSpec : ChangeSpec := { name := "heapLong", fn := fun _ => fun
  | [d1, d2] => { results := [.lit (.bool true)], args := [d1, d2] }
  | _ => none }
def heapLongRow : OpenClaim := { program := "ytjnplglnnamfdaagreatdoor", sum := "0406230128d1338ef5c511c6a5aad7820efd01d585412c2bc45a41f568198cf2", func := "vintner/vintnerlaw09.HeapLong", spec := "heapLong", inPlace := ["internal/abi.NoEscape", "internal/bytealg.MakeNoZero"], unfollowed := true, recurses := true, named := ["vintner/tuple.none", "vintner/value.kinds"], apart := false, laid := [("vintner/value.kinds", laid_vintner_value_kinds), ("vintner/tuple.none", laid_vintner_tuple_none)] }
def HeapLongSaid : Prop := heapLongRow.holds Tryz.pinned (OpenSpec.ofChange heapLongSpec)

/-- ITS FALSE NEIGHBOUR: 'it returns false'. Refute it at one input. -/
def heapLongWrong : ChangeSpec := { name := "heapLong", fn := fun _ => fun
  | [d1, d2] => { results := [.lit (.bool false)], args := [d1, d2] }
  | _ => none }
def HeapLongWrongFalsely : Prop := heapLongRow.holds Tryz.pinned (OpenSpec.ofChange heapLongWrong)

/-- 'vintnerlaw09.HeapRows': WHATEVER THE INPUT: true; the input reads as it did. -/
def heapRowsSpec : ChangeSpec := { name := "heapRows", fn := fun _ => fun
  | [d1, d2] => { results := [.lit (.bool true)], args := [d1, d2] }
  | _ => none }
def heapRowsRow : OpenClaim := { program := "ytjnplglnnamfdaagreatdoor", sum := "0406230128d1338ef5c511c6a5aad7820efd01d585412c2bc45a41f568198cf2", func := "vintner/vintnerlaw09.HeapRows", spec := "heapRows", inPlace := ["internal/abi.NoEscape", "internal/bytealg.MakeNoZero"], unfollowed := true, recurses := true, named := ["vintner/tuple.none", "vintner/value.kinds"], apart := false, laid := [("vintner/value.kinds", laid_vintner_value_kinds), ("vintner/tuple.none", laid_vintner_tuple_none)] }
def HeapRowsSaid : Prop := heapRowsRow.holds Tryz.pinned (OpenSpec.ofChange heapRowsSpec)

/-- ITS FALSE NEIGHBOUR: 'it returns false'. Refute it at one input. -/
def heapRowsWrong : ChangeSpec := { name := "heapRows", fn := fun _ => fun
  | [d1, d2] => { results := [.lit (.bool false)], args := [d1, d2] }
  | _ => none }
def HeapRowsWrongFalsely : Prop := heapRowsRow.holds Tryz.pinned (OpenSpec.ofChange heapRowsWrong)

/-- 'vintnerlaw09.HeapStored': WHATEVER THE INPUT: true; the input reads as it did. -/
def heapStoredSpec : ChangeSpec := { name := "heapStored", fn := fun _ => fun
  | [d1, d2, d3] => { results := [.lit (.bool true)], args := [d1, d2, d3] }
  | _ => none }
def heapStoredRow : OpenClaim := { program := "ytjnplglnnamfdaagreatdoor", sum := "0406230128d1338ef5c511c6a5aad7820efd01d585412c2bc45a41f568198cf2", func := "vintner/vintnerlaw09.HeapStored", spec := "heapStored", inPlace := ["internal/abi.NoEscape", "internal/bytealg.MakeNoZero"], unfollowed := true, recurses := true, named := ["vintner/tuple.none", "vintner/value.kinds"], apart := false, laid := [("vintner/value.kinds", laid_vintner_value_kinds), ("vintner/tuple.none", laid_vintner_tuple_none)] }
def HeapStoredSaid : Prop := heapStoredRow.holds Tryz.pinned (OpenSpec.ofChange heapStoredSpec)

/-- ITS FALSE NEIGHBOUR: 'it returns false'. Refute it at one input. -/
def heapStoredWrong : ChangeSpec := { name := "heapStored", fn := fun _ => fun
  | [d1, d2, d3] => { results := [.lit (.bool false)], args := [d1, d2, d3] }
  | _ => none }
def HeapStoredWrongFalsely : Prop := heapStoredRow.holds Tryz.pinned (OpenSpec.ofChange heapStoredWrong)

/-- 'vintnerlaw15.VacuumMap': WHATEVER THE INPUT: true; the input reads as it did. -/
def vacuumMapSpec : ChangeSpec := { name := "vacuumMap", fn := fun _ => fun
  | [d1, d2, d3] => { results := [.lit (.bool true)], args := [d1, d2, d3] }
  | _ => none }
def vacuumMapRow : OpenClaim := { program := "ytjnplglnnamfdaagreatdoor", sum := "0406230128d1338ef5c511c6a5aad7820efd01d585412c2bc45a41f568198cf2", func := "vintner/vintnerlaw15.VacuumMap", spec := "vacuumMap", inPlace := ["internal/abi.NoEscape", "internal/bytealg.MakeNoZero"], unfollowed := true, recurses := true, named := ["vintner/tuple.none"], apart := false, laid := [("vintner/tuple.none", laid_vintner_tuple_none)] }
def VacuumMapSaid : Prop := vacuumMapRow.holds Tryz.pinned (OpenSpec.ofChange vacuumMapSpec)

/-- ITS FALSE NEIGHBOUR: 'it returns false'. Refute it at one input. -/
def vacuumMapWrong : ChangeSpec := { name := "vacuumMap", fn := fun _ => fun
  | [d1, d2, d3] => { results := [.lit (.bool false)], args := [d1, d2, d3] }
  | _ => none }
def VacuumMapWrongFalsely : Prop := vacuumMapRow.holds Tryz.pinned (OpenSpec.ofChange vacuumMapWrong)

/- THE SECOND FORM. 'bulk': how many values and letters a reading holds, each counted each time it is reached (what is shared counts as often as it is met; a slice's spare places count too). A statement '..UptoSaid' is the law's where the arguments, and the package variables that the reading takes, are together of bulk at most 1048576: NARROWER than '..Said'. Prove '..Said' where nothing that the law and all that it calls make is longer than what came in: it says more and counts as full. Else prove '..UptoSaid'. A law counts once. -/
mutual
def uptoBulk {H : Type} : DataW H → Nat
  | .lit (.string bytes) => bytes.length + 1
  | .lit _ => 1
  | .nil => 1
  | .ptr d => uptoBulk d + 1
  | .slice elems spare => uptoBulkAll elems + uptoBulkAll spare + 1
  | .agg parts => uptoBulkAll parts + 1
  | .iface _ d => uptoBulk d + 1
  | .map entries => uptoBulkEntries entries + 1
  | .held _ => 1
def uptoBulkAll {H : Type} : List (DataW H) → Nat
  | [] => 0
  | d :: r => uptoBulk d + uptoBulkAll r
def uptoBulkEntries {H : Type} : List (Lit × DataW H) → Nat
  | [] => 0
  | x :: r => uptoBulkEntry x + uptoBulkEntries r
def uptoBulkEntry {H : Type} : Lit × DataW H → Nat
  | (.string bytes, d) => bytes.length + uptoBulk d + 1
  | (_, d) => uptoBulk d + 1
 end
def uptoSmall : (H : Type) → List (DataW H) → Bool := fun _ ds => decide (uptoBulkAll ds ≤ 1048576)
def OpenSpec.upto (s : _root_.Go.ChangeSpec) : _root_.Go.OpenSpec := { _root_.Go.OpenSpec.ofChange s with cond := some uptoSmall }

/-- 'vintnerlaw09.HeapOwn', WHERE WHAT IT READS IS OF BULK AT MOST 1048576: true; the input reads as it did. -/
def heapOwnUptoRow : OpenClaim := { program := "ytjnplglnnamfdaagreatdoor", sum := "0406230128d1338ef5c511c6a5aad7820efd01d585412c2bc45a41f568198cf2", func := "vintner/vintnerlaw09.HeapOwn", spec := "heapOwn", inPlace := ["internal/abi.NoEscape", "internal/bytealg.MakeNoZero"], unfollowed := true, recurses := true, named := ["vintner/tuple.none"], apart := false, laid := [("vintner/tuple.none", laid_vintner_tuple_none)], narrowed := true }
def HeapOwnUptoSaid : Prop := heapOwnUptoRow.holds Tryz.pinned (OpenSpec.upto heapOwnSpec)

/-- 'vintnerlaw09.HeapGoes', WHERE WHAT IT READS IS OF BULK AT MOST 1048576: true; the input reads as it did. -/
def heapGoesUptoRow : OpenClaim := { program := "ytjnplglnnamfdaagreatdoor", sum := "0406230128d1338ef5c511c6a5aad7820efd01d585412c2bc45a41f568198cf2", func := "vintner/vintnerlaw09.HeapGoes", spec := "heapGoes", inPlace := ["internal/abi.NoEscape", "internal/bytealg.MakeNoZero"], unfollowed := true, recurses := true, named := ["vintner/tuple.none"], apart := false, laid := [("vintner/tuple.none", laid_vintner_tuple_none)], narrowed := true }
def HeapGoesUptoSaid : Prop := heapGoesUptoRow.holds Tryz.pinned (OpenSpec.upto heapGoesSpec)

/-- 'vintnerlaw09.HeapLong', WHERE WHAT IT READS IS OF BULK AT MOST 1048576: true; the input reads as it did. -/
def heapLongUptoRow : OpenClaim := { program := "ytjnplglnnamfdaagreatdoor", sum := "0406230128d1338ef5c511c6a5aad7820efd01d585412c2bc45a41f568198cf2", func := "vintner/vintnerlaw09.HeapLong", spec := "heapLong", inPlace := ["internal/abi.NoEscape", "internal/bytealg.MakeNoZero"], unfollowed := true, recurses := true, named := ["vintner/tuple.none", "vintner/value.kinds"], apart := false, laid := [("vintner/value.kinds", laid_vintner_value_kinds), ("vintner/tuple.none", laid_vintner_tuple_none)], narrowed := true }
def HeapLongUptoSaid : Prop := heapLongUptoRow.holds Tryz.pinned (OpenSpec.upto heapLongSpec)

/-- 'vintnerlaw09.HeapRows', WHERE WHAT IT READS IS OF BULK AT MOST 1048576: true; the input reads as it did. -/
def heapRowsUptoRow : OpenClaim := { program := "ytjnplglnnamfdaagreatdoor", sum := "0406230128d1338ef5c511c6a5aad7820efd01d585412c2bc45a41f568198cf2", func := "vintner/vintnerlaw09.HeapRows", spec := "heapRows", inPlace := ["internal/abi.NoEscape", "internal/bytealg.MakeNoZero"], unfollowed := true, recurses := true, named := ["vintner/tuple.none", "vintner/value.kinds"], apart := false, laid := [("vintner/value.kinds", laid_vintner_value_kinds), ("vintner/tuple.none", laid_vintner_tuple_none)], narrowed := true }
def HeapRowsUptoSaid : Prop := heapRowsUptoRow.holds Tryz.pinned (OpenSpec.upto heapRowsSpec)

/-- 'vintnerlaw09.HeapStored', WHERE WHAT IT READS IS OF BULK AT MOST 1048576: true; the input reads as it did. -/
def heapStoredUptoRow : OpenClaim := { program := "ytjnplglnnamfdaagreatdoor", sum := "0406230128d1338ef5c511c6a5aad7820efd01d585412c2bc45a41f568198cf2", func := "vintner/vintnerlaw09.HeapStored", spec := "heapStored", inPlace := ["internal/abi.NoEscape", "internal/bytealg.MakeNoZero"], unfollowed := true, recurses := true, named := ["vintner/tuple.none", "vintner/value.kinds"], apart := false, laid := [("vintner/value.kinds", laid_vintner_value_kinds), ("vintner/tuple.none", laid_vintner_tuple_none)], narrowed := true }
def HeapStoredUptoSaid : Prop := heapStoredUptoRow.holds Tryz.pinned (OpenSpec.upto heapStoredSpec)

/-- 'vintnerlaw15.VacuumMap', WHERE WHAT IT READS IS OF BULK AT MOST 1048576: true; the input reads as it did. -/
def vacuumMapUptoRow : OpenClaim := { program := "ytjnplglnnamfdaagreatdoor", sum := "0406230128d1338ef5c511c6a5aad7820efd01d585412c2bc45a41f568198cf2", func := "vintner/vintnerlaw15.VacuumMap", spec := "vacuumMap", inPlace := ["internal/abi.NoEscape", "internal/bytealg.MakeNoZero"], unfollowed := true, recurses := true, named := ["vintner/tuple.none"], apart := false, laid := [("vintner/tuple.none", laid_vintner_tuple_none)], narrowed := true }
def VacuumMapUptoSaid : Prop := vacuumMapUptoRow.holds Tryz.pinned (OpenSpec.upto vacuumMapSpec)

end Rows
end Go.Proofs.YtjnplglnnamfdaaGreatDoor

/-
  NARROWER THAN 'FOR EVERY INPUT', by the rows' own cells (each row's printed sentence says how): HeapDone: laid · HeapAtOnce: laid.
  DERIVED. THE GIVEN ROWS OF THIS SEAT. 2 by the template 'for every input the law returns true; each argument reads behind the call as it read before'; 0 by the template 'total and deterministic' (their statements: YtjnplglnnamfdaaDoorTotals.lean).
  GIVEN WITH THE SEED: the statements are not yours to turn. If you find one false, say at which input.
  Laid BY PROGRAM, IN A SANDBOX (cutbox-rows.mjs): the forced cells as the released guide's own fill.sh prints them over the translation d9b67a332e73b44e… (all of the seat's roots in one cut). By AI agents, Wed Nov 11 2026. No macro, syntax, notation, axiom, sorry.
-/
import Derived.Test.YtjnplglnnamfdaaDoorChecked
import GoSem.Claim
import GoSem.ClaimJoined
import GoSem.ClaimMapViews
import Derived.JoinedTies
import Derived.KernelRfl
namespace Go.Proofs.YtjnplglnnamfdaaDoor
/- THE CELL 'sum', in the pinned program and in every row, IS THE sha256 OF THE DUMP (.gsa) THAT YtjnplglnnamfdaaDoorProg.lean LOADS. Nothing in Lean hashes anything: it is a label: what it is worth is what the hold of that sum in a sandbox is worth. -/
noncomputable def Tryd.pinned : Pinned := { name := "ytjnplglnnamfdaadoor", sum := "d9b67a332e73b44e869533dc2492dfbacc909b86eaf0cf2a1861736ef1068dff", checked := Tryd.checked }
namespace Rows
def none {H : Type} : Left H := { results := [], args := [] }

/- WHAT THE LISTED PACKAGE-LEVEL VARIABLES READ AS WHEN THE CALL BEGINS. Each datum BY PROGRAM (the guide's laid-datum.mjs) off the statement by which the dump's own 'gosem.cut.vars' lays the variable. In a bare row this is a premise. The card (YtjnplglnnamfdaaDoorCards.lean) ties it to the program's text. -/
def laid_vintner_value_kinds {H : Type} : DataW H := .iface "func table" (.agg [.iface "func" (.lit (.string [118, 105, 110, 116, 110, 101, 114, 47, 118, 97, 108, 117, 101, 46, 107, 105, 110, 100, 115, 36, 49])), .iface "func" (.lit (.string [118, 105, 110, 116, 110, 101, 114, 47, 118, 97, 108, 117, 101, 46, 107, 105, 110, 100, 115, 36, 50])), .iface "func" (.lit (.string [118, 105, 110, 116, 110, 101, 114, 47, 118, 97, 108, 117, 101, 46, 107, 105, 110, 100, 115, 36, 51]))])
def laid_vintner_tuple_none {H : Type} : DataW H := .agg [.lit (.int .i64 (-1)), .lit (.int .i64 0)]

/-- 'vintnerlaw09.HeapDone': WHATEVER THE INPUT: true; the input reads as it did. -/
def heapDoneSpec : ChangeSpec := { name := "heapDone", fn := fun _ => fun
  | [d1, d2] => { results := [.lit (.bool true)], args := [d1, d2] }
  | _ => none }
def heapDoneRow : OpenClaim := { program := "ytjnplglnnamfdaadoor", sum := "d9b67a332e73b44e869533dc2492dfbacc909b86eaf0cf2a1861736ef1068dff", func := "vintner/vintnerlaw09.HeapDone", spec := "heapDone", inPlace := ["internal/abi.NoEscape", "internal/bytealg.MakeNoZero"], unfollowed := true, recurses := true, named := ["vintner/tuple.none", "vintner/value.kinds"], apart := false, laid := [("vintner/value.kinds", laid_vintner_value_kinds), ("vintner/tuple.none", laid_vintner_tuple_none)] }
def HeapDoneSaid : Prop := heapDoneRow.holds Tryd.pinned (OpenSpec.ofChange heapDoneSpec)

/-- ITS FALSE NEIGHBOUR: 'it returns false'. Refute it at one input. -/
def heapDoneWrong : ChangeSpec := { name := "heapDone", fn := fun _ => fun
  | [d1, d2] => { results := [.lit (.bool false)], args := [d1, d2] }
  | _ => none }
def HeapDoneWrongFalsely : Prop := heapDoneRow.holds Tryd.pinned (OpenSpec.ofChange heapDoneWrong)

/-- 'vintnerlaw09.HeapAtOnce': WHATEVER THE INPUT: true; the input reads as it did. -/
def heapAtOnceSpec : ChangeSpec := { name := "heapAtOnce", fn := fun _ => fun
  | [d] => { results := [.lit (.bool true)], args := [d] }
  | _ => none }
def heapAtOnceRow : OpenClaim := { program := "ytjnplglnnamfdaadoor", sum := "d9b67a332e73b44e869533dc2492dfbacc909b86eaf0cf2a1861736ef1068dff", func := "vintner/vintnerlaw09.HeapAtOnce", spec := "heapAtOnce", inPlace := ["internal/abi.NoEscape", "internal/bytealg.MakeNoZero"], unfollowed := true, recurses := true, named := ["vintner/tuple.none"], apart := false, laid := [("vintner/tuple.none", laid_vintner_tuple_none)] }
def HeapAtOnceSaid : Prop := heapAtOnceRow.holds Tryd.pinned (OpenSpec.ofChange heapAtOnceSpec)

/-- ITS FALSE NEIGHBOUR: 'it returns false'. Refute it at one input. -/
def heapAtOnceWrong : ChangeSpec := { name := "heapAtOnce", fn := fun _ => fun
  | [d] => { results := [.lit (.bool false)], args := [d] }
  | _ => none }
def HeapAtOnceWrongFalsely : Prop := heapAtOnceRow.holds Tryd.pinned (OpenSpec.ofChange heapAtOnceWrong)

/- THE SECOND FORM. 'bulk': how many values and letters a reading holds, each counted each time it is reached (what is shared counts as often as it is met; a slice's spare places count too). A statement '..UptoSaid' is the law's where the arguments, and the package variables that the reading takes, are together of bulk at most 1048576: NARROWER than '..Said'. Prove '..Said' where nothing that the law and all that it calls make is longer than what came in: it says more and counts as full. Else prove '..UptoSaid'. A law counts once. -/
mutual
def uptoBulk {H : Type} : DataW H → Nat
  | .lit (.string bytes) => bytes.length + 1
  | .lit _ => 1
  | .nil => 1
  | .ptr d => uptoBulk d + 1
  | .slice elems spare => uptoBulkAll elems + uptoBulkAll spare + 1
  | .agg parts => uptoBulkAll parts + 1
  | .iface _ d => uptoBulk d + 1
  | .map entries => uptoBulkEntries entries + 1
  | .held _ => 1
def uptoBulkAll {H : Type} : List (DataW H) → Nat
  | [] => 0
  | d :: r => uptoBulk d + uptoBulkAll r
def uptoBulkEntries {H : Type} : List (Lit × DataW H) → Nat
  | [] => 0
  | x :: r => uptoBulkEntry x + uptoBulkEntries r
def uptoBulkEntry {H : Type} : Lit × DataW H → Nat
  | (.string bytes, d) => bytes.length + uptoBulk d + 1
  | (_, d) => uptoBulk d + 1
 end
def uptoSmall : (H : Type) → List (DataW H) → Bool := fun _ ds => decide (uptoBulkAll ds ≤ 1048576)
def OpenSpec.upto (s : _root_.Go.ChangeSpec) : _root_.Go.OpenSpec := { _root_.Go.OpenSpec.ofChange s with cond := some uptoSmall }

/-- 'vintnerlaw09.HeapDone', WHERE WHAT IT READS IS OF BULK AT MOST 1048576: true; the input reads as it did. -/
def heapDoneUptoRow : OpenClaim := { program := "ytjnplglnnamfdaadoor", sum := "d9b67a332e73b44e869533dc2492dfbacc909b86eaf0cf2a1861736ef1068dff", func := "vintner/vintnerlaw09.HeapDone", spec := "heapDone", inPlace := ["internal/abi.NoEscape", "internal/bytealg.MakeNoZero"], unfollowed := true, recurses := true, named := ["vintner/tuple.none", "vintner/value.kinds"], apart := false, laid := [("vintner/value.kinds", laid_vintner_value_kinds), ("vintner/tuple.none", laid_vintner_tuple_none)], narrowed := true }
def HeapDoneUptoSaid : Prop := heapDoneUptoRow.holds Tryd.pinned (OpenSpec.upto heapDoneSpec)

/-- 'vintnerlaw09.HeapAtOnce', WHERE WHAT IT READS IS OF BULK AT MOST 1048576: true; the input reads as it did. -/
def heapAtOnceUptoRow : OpenClaim := { program := "ytjnplglnnamfdaadoor", sum := "d9b67a332e73b44e869533dc2492dfbacc909b86eaf0cf2a1861736ef1068dff", func := "vintner/vintnerlaw09.HeapAtOnce", spec := "heapAtOnce", inPlace := ["internal/abi.NoEscape", "internal/bytealg.MakeNoZero"], unfollowed := true, recurses := true, named := ["vintner/tuple.none"], apart := false, laid := [("vintner/tuple.none", laid_vintner_tuple_none)], narrowed := true }
def HeapAtOnceUptoSaid : Prop := heapAtOnceUptoRow.holds Tryd.pinned (OpenSpec.upto heapAtOnceSpec)

end Rows
end Go.Proofs.YtjnplglnnamfdaaDoor

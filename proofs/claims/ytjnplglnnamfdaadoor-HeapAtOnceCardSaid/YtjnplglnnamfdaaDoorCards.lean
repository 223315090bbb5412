/-
  DERIVED. GIVEN WITH THE SEED: THE CARDS: each row of YtjnplglnnamfdaaDoorRows.lean that lists a variable, with what it lists TIED to the program's text (the seventh form; the later family's looks); each row that meets fmt, with fmt's text TOLD by the authors' own Lean function (tested against real Go, not proved from fmt's source: count such statements apart). THE CARD IS WHAT COUNTS. Prove the row's statement (the work); the ties are given (YtjnplglnnamfdaaDoorTie.lean); close each card by the builder's one call (the guide's Derived/Test/ToyasCard.lean, 'card_holds'). Laid BY PROGRAM, IN A SANDBOX (cutbox-door.mjs). By AI agents, Wed Nov 11 2026. No macro, syntax, notation, axiom, sorry.
-/
import Derived.Test.YtjnplglnnamfdaaDoorRows
import GoSem.ClaimSeven
namespace Go.Proofs.YtjnplglnnamfdaaDoor
namespace Rows

/-- THE TIED CARD OF 'vintnerlaw09.HeapDone'. -/
def heapDoneCard : Claim7 := { stood := { row := heapDoneRow, standIns := [], harness := (true, "cb0cbcf253c7add72168568adf4ae4101bfe714700cae071500d6da090a5b03f"), looks := true }, kinds := [], alts := [], laidByText := true, laidKinds := [.funcs, .data], laidTests := true, laidLooks := .later }
def HeapDoneCardSaid : Prop := Claim7.holds Tryd.pinned (.plain (OpenSpec.ofChange heapDoneSpec)) heapDoneCard

/-- THE TIED CARD OF 'vintnerlaw09.HeapAtOnce'. -/
def heapAtOnceCard : Claim7 := { stood := { row := heapAtOnceRow, standIns := [], harness := (true, "cb0cbcf253c7add72168568adf4ae4101bfe714700cae071500d6da090a5b03f"), looks := true }, kinds := [], alts := [], laidByText := true, laidKinds := [.data], laidTests := true, laidLooks := .later }
def HeapAtOnceCardSaid : Prop := Claim7.holds Tryd.pinned (.plain (OpenSpec.ofChange heapAtOnceSpec)) heapAtOnceCard

/-- THE SECOND FORM's CARD OF 'vintnerlaw09.HeapDone'. -/
def heapDoneUptoCard : Claim7 := { stood := { row := heapDoneUptoRow, standIns := [], harness := (true, "cb0cbcf253c7add72168568adf4ae4101bfe714700cae071500d6da090a5b03f"), looks := true }, kinds := [], alts := [], laidByText := true, laidKinds := [.funcs, .data], laidTests := true, laidLooks := .later }
def HeapDoneUptoCardSaid : Prop := Claim7.holds Tryd.pinned (.plain (OpenSpec.upto heapDoneSpec)) heapDoneUptoCard

/-- THE SECOND FORM's CARD OF 'vintnerlaw09.HeapAtOnce'. -/
def heapAtOnceUptoCard : Claim7 := { stood := { row := heapAtOnceUptoRow, standIns := [], harness := (true, "cb0cbcf253c7add72168568adf4ae4101bfe714700cae071500d6da090a5b03f"), looks := true }, kinds := [], alts := [], laidByText := true, laidKinds := [.data], laidTests := true, laidLooks := .later }
def HeapAtOnceUptoCardSaid : Prop := Claim7.holds Tryd.pinned (.plain (OpenSpec.upto heapAtOnceSpec)) heapAtOnceUptoCard
end Rows
end Go.Proofs.YtjnplglnnamfdaaDoor

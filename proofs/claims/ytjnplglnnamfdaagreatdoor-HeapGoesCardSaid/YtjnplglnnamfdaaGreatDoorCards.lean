/-
  DERIVED. GIVEN WITH THE SEED: THE CARDS: each row of YtjnplglnnamfdaaGreatDoorRows.lean that lists a variable, with what it lists TIED to the program's text (the seventh form; the later family's looks); each row that meets fmt, with fmt's text TOLD by the authors' own Lean function (tested against real Go, not proved from fmt's source: count such statements apart). THE CARD IS WHAT COUNTS. Prove the row's statement (the work); the ties are given (YtjnplglnnamfdaaGreatDoorTie.lean); close each card by the builder's one call (the guide's Derived/Test/ToyasCard.lean, 'card_holds'). Laid BY PROGRAM, IN A SANDBOX (cutbox-door.mjs). By AI agents, Wed Nov 11 2026. No macro, syntax, notation, axiom, sorry.
-/
import Derived.Test.YtjnplglnnamfdaaGreatDoorRows
import GoSem.ClaimSeven
namespace Go.Proofs.YtjnplglnnamfdaaGreatDoor
namespace Rows

/-- THE TIED CARD OF 'vintnerlaw09.HeapOwn'. -/
def heapOwnCard : Claim7 := { stood := { row := heapOwnRow, standIns := [], harness := (true, "0534fde15a7cf9e11f91172a4db23648e64874bb25525f842c5fe204828ffe26"), looks := true }, kinds := [], alts := [], laidByText := true, laidKinds := [.data], laidTests := true, laidLooks := .later }
def HeapOwnCardSaid : Prop := Claim7.holds Tryz.pinned (.plain (OpenSpec.ofChange heapOwnSpec)) heapOwnCard

/-- THE TIED CARD OF 'vintnerlaw09.HeapGoes'. -/
def heapGoesCard : Claim7 := { stood := { row := heapGoesRow, standIns := [], harness := (true, "0534fde15a7cf9e11f91172a4db23648e64874bb25525f842c5fe204828ffe26"), looks := true }, kinds := [], alts := [], laidByText := true, laidKinds := [.data], laidTests := true, laidLooks := .later }
def HeapGoesCardSaid : Prop := Claim7.holds Tryz.pinned (.plain (OpenSpec.ofChange heapGoesSpec)) heapGoesCard

/-- THE TIED CARD OF 'vintnerlaw09.HeapLong'. -/
def heapLongCard : Claim7 := { stood := { row := heapLongRow, standIns := [], harness := (true, "0534fde15a7cf9e11f91172a4db23648e64874bb25525f842c5fe204828ffe26"), looks := true }, kinds := [], alts := [], laidByText := true, laidKinds := [.funcs, .data], laidTests := true, laidLooks := .later }
def HeapLongCardSaid : Prop := Claim7.holds Tryz.pinned (.plain (OpenSpec.ofChange heapLongSpec)) heapLongCard

/-- THE TIED CARD OF 'vintnerlaw09.HeapRows'. -/
def heapRowsCard : Claim7 := { stood := { row := heapRowsRow, standIns := [], harness := (true, "0534fde15a7cf9e11f91172a4db23648e64874bb25525f842c5fe204828ffe26"), looks := true }, kinds := [], alts := [], laidByText := true, laidKinds := [.funcs, .data], laidTests := true, laidLooks := .later }
def HeapRowsCardSaid : Prop := Claim7.holds Tryz.pinned (.plain (OpenSpec.ofChange heapRowsSpec)) heapRowsCard

/-- THE TIED CARD OF 'vintnerlaw09.HeapStored'. -/
def heapStoredCard : Claim7 := { stood := { row := heapStoredRow, standIns := [], harness := (true, "0534fde15a7cf9e11f91172a4db23648e64874bb25525f842c5fe204828ffe26"), looks := true }, kinds := [], alts := [], laidByText := true, laidKinds := [.funcs, .data], laidTests := true, laidLooks := .later }
def HeapStoredCardSaid : Prop := Claim7.holds Tryz.pinned (.plain (OpenSpec.ofChange heapStoredSpec)) heapStoredCard

/-- THE TIED CARD OF 'vintnerlaw15.VacuumMap'. -/
def vacuumMapCard : Claim7 := { stood := { row := vacuumMapRow, standIns := [], harness := (true, "0534fde15a7cf9e11f91172a4db23648e64874bb25525f842c5fe204828ffe26"), looks := true }, kinds := [], alts := [], laidByText := true, laidKinds := [.data], laidTests := true, laidLooks := .later }
def VacuumMapCardSaid : Prop := Claim7.holds Tryz.pinned (.plain (OpenSpec.ofChange vacuumMapSpec)) vacuumMapCard

/-- THE SECOND FORM's CARD OF 'vintnerlaw09.HeapOwn'. -/
def heapOwnUptoCard : Claim7 := { stood := { row := heapOwnUptoRow, standIns := [], harness := (true, "0534fde15a7cf9e11f91172a4db23648e64874bb25525f842c5fe204828ffe26"), looks := true }, kinds := [], alts := [], laidByText := true, laidKinds := [.data], laidTests := true, laidLooks := .later }
def HeapOwnUptoCardSaid : Prop := Claim7.holds Tryz.pinned (.plain (OpenSpec.upto heapOwnSpec)) heapOwnUptoCard

/-- THE SECOND FORM's CARD OF 'vintnerlaw09.HeapGoes'. -/
def heapGoesUptoCard : Claim7 := { stood := { row := heapGoesUptoRow, standIns := [], harness := (true, "0534fde15a7cf9e11f91172a4db23648e64874bb25525f842c5fe204828ffe26"), looks := true }, kinds := [], alts := [], laidByText := true, laidKinds := [.data], laidTests := true, laidLooks := .later }
def HeapGoesUptoCardSaid : Prop := Claim7.holds Tryz.pinned (.plain (OpenSpec.upto heapGoesSpec)) heapGoesUptoCard

/-- THE SECOND FORM's CARD OF 'vintnerlaw09.HeapLong'. -/
def heapLongUptoCard : Claim7 := { stood := { row := heapLongUptoRow, standIns := [], harness := (true, "0534fde15a7cf9e11f91172a4db23648e64874bb25525f842c5fe204828ffe26"), looks := true }, kinds := [], alts := [], laidByText := true, laidKinds := [.funcs, .data], laidTests := true, laidLooks := .later }
def HeapLongUptoCardSaid : Prop := Claim7.holds Tryz.pinned (.plain (OpenSpec.upto heapLongSpec)) heapLongUptoCard

/-- THE SECOND FORM's CARD OF 'vintnerlaw09.HeapRows'. -/
def heapRowsUptoCard : Claim7 := { stood := { row := heapRowsUptoRow, standIns := [], harness := (true, "0534fde15a7cf9e11f91172a4db23648e64874bb25525f842c5fe204828ffe26"), looks := true }, kinds := [], alts := [], laidByText := true, laidKinds := [.funcs, .data], laidTests := true, laidLooks := .later }
def HeapRowsUptoCardSaid : Prop := Claim7.holds Tryz.pinned (.plain (OpenSpec.upto heapRowsSpec)) heapRowsUptoCard

/-- THE SECOND FORM's CARD OF 'vintnerlaw09.HeapStored'. -/
def heapStoredUptoCard : Claim7 := { stood := { row := heapStoredUptoRow, standIns := [], harness := (true, "0534fde15a7cf9e11f91172a4db23648e64874bb25525f842c5fe204828ffe26"), looks := true }, kinds := [], alts := [], laidByText := true, laidKinds := [.funcs, .data], laidTests := true, laidLooks := .later }
def HeapStoredUptoCardSaid : Prop := Claim7.holds Tryz.pinned (.plain (OpenSpec.upto heapStoredSpec)) heapStoredUptoCard

/-- THE SECOND FORM's CARD OF 'vintnerlaw15.VacuumMap'. -/
def vacuumMapUptoCard : Claim7 := { stood := { row := vacuumMapUptoRow, standIns := [], harness := (true, "0534fde15a7cf9e11f91172a4db23648e64874bb25525f842c5fe204828ffe26"), looks := true }, kinds := [], alts := [], laidByText := true, laidKinds := [.data], laidTests := true, laidLooks := .later }
def VacuumMapUptoCardSaid : Prop := Claim7.holds Tryz.pinned (.plain (OpenSpec.upto vacuumMapSpec)) vacuumMapUptoCard
end Rows
end Go.Proofs.YtjnplglnnamfdaaGreatDoor

/-
  DERIVED. GIVEN WITH THE SEED: THE CARDS: each row of YtfjpglohcppjeaaDoorRows.lean that lists a variable, with what it lists TIED to the program's text (the seventh form; the later family's looks); each row that meets fmt, with fmt's text TOLD by the authors' own Lean function (tested against real Go, not proved from fmt's source: count such statements apart). THE CARD IS WHAT COUNTS. Prove the row's statement (the work); the ties are given (YtfjpglohcppjeaaDoorTie.lean); close each card by the builder's one call (the guide's Derived/Test/ToyasCard.lean, 'card_holds'). Laid BY PROGRAM, IN A SANDBOX (cutbox-door.mjs). By AI agents, Wed Nov 11 2026. No macro, syntax, notation, axiom, sorry.
-/
import Derived.Test.YtfjpglohcppjeaaDoorRows
import GoSem.ClaimSeven
namespace Go.Proofs.YtfjpglohcppjeaaDoor
namespace Rows

/-- THE TIED CARD OF 'vintnerlaw08.TupleBytes'. -/
def tupleBytesCard : Claim7 := { stood := { row := tupleBytesRow, standIns := [], harness := (true, "2efa9159837e655fb29eef817c42786b7f16f4cdfcdf8eda1384241598ebb389"), looks := true }, kinds := [], alts := [], laidByText := true, laidKinds := [.data], laidTests := true, laidLooks := .later }
def TupleBytesCardSaid : Prop := Claim7.holds Tryd.pinned (.plain (OpenSpec.ofChange tupleBytesSpec)) tupleBytesCard

/-- THE TIED CARD OF 'vintnerlaw08.TupleTells'. -/
def tupleTellsCard : Claim7 := { stood := { row := tupleTellsRow, standIns := [], harness := (true, "2efa9159837e655fb29eef817c42786b7f16f4cdfcdf8eda1384241598ebb389"), looks := true }, kinds := [], alts := [], laidByText := true, laidKinds := [.data], laidTests := true, laidLooks := .later }
def TupleTellsCardSaid : Prop := Claim7.holds Tryd.pinned (.plain (OpenSpec.ofChange tupleTellsSpec)) tupleTellsCard

/-- THE TIED CARD OF 'vintnerlaw08.TupleLater'. -/
def tupleLaterCard : Claim7 := { stood := { row := tupleLaterRow, standIns := [], harness := (true, "2efa9159837e655fb29eef817c42786b7f16f4cdfcdf8eda1384241598ebb389"), looks := true }, kinds := [], alts := [], laidByText := true, laidKinds := [.data], laidTests := true, laidLooks := .later }
def TupleLaterCardSaid : Prop := Claim7.holds Tryd.pinned (.plain (OpenSpec.ofChange tupleLaterSpec)) tupleLaterCard

/-- THE TIED CARD OF 'vintnerlaw08.TupleChain'. -/
def tupleChainCard : Claim7 := { stood := { row := tupleChainRow, standIns := [], harness := (true, "2efa9159837e655fb29eef817c42786b7f16f4cdfcdf8eda1384241598ebb389"), looks := true }, kinds := [], alts := [], laidByText := true, laidKinds := [.data], laidTests := true, laidLooks := .later }
def TupleChainCardSaid : Prop := Claim7.holds Tryd.pinned (.plain (OpenSpec.ofChange tupleChainSpec)) tupleChainCard

/-- THE TIED CARD OF 'vintnerlaw08.TupleOwn'. -/
def tupleOwnCard : Claim7 := { stood := { row := tupleOwnRow, standIns := [], harness := (true, "2efa9159837e655fb29eef817c42786b7f16f4cdfcdf8eda1384241598ebb389"), looks := true }, kinds := [], alts := [], laidByText := true, laidKinds := [.data], laidTests := true, laidLooks := .later }
def TupleOwnCardSaid : Prop := Claim7.holds Tryd.pinned (.plain (OpenSpec.ofChange tupleOwnSpec)) tupleOwnCard

/-- THE TIED CARD OF 'vintnerlaw08.TupleTurned'. -/
def tupleTurnedCard : Claim7 := { stood := { row := tupleTurnedRow, standIns := [], harness := (true, "2efa9159837e655fb29eef817c42786b7f16f4cdfcdf8eda1384241598ebb389"), looks := true }, kinds := [], alts := [], laidByText := true, laidKinds := [.data], laidTests := true, laidLooks := .later }
def TupleTurnedCardSaid : Prop := Claim7.holds Tryd.pinned (.plain (OpenSpec.ofChange tupleTurnedSpec)) tupleTurnedCard

/-- THE TIED CARD OF 'vintnerlaw08.TupleDead'. -/
def tupleDeadCard : Claim7 := { stood := { row := tupleDeadRow, standIns := [], harness := (true, "2efa9159837e655fb29eef817c42786b7f16f4cdfcdf8eda1384241598ebb389"), looks := true }, kinds := [], alts := [], laidByText := true, laidKinds := [.data], laidTests := true, laidLooks := .later }
def TupleDeadCardSaid : Prop := Claim7.holds Tryd.pinned (.plain (OpenSpec.ofChange tupleDeadSpec)) tupleDeadCard

/-- THE TIED CARD OF 'vintnerlaw08.TupleTimes'. -/
def tupleTimesCard : Claim7 := { stood := { row := tupleTimesRow, standIns := [], harness := (true, "2efa9159837e655fb29eef817c42786b7f16f4cdfcdf8eda1384241598ebb389"), looks := true }, kinds := [], alts := [], laidByText := true, laidKinds := [.data], laidTests := true, laidLooks := .later }
def TupleTimesCardSaid : Prop := Claim7.holds Tryd.pinned (.plain (OpenSpec.ofChange tupleTimesSpec)) tupleTimesCard

/-- THE TIED CARD OF 'vintnerlaw08.TuplePages'. -/
def tuplePagesCard : Claim7 := { stood := { row := tuplePagesRow, standIns := [], harness := (true, "2efa9159837e655fb29eef817c42786b7f16f4cdfcdf8eda1384241598ebb389"), looks := true }, kinds := [], alts := [], laidByText := true, laidKinds := [.data], laidTests := true, laidLooks := .later }
def TuplePagesCardSaid : Prop := Claim7.holds Tryd.pinned (.plain (OpenSpec.ofChange tuplePagesSpec)) tuplePagesCard

/-- THE SECOND FORM's CARD OF 'vintnerlaw08.TupleBytes'. -/
def tupleBytesUptoCard : Claim7 := { stood := { row := tupleBytesUptoRow, standIns := [], harness := (true, "2efa9159837e655fb29eef817c42786b7f16f4cdfcdf8eda1384241598ebb389"), looks := true }, kinds := [], alts := [], laidByText := true, laidKinds := [.data], laidTests := true, laidLooks := .later }
def TupleBytesUptoCardSaid : Prop := Claim7.holds Tryd.pinned (.plain (OpenSpec.upto tupleBytesSpec)) tupleBytesUptoCard

/-- THE SECOND FORM's CARD OF 'vintnerlaw08.TupleTells'. -/
def tupleTellsUptoCard : Claim7 := { stood := { row := tupleTellsUptoRow, standIns := [], harness := (true, "2efa9159837e655fb29eef817c42786b7f16f4cdfcdf8eda1384241598ebb389"), looks := true }, kinds := [], alts := [], laidByText := true, laidKinds := [.data], laidTests := true, laidLooks := .later }
def TupleTellsUptoCardSaid : Prop := Claim7.holds Tryd.pinned (.plain (OpenSpec.upto tupleTellsSpec)) tupleTellsUptoCard

/-- THE SECOND FORM's CARD OF 'vintnerlaw08.TupleLater'. -/
def tupleLaterUptoCard : Claim7 := { stood := { row := tupleLaterUptoRow, standIns := [], harness := (true, "2efa9159837e655fb29eef817c42786b7f16f4cdfcdf8eda1384241598ebb389"), looks := true }, kinds := [], alts := [], laidByText := true, laidKinds := [.data], laidTests := true, laidLooks := .later }
def TupleLaterUptoCardSaid : Prop := Claim7.holds Tryd.pinned (.plain (OpenSpec.upto tupleLaterSpec)) tupleLaterUptoCard

/-- THE SECOND FORM's CARD OF 'vintnerlaw08.TupleChain'. -/
def tupleChainUptoCard : Claim7 := { stood := { row := tupleChainUptoRow, standIns := [], harness := (true, "2efa9159837e655fb29eef817c42786b7f16f4cdfcdf8eda1384241598ebb389"), looks := true }, kinds := [], alts := [], laidByText := true, laidKinds := [.data], laidTests := true, laidLooks := .later }
def TupleChainUptoCardSaid : Prop := Claim7.holds Tryd.pinned (.plain (OpenSpec.upto tupleChainSpec)) tupleChainUptoCard

/-- THE SECOND FORM's CARD OF 'vintnerlaw08.TupleOwn'. -/
def tupleOwnUptoCard : Claim7 := { stood := { row := tupleOwnUptoRow, standIns := [], harness := (true, "2efa9159837e655fb29eef817c42786b7f16f4cdfcdf8eda1384241598ebb389"), looks := true }, kinds := [], alts := [], laidByText := true, laidKinds := [.data], laidTests := true, laidLooks := .later }
def TupleOwnUptoCardSaid : Prop := Claim7.holds Tryd.pinned (.plain (OpenSpec.upto tupleOwnSpec)) tupleOwnUptoCard

/-- THE SECOND FORM's CARD OF 'vintnerlaw08.TupleTurned'. -/
def tupleTurnedUptoCard : Claim7 := { stood := { row := tupleTurnedUptoRow, standIns := [], harness := (true, "2efa9159837e655fb29eef817c42786b7f16f4cdfcdf8eda1384241598ebb389"), looks := true }, kinds := [], alts := [], laidByText := true, laidKinds := [.data], laidTests := true, laidLooks := .later }
def TupleTurnedUptoCardSaid : Prop := Claim7.holds Tryd.pinned (.plain (OpenSpec.upto tupleTurnedSpec)) tupleTurnedUptoCard

/-- THE SECOND FORM's CARD OF 'vintnerlaw08.TupleDead'. -/
def tupleDeadUptoCard : Claim7 := { stood := { row := tupleDeadUptoRow, standIns := [], harness := (true, "2efa9159837e655fb29eef817c42786b7f16f4cdfcdf8eda1384241598ebb389"), looks := true }, kinds := [], alts := [], laidByText := true, laidKinds := [.data], laidTests := true, laidLooks := .later }
def TupleDeadUptoCardSaid : Prop := Claim7.holds Tryd.pinned (.plain (OpenSpec.upto tupleDeadSpec)) tupleDeadUptoCard

/-- THE SECOND FORM's CARD OF 'vintnerlaw08.TupleTimes'. -/
def tupleTimesUptoCard : Claim7 := { stood := { row := tupleTimesUptoRow, standIns := [], harness := (true, "2efa9159837e655fb29eef817c42786b7f16f4cdfcdf8eda1384241598ebb389"), looks := true }, kinds := [], alts := [], laidByText := true, laidKinds := [.data], laidTests := true, laidLooks := .later }
def TupleTimesUptoCardSaid : Prop := Claim7.holds Tryd.pinned (.plain (OpenSpec.upto tupleTimesSpec)) tupleTimesUptoCard

/-- THE SECOND FORM's CARD OF 'vintnerlaw08.TuplePages'. -/
def tuplePagesUptoCard : Claim7 := { stood := { row := tuplePagesUptoRow, standIns := [], harness := (true, "2efa9159837e655fb29eef817c42786b7f16f4cdfcdf8eda1384241598ebb389"), looks := true }, kinds := [], alts := [], laidByText := true, laidKinds := [.data], laidTests := true, laidLooks := .later }
def TuplePagesUptoCardSaid : Prop := Claim7.holds Tryd.pinned (.plain (OpenSpec.upto tuplePagesSpec)) tuplePagesUptoCard
end Rows
end Go.Proofs.YtfjpglohcppjeaaDoor

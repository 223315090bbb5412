/-
  No cell of these rows narrows 'for every input' (looked for: loops, veiled, ifaces, maps, wideKeys, modest, calm, conditions, laid).
  DERIVED. THE GIVEN ROWS OF THIS SEAT. 7 by the template 'for every input the law returns true; each argument reads behind the call as it read before'; 0 by the template 'total and deterministic' (their statements: YtjlcoglmjldjbaaTotals.lean).
  GIVEN WITH THE SEED: the statements are not yours to turn. If you find one false, say at which input.
  Laid BY PROGRAM, IN A SANDBOX (cutbox-rows.mjs): the forced cells as the released guide's own fill.sh prints them over the translation b02056d884273b1a… (all of the seat's roots in one cut). By AI agents, Wed Nov 11 2026. No macro, syntax, notation, axiom, sorry.
-/
import Derived.Test.YtjlcoglmjldjbaaChecked
import GoSem.Claim
import GoSem.ClaimJoined
import GoSem.ClaimMapViews
import Derived.JoinedTies
import Derived.KernelRfl
namespace Go.Proofs.Ytjlcoglmjldjbaa
/- THE CELL 'sum', in the pinned program and in every row, IS THE sha256 OF THE DUMP (.gsa) THAT YtjlcoglmjldjbaaProg.lean LOADS. Nothing in Lean hashes anything: it is a label: what it is worth is what the hold of that sum in a sandbox is worth. -/
noncomputable def Try.pinned : Pinned := { name := "ytjlcoglmjldjbaa", sum := "b02056d884273b1a9dbf0d9ffad382f2dd1d21d696438de2cc12eaa36178262c", checked := Try.checked }
namespace Rows
def none {H : Type} : Left H := { results := [], args := [] }

/-- 'vintnerlaw10.TreeGrows': WHATEVER THE INPUT: true; the input reads as it did. -/
def treeGrowsSpec : ChangeSpec := { name := "treeGrows", fn := fun _ => fun
  | [d1, d2, d3] => { results := [.lit (.bool true)], args := [d1, d2, d3] }
  | _ => none }
def treeGrowsRow : OpenClaim := { program := "ytjlcoglmjldjbaa", sum := "b02056d884273b1a9dbf0d9ffad382f2dd1d21d696438de2cc12eaa36178262c", func := "vintner/vintnerlaw10.TreeGrows", spec := "treeGrows", unfollowed := true, recurses := true, apart := false }
def TreeGrowsSaid : Prop := treeGrowsRow.holds Try.pinned (OpenSpec.ofChange treeGrowsSpec)

/-- ITS FALSE NEIGHBOUR: 'it returns false'. Refute it at one input. -/
def treeGrowsWrong : ChangeSpec := { name := "treeGrows", fn := fun _ => fun
  | [d1, d2, d3] => { results := [.lit (.bool false)], args := [d1, d2, d3] }
  | _ => none }
def TreeGrowsWrongFalsely : Prop := treeGrowsRow.holds Try.pinned (OpenSpec.ofChange treeGrowsWrong)

/-- 'vintnerlaw10.TreeBytes': WHATEVER THE INPUT: true; the input reads as it did. -/
def treeBytesSpec : ChangeSpec := { name := "treeBytes", fn := fun _ => fun
  | [d1, d2, d3] => { results := [.lit (.bool true)], args := [d1, d2, d3] }
  | _ => none }
def treeBytesRow : OpenClaim := { program := "ytjlcoglmjldjbaa", sum := "b02056d884273b1a9dbf0d9ffad382f2dd1d21d696438de2cc12eaa36178262c", func := "vintner/vintnerlaw10.TreeBytes", spec := "treeBytes", unfollowed := true, recurses := true, apart := false }
def TreeBytesSaid : Prop := treeBytesRow.holds Try.pinned (OpenSpec.ofChange treeBytesSpec)

/-- ITS FALSE NEIGHBOUR: 'it returns false'. Refute it at one input. -/
def treeBytesWrong : ChangeSpec := { name := "treeBytes", fn := fun _ => fun
  | [d1, d2, d3] => { results := [.lit (.bool false)], args := [d1, d2, d3] }
  | _ => none }
def TreeBytesWrongFalsely : Prop := treeBytesRow.holds Try.pinned (OpenSpec.ofChange treeBytesWrong)

/-- 'vintnerlaw10.TreeNil': WHATEVER THE INPUT: true; the input reads as it did. -/
def treeNilSpec : ChangeSpec := { name := "treeNil", fn := fun _ => fun
  | [d] => { results := [.lit (.bool true)], args := [d] }
  | _ => none }
def treeNilRow : OpenClaim := { program := "ytjlcoglmjldjbaa", sum := "b02056d884273b1a9dbf0d9ffad382f2dd1d21d696438de2cc12eaa36178262c", func := "vintner/vintnerlaw10.TreeNil", spec := "treeNil", unfollowed := true, recurses := true, apart := false }
def TreeNilSaid : Prop := treeNilRow.holds Try.pinned (OpenSpec.ofChange treeNilSpec)

/-- ITS FALSE NEIGHBOUR: 'it returns false'. Refute it at one input. -/
def treeNilWrong : ChangeSpec := { name := "treeNil", fn := fun _ => fun
  | [d] => { results := [.lit (.bool false)], args := [d] }
  | _ => none }
def TreeNilWrongFalsely : Prop := treeNilRow.holds Try.pinned (OpenSpec.ofChange treeNilWrong)

/-- 'vintnerlaw10.TreeBusy': WHATEVER THE INPUT: true; the input reads as it did. -/
def treeBusySpec : ChangeSpec := { name := "treeBusy", fn := fun _ => fun
  | [d] => { results := [.lit (.bool true)], args := [d] }
  | _ => none }
def treeBusyRow : OpenClaim := { program := "ytjlcoglmjldjbaa", sum := "b02056d884273b1a9dbf0d9ffad382f2dd1d21d696438de2cc12eaa36178262c", func := "vintner/vintnerlaw10.TreeBusy", spec := "treeBusy", unfollowed := true, recurses := true, apart := false }
def TreeBusySaid : Prop := treeBusyRow.holds Try.pinned (OpenSpec.ofChange treeBusySpec)

/-- ITS FALSE NEIGHBOUR: 'it returns false'. Refute it at one input. -/
def treeBusyWrong : ChangeSpec := { name := "treeBusy", fn := fun _ => fun
  | [d] => { results := [.lit (.bool false)], args := [d] }
  | _ => none }
def TreeBusyWrongFalsely : Prop := treeBusyRow.holds Try.pinned (OpenSpec.ofChange treeBusyWrong)

/-- 'vintnerlaw10.TreeHalf': WHATEVER THE INPUT: true; the input reads as it did. -/
def treeHalfSpec : ChangeSpec := { name := "treeHalf", fn := fun _ => fun
  | [d1, d2, d3] => { results := [.lit (.bool true)], args := [d1, d2, d3] }
  | _ => none }
def treeHalfRow : OpenClaim := { program := "ytjlcoglmjldjbaa", sum := "b02056d884273b1a9dbf0d9ffad382f2dd1d21d696438de2cc12eaa36178262c", func := "vintner/vintnerlaw10.TreeHalf", spec := "treeHalf", unfollowed := true, recurses := true, apart := false }
def TreeHalfSaid : Prop := treeHalfRow.holds Try.pinned (OpenSpec.ofChange treeHalfSpec)

/-- ITS FALSE NEIGHBOUR: 'it returns false'. Refute it at one input. -/
def treeHalfWrong : ChangeSpec := { name := "treeHalf", fn := fun _ => fun
  | [d1, d2, d3] => { results := [.lit (.bool false)], args := [d1, d2, d3] }
  | _ => none }
def TreeHalfWrongFalsely : Prop := treeHalfRow.holds Try.pinned (OpenSpec.ofChange treeHalfWrong)

/-- 'vintnerlaw10.TreeSorted': WHATEVER THE INPUT: true; the input reads as it did. -/
def treeSortedSpec : ChangeSpec := { name := "treeSorted", fn := fun _ => fun
  | [d1, d2] => { results := [.lit (.bool true)], args := [d1, d2] }
  | _ => none }
def treeSortedRow : OpenClaim := { program := "ytjlcoglmjldjbaa", sum := "b02056d884273b1a9dbf0d9ffad382f2dd1d21d696438de2cc12eaa36178262c", func := "vintner/vintnerlaw10.TreeSorted", spec := "treeSorted", unfollowed := true, recurses := true, apart := false }
def TreeSortedSaid : Prop := treeSortedRow.holds Try.pinned (OpenSpec.ofChange treeSortedSpec)

/-- ITS FALSE NEIGHBOUR: 'it returns false'. Refute it at one input. -/
def treeSortedWrong : ChangeSpec := { name := "treeSorted", fn := fun _ => fun
  | [d1, d2] => { results := [.lit (.bool false)], args := [d1, d2] }
  | _ => none }
def TreeSortedWrongFalsely : Prop := treeSortedRow.holds Try.pinned (OpenSpec.ofChange treeSortedWrong)

/-- 'vintnerlaw10.TreeUnlinks': WHATEVER THE INPUT: true; the input reads as it did. -/
def treeUnlinksSpec : ChangeSpec := { name := "treeUnlinks", fn := fun _ => fun
  | [d1, d2, d3] => { results := [.lit (.bool true)], args := [d1, d2, d3] }
  | _ => none }
def treeUnlinksRow : OpenClaim := { program := "ytjlcoglmjldjbaa", sum := "b02056d884273b1a9dbf0d9ffad382f2dd1d21d696438de2cc12eaa36178262c", func := "vintner/vintnerlaw10.TreeUnlinks", spec := "treeUnlinks", unfollowed := true, recurses := true, apart := false }
def TreeUnlinksSaid : Prop := treeUnlinksRow.holds Try.pinned (OpenSpec.ofChange treeUnlinksSpec)

/-- ITS FALSE NEIGHBOUR: 'it returns false'. Refute it at one input. -/
def treeUnlinksWrong : ChangeSpec := { name := "treeUnlinks", fn := fun _ => fun
  | [d1, d2, d3] => { results := [.lit (.bool false)], args := [d1, d2, d3] }
  | _ => none }
def TreeUnlinksWrongFalsely : Prop := treeUnlinksRow.holds Try.pinned (OpenSpec.ofChange treeUnlinksWrong)

/- THE SECOND FORM. 'bulk': how many values and letters a reading holds, each counted each time it is reached (what is shared counts as often as it is met; a slice's spare places count too). A statement '..UptoSaid' is the law's where the arguments, and the package variables that the reading takes, are together of bulk at most 1048576: NARROWER than '..Said'. Prove '..Said' where nothing that the law and all that it calls make is longer than what came in: it says more and counts as full. Else prove '..UptoSaid'. A law counts once. -/
mutual
def uptoBulk {H : Type} : DataW H → Nat
  | .lit (.string bytes) => bytes.length + 1
  | .lit _ => 1
  | .nil => 1
  | .ptr d => uptoBulk d + 1
  | .slice elems spare => uptoBulkAll elems + uptoBulkAll spare + 1
  | .agg parts => uptoBulkAll parts + 1
  | .iface _ d => uptoBulk d + 1
  | .map entries => uptoBulkEntries entries + 1
  | .held _ => 1
def uptoBulkAll {H : Type} : List (DataW H) → Nat
  | [] => 0
  | d :: r => uptoBulk d + uptoBulkAll r
def uptoBulkEntries {H : Type} : List (Lit × DataW H) → Nat
  | [] => 0
  | x :: r => uptoBulkEntry x + uptoBulkEntries r
def uptoBulkEntry {H : Type} : Lit × DataW H → Nat
  | (.string bytes, d) => bytes.length + uptoBulk d + 1
  | (_, d) => uptoBulk d + 1
 end
def uptoSmall : (H : Type) → List (DataW H) → Bool := fun _ ds => decide (uptoBulkAll ds ≤ 1048576)
def OpenSpec.upto (s : _root_.Go.ChangeSpec) : _root_.Go.OpenSpec := { _root_.Go.OpenSpec.ofChange s with cond := some uptoSmall }

/-- 'vintnerlaw10.TreeGrows', WHERE WHAT IT READS IS OF BULK AT MOST 1048576: true; the input reads as it did. -/
def treeGrowsUptoRow : OpenClaim := { program := "ytjlcoglmjldjbaa", sum := "b02056d884273b1a9dbf0d9ffad382f2dd1d21d696438de2cc12eaa36178262c", func := "vintner/vintnerlaw10.TreeGrows", spec := "treeGrows", unfollowed := true, recurses := true, apart := false, narrowed := true }
def TreeGrowsUptoSaid : Prop := treeGrowsUptoRow.holds Try.pinned (OpenSpec.upto treeGrowsSpec)

/-- 'vintnerlaw10.TreeBytes', WHERE WHAT IT READS IS OF BULK AT MOST 1048576: true; the input reads as it did. -/
def treeBytesUptoRow : OpenClaim := { program := "ytjlcoglmjldjbaa", sum := "b02056d884273b1a9dbf0d9ffad382f2dd1d21d696438de2cc12eaa36178262c", func := "vintner/vintnerlaw10.TreeBytes", spec := "treeBytes", unfollowed := true, recurses := true, apart := false, narrowed := true }
def TreeBytesUptoSaid : Prop := treeBytesUptoRow.holds Try.pinned (OpenSpec.upto treeBytesSpec)

/-- 'vintnerlaw10.TreeNil', WHERE WHAT IT READS IS OF BULK AT MOST 1048576: true; the input reads as it did. -/
def treeNilUptoRow : OpenClaim := { program := "ytjlcoglmjldjbaa", sum := "b02056d884273b1a9dbf0d9ffad382f2dd1d21d696438de2cc12eaa36178262c", func := "vintner/vintnerlaw10.TreeNil", spec := "treeNil", unfollowed := true, recurses := true, apart := false, narrowed := true }
def TreeNilUptoSaid : Prop := treeNilUptoRow.holds Try.pinned (OpenSpec.upto treeNilSpec)

/-- 'vintnerlaw10.TreeBusy', WHERE WHAT IT READS IS OF BULK AT MOST 1048576: true; the input reads as it did. -/
def treeBusyUptoRow : OpenClaim := { program := "ytjlcoglmjldjbaa", sum := "b02056d884273b1a9dbf0d9ffad382f2dd1d21d696438de2cc12eaa36178262c", func := "vintner/vintnerlaw10.TreeBusy", spec := "treeBusy", unfollowed := true, recurses := true, apart := false, narrowed := true }
def TreeBusyUptoSaid : Prop := treeBusyUptoRow.holds Try.pinned (OpenSpec.upto treeBusySpec)

/-- 'vintnerlaw10.TreeHalf', WHERE WHAT IT READS IS OF BULK AT MOST 1048576: true; the input reads as it did. -/
def treeHalfUptoRow : OpenClaim := { program := "ytjlcoglmjldjbaa", sum := "b02056d884273b1a9dbf0d9ffad382f2dd1d21d696438de2cc12eaa36178262c", func := "vintner/vintnerlaw10.TreeHalf", spec := "treeHalf", unfollowed := true, recurses := true, apart := false, narrowed := true }
def TreeHalfUptoSaid : Prop := treeHalfUptoRow.holds Try.pinned (OpenSpec.upto treeHalfSpec)

/-- 'vintnerlaw10.TreeSorted', WHERE WHAT IT READS IS OF BULK AT MOST 1048576: true; the input reads as it did. -/
def treeSortedUptoRow : OpenClaim := { program := "ytjlcoglmjldjbaa", sum := "b02056d884273b1a9dbf0d9ffad382f2dd1d21d696438de2cc12eaa36178262c", func := "vintner/vintnerlaw10.TreeSorted", spec := "treeSorted", unfollowed := true, recurses := true, apart := false, narrowed := true }
def TreeSortedUptoSaid : Prop := treeSortedUptoRow.holds Try.pinned (OpenSpec.upto treeSortedSpec)

/-- 'vintnerlaw10.TreeUnlinks', WHERE WHAT IT READS IS OF BULK AT MOST 1048576: true; the input reads as it did. -/
def treeUnlinksUptoRow : OpenClaim := { program := "ytjlcoglmjldjbaa", sum := "b02056d884273b1a9dbf0d9ffad382f2dd1d21d696438de2cc12eaa36178262c", func := "vintner/vintnerlaw10.TreeUnlinks", spec := "treeUnlinks", unfollowed := true, recurses := true, apart := false, narrowed := true }
def TreeUnlinksUptoSaid : Prop := treeUnlinksUptoRow.holds Try.pinned (OpenSpec.upto treeUnlinksSpec)

end Rows
end Go.Proofs.Ytjlcoglmjldjbaa

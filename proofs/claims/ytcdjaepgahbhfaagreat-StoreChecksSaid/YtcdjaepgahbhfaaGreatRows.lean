/-
  No cell of these rows narrows 'for every input' (looked for: loops, veiled, ifaces, maps, wideKeys, modest, calm, conditions, laid).
  DERIVED. THE GIVEN ROWS OF THIS SEAT. 10 by the template 'for every input the law returns true; each argument reads behind the call as it read before'; 0 by the template 'total and deterministic' (their statements: YtcdjaepgahbhfaaGreatTotals.lean).
  GIVEN WITH THE SEED: the statements are not yours to turn. If you find one false, say at which input.
  Laid BY PROGRAM, IN A SANDBOX (cutbox-rows.mjs): the forced cells as the released guide's own fill.sh prints them over the translation d14cfb6b74468d24… (all of the seat's roots in one cut). By AI agents, Wed Nov 11 2026. No macro, syntax, notation, axiom, sorry.
-/
import Derived.Test.YtcdjaepgahbhfaaGreatChecked
import GoSem.Claim
import GoSem.ClaimJoined
import GoSem.ClaimMapViews
import Derived.JoinedTies
import Derived.KernelRfl
namespace Go.Proofs.YtcdjaepgahbhfaaGreat
/- THE CELL 'sum', in the pinned program and in every row, IS THE sha256 OF THE DUMP (.gsa) THAT YtcdjaepgahbhfaaGreatProg.lean LOADS. Nothing in Lean hashes anything: it is a label: what it is worth is what the hold of that sum in a sandbox is worth. -/
noncomputable def Tryz.pinned : Pinned := { name := "ytcdjaepgahbhfaagreat", sum := "d14cfb6b74468d24dc15c861516a40c44900c0b209c433a96247dfa3e75b3052", checked := Tryz.checked }
namespace Rows
def none {H : Type} : Left H := { results := [], args := [] }

/-- 'vintnerlaw06.StoreRefuses': WHATEVER THE INPUT: true; the input reads as it did. -/
def storeRefusesSpec : ChangeSpec := { name := "storeRefuses", fn := fun _ => fun
  | [d1, d2, d3] => { results := [.lit (.bool true)], args := [d1, d2, d3] }
  | _ => none }
def storeRefusesRow : OpenClaim := { program := "ytcdjaepgahbhfaagreat", sum := "d14cfb6b74468d24dc15c861516a40c44900c0b209c433a96247dfa3e75b3052", func := "vintner/vintnerlaw06.StoreRefuses", spec := "storeRefuses", inPlace := ["internal/abi.NoEscape", "internal/bytealg.MakeNoZero"], unfollowed := true, recurses := true, apart := false }
def StoreRefusesSaid : Prop := storeRefusesRow.holds Tryz.pinned (OpenSpec.ofChange storeRefusesSpec)

/-- ITS FALSE NEIGHBOUR: 'it returns false'. Refute it at one input. -/
def storeRefusesWrong : ChangeSpec := { name := "storeRefuses", fn := fun _ => fun
  | [d1, d2, d3] => { results := [.lit (.bool false)], args := [d1, d2, d3] }
  | _ => none }
def StoreRefusesWrongFalsely : Prop := storeRefusesRow.holds Tryz.pinned (OpenSpec.ofChange storeRefusesWrong)

/-- 'vintnerlaw06.StoreFull': WHATEVER THE INPUT: true; the input reads as it did. -/
def storeFullSpec : ChangeSpec := { name := "storeFull", fn := fun _ => fun
  | [d] => { results := [.lit (.bool true)], args := [d] }
  | _ => none }
def storeFullRow : OpenClaim := { program := "ytcdjaepgahbhfaagreat", sum := "d14cfb6b74468d24dc15c861516a40c44900c0b209c433a96247dfa3e75b3052", func := "vintner/vintnerlaw06.StoreFull", spec := "storeFull", inPlace := ["internal/abi.NoEscape", "internal/bytealg.MakeNoZero"], unfollowed := true, recurses := true, apart := false }
def StoreFullSaid : Prop := storeFullRow.holds Tryz.pinned (OpenSpec.ofChange storeFullSpec)

/-- ITS FALSE NEIGHBOUR: 'it returns false'. Refute it at one input. -/
def storeFullWrong : ChangeSpec := { name := "storeFull", fn := fun _ => fun
  | [d] => { results := [.lit (.bool false)], args := [d] }
  | _ => none }
def StoreFullWrongFalsely : Prop := storeFullRow.holds Tryz.pinned (OpenSpec.ofChange storeFullWrong)

/-- 'vintnerlaw06.StoreTells': WHATEVER THE INPUT: true; the input reads as it did. -/
def storeTellsSpec : ChangeSpec := { name := "storeTells", fn := fun _ => fun
  | [d1, d2] => { results := [.lit (.bool true)], args := [d1, d2] }
  | _ => none }
def storeTellsRow : OpenClaim := { program := "ytcdjaepgahbhfaagreat", sum := "d14cfb6b74468d24dc15c861516a40c44900c0b209c433a96247dfa3e75b3052", func := "vintner/vintnerlaw06.StoreTells", spec := "storeTells", inPlace := ["internal/abi.NoEscape", "internal/bytealg.MakeNoZero"], unfollowed := true, recurses := true, apart := false }
def StoreTellsSaid : Prop := storeTellsRow.holds Tryz.pinned (OpenSpec.ofChange storeTellsSpec)

/-- ITS FALSE NEIGHBOUR: 'it returns false'. Refute it at one input. -/
def storeTellsWrong : ChangeSpec := { name := "storeTells", fn := fun _ => fun
  | [d1, d2] => { results := [.lit (.bool false)], args := [d1, d2] }
  | _ => none }
def StoreTellsWrongFalsely : Prop := storeTellsRow.holds Tryz.pinned (OpenSpec.ofChange storeTellsWrong)

/-- 'vintnerlaw06.StoreCrash': WHATEVER THE INPUT: true; the input reads as it did. -/
def storeCrashSpec : ChangeSpec := { name := "storeCrash", fn := fun _ => fun
  | [d1, d2, d3] => { results := [.lit (.bool true)], args := [d1, d2, d3] }
  | _ => none }
def storeCrashRow : OpenClaim := { program := "ytcdjaepgahbhfaagreat", sum := "d14cfb6b74468d24dc15c861516a40c44900c0b209c433a96247dfa3e75b3052", func := "vintner/vintnerlaw06.StoreCrash", spec := "storeCrash", inPlace := ["internal/abi.NoEscape", "internal/bytealg.MakeNoZero"], unfollowed := true, recurses := true, apart := false }
def StoreCrashSaid : Prop := storeCrashRow.holds Tryz.pinned (OpenSpec.ofChange storeCrashSpec)

/-- ITS FALSE NEIGHBOUR: 'it returns false'. Refute it at one input. -/
def storeCrashWrong : ChangeSpec := { name := "storeCrash", fn := fun _ => fun
  | [d1, d2, d3] => { results := [.lit (.bool false)], args := [d1, d2, d3] }
  | _ => none }
def StoreCrashWrongFalsely : Prop := storeCrashRow.holds Tryz.pinned (OpenSpec.ofChange storeCrashWrong)

/-- 'vintnerlaw06.StoreBuffers': WHATEVER THE INPUT: true; the input reads as it did. -/
def storeBuffersSpec : ChangeSpec := { name := "storeBuffers", fn := fun _ => fun
  | [d1, d2, d3] => { results := [.lit (.bool true)], args := [d1, d2, d3] }
  | _ => none }
def storeBuffersRow : OpenClaim := { program := "ytcdjaepgahbhfaagreat", sum := "d14cfb6b74468d24dc15c861516a40c44900c0b209c433a96247dfa3e75b3052", func := "vintner/vintnerlaw06.StoreBuffers", spec := "storeBuffers", inPlace := ["internal/abi.NoEscape", "internal/bytealg.MakeNoZero"], unfollowed := true, recurses := true, apart := false }
def StoreBuffersSaid : Prop := storeBuffersRow.holds Tryz.pinned (OpenSpec.ofChange storeBuffersSpec)

/-- ITS FALSE NEIGHBOUR: 'it returns false'. Refute it at one input. -/
def storeBuffersWrong : ChangeSpec := { name := "storeBuffers", fn := fun _ => fun
  | [d1, d2, d3] => { results := [.lit (.bool false)], args := [d1, d2, d3] }
  | _ => none }
def StoreBuffersWrongFalsely : Prop := storeBuffersRow.holds Tryz.pinned (OpenSpec.ofChange storeBuffersWrong)

/-- 'vintnerlaw06.StoreAhead': WHATEVER THE INPUT: true; the input reads as it did. -/
def storeAheadSpec : ChangeSpec := { name := "storeAhead", fn := fun _ => fun
  | [d1, d2] => { results := [.lit (.bool true)], args := [d1, d2] }
  | _ => none }
def storeAheadRow : OpenClaim := { program := "ytcdjaepgahbhfaagreat", sum := "d14cfb6b74468d24dc15c861516a40c44900c0b209c433a96247dfa3e75b3052", func := "vintner/vintnerlaw06.StoreAhead", spec := "storeAhead", inPlace := ["internal/abi.NoEscape", "internal/bytealg.MakeNoZero"], unfollowed := true, recurses := true, apart := false }
def StoreAheadSaid : Prop := storeAheadRow.holds Tryz.pinned (OpenSpec.ofChange storeAheadSpec)

/-- ITS FALSE NEIGHBOUR: 'it returns false'. Refute it at one input. -/
def storeAheadWrong : ChangeSpec := { name := "storeAhead", fn := fun _ => fun
  | [d1, d2] => { results := [.lit (.bool false)], args := [d1, d2] }
  | _ => none }
def StoreAheadWrongFalsely : Prop := storeAheadRow.holds Tryz.pinned (OpenSpec.ofChange storeAheadWrong)

/-- 'vintnerlaw06.StoreLog': WHATEVER THE INPUT: true; the input reads as it did. -/
def storeLogSpec : ChangeSpec := { name := "storeLog", fn := fun _ => fun
  | [d1, d2] => { results := [.lit (.bool true)], args := [d1, d2] }
  | _ => none }
def storeLogRow : OpenClaim := { program := "ytcdjaepgahbhfaagreat", sum := "d14cfb6b74468d24dc15c861516a40c44900c0b209c433a96247dfa3e75b3052", func := "vintner/vintnerlaw06.StoreLog", spec := "storeLog", inPlace := ["internal/abi.NoEscape", "internal/bytealg.MakeNoZero"], unfollowed := true, recurses := true, apart := false }
def StoreLogSaid : Prop := storeLogRow.holds Tryz.pinned (OpenSpec.ofChange storeLogSpec)

/-- ITS FALSE NEIGHBOUR: 'it returns false'. Refute it at one input. -/
def storeLogWrong : ChangeSpec := { name := "storeLog", fn := fun _ => fun
  | [d1, d2] => { results := [.lit (.bool false)], args := [d1, d2] }
  | _ => none }
def StoreLogWrongFalsely : Prop := storeLogRow.holds Tryz.pinned (OpenSpec.ofChange storeLogWrong)

/-- 'vintnerlaw06.StoreFresh': WHATEVER THE INPUT: true; the input reads as it did. -/
def storeFreshSpec : ChangeSpec := { name := "storeFresh", fn := fun _ => fun
  | [d1, d2] => { results := [.lit (.bool true)], args := [d1, d2] }
  | _ => none }
def storeFreshRow : OpenClaim := { program := "ytcdjaepgahbhfaagreat", sum := "d14cfb6b74468d24dc15c861516a40c44900c0b209c433a96247dfa3e75b3052", func := "vintner/vintnerlaw06.StoreFresh", spec := "storeFresh", inPlace := ["internal/abi.NoEscape", "internal/bytealg.MakeNoZero"], unfollowed := true, recurses := true, apart := false }
def StoreFreshSaid : Prop := storeFreshRow.holds Tryz.pinned (OpenSpec.ofChange storeFreshSpec)

/-- ITS FALSE NEIGHBOUR: 'it returns false'. Refute it at one input. -/
def storeFreshWrong : ChangeSpec := { name := "storeFresh", fn := fun _ => fun
  | [d1, d2] => { results := [.lit (.bool false)], args := [d1, d2] }
  | _ => none }
def StoreFreshWrongFalsely : Prop := storeFreshRow.holds Tryz.pinned (OpenSpec.ofChange storeFreshWrong)

/-- 'vintnerlaw06.StoreChecks': WHATEVER THE INPUT: true; the input reads as it did. -/
def storeChecksSpec : ChangeSpec := { name := "storeChecks", fn := fun _ => fun
  | [d1, d2, d3] => { results := [.lit (.bool true)], args := [d1, d2, d3] }
  | _ => none }
def storeChecksRow : OpenClaim := { program := "ytcdjaepgahbhfaagreat", sum := "d14cfb6b74468d24dc15c861516a40c44900c0b209c433a96247dfa3e75b3052", func := "vintner/vintnerlaw06.StoreChecks", spec := "storeChecks", inPlace := ["internal/abi.NoEscape", "internal/bytealg.MakeNoZero"], unfollowed := true, recurses := true, apart := false }
def StoreChecksSaid : Prop := storeChecksRow.holds Tryz.pinned (OpenSpec.ofChange storeChecksSpec)

/-- ITS FALSE NEIGHBOUR: 'it returns false'. Refute it at one input. -/
def storeChecksWrong : ChangeSpec := { name := "storeChecks", fn := fun _ => fun
  | [d1, d2, d3] => { results := [.lit (.bool false)], args := [d1, d2, d3] }
  | _ => none }
def StoreChecksWrongFalsely : Prop := storeChecksRow.holds Tryz.pinned (OpenSpec.ofChange storeChecksWrong)

/-- 'vintnerlaw06.StoreRecs': WHATEVER THE INPUT: true; the input reads as it did. -/
def storeRecsSpec : ChangeSpec := { name := "storeRecs", fn := fun _ => fun
  | [d1, d2] => { results := [.lit (.bool true)], args := [d1, d2] }
  | _ => none }
def storeRecsRow : OpenClaim := { program := "ytcdjaepgahbhfaagreat", sum := "d14cfb6b74468d24dc15c861516a40c44900c0b209c433a96247dfa3e75b3052", func := "vintner/vintnerlaw06.StoreRecs", spec := "storeRecs", inPlace := ["internal/abi.NoEscape", "internal/bytealg.MakeNoZero"], unfollowed := true, recurses := true, apart := false }
def StoreRecsSaid : Prop := storeRecsRow.holds Tryz.pinned (OpenSpec.ofChange storeRecsSpec)

/-- ITS FALSE NEIGHBOUR: 'it returns false'. Refute it at one input. -/
def storeRecsWrong : ChangeSpec := { name := "storeRecs", fn := fun _ => fun
  | [d1, d2] => { results := [.lit (.bool false)], args := [d1, d2] }
  | _ => none }
def StoreRecsWrongFalsely : Prop := storeRecsRow.holds Tryz.pinned (OpenSpec.ofChange storeRecsWrong)

/- THE SECOND FORM. 'bulk': how many values and letters a reading holds, each counted each time it is reached (what is shared counts as often as it is met; a slice's spare places count too). A statement '..UptoSaid' is the law's where the arguments, and the package variables that the reading takes, are together of bulk at most 1048576: NARROWER than '..Said'. Prove '..Said' where nothing that the law and all that it calls make is longer than what came in: it says more and counts as full. Else prove '..UptoSaid'. A law counts once. -/
mutual
def uptoBulk {H : Type} : DataW H → Nat
  | .lit (.string bytes) => bytes.length + 1
  | .lit _ => 1
  | .nil => 1
  | .ptr d => uptoBulk d + 1
  | .slice elems spare => uptoBulkAll elems + uptoBulkAll spare + 1
  | .agg parts => uptoBulkAll parts + 1
  | .iface _ d => uptoBulk d + 1
  | .map entries => uptoBulkEntries entries + 1
  | .held _ => 1
def uptoBulkAll {H : Type} : List (DataW H) → Nat
  | [] => 0
  | d :: r => uptoBulk d + uptoBulkAll r
def uptoBulkEntries {H : Type} : List (Lit × DataW H) → Nat
  | [] => 0
  | x :: r => uptoBulkEntry x + uptoBulkEntries r
def uptoBulkEntry {H : Type} : Lit × DataW H → Nat
  | (.string bytes, d) => bytes.length + uptoBulk d + 1
  | (_, d) => uptoBulk d + 1
 end
def uptoSmall : (H : Type) → List (DataW H) → Bool := fun _ ds => decide (uptoBulkAll ds ≤ 1048576)
def OpenSpec.upto (s : _root_.Go.ChangeSpec) : _root_.Go.OpenSpec := { _root_.Go.OpenSpec.ofChange s with cond := some uptoSmall }

/-- 'vintnerlaw06.StoreRefuses', WHERE WHAT IT READS IS OF BULK AT MOST 1048576: true; the input reads as it did. -/
def storeRefusesUptoRow : OpenClaim := { program := "ytcdjaepgahbhfaagreat", sum := "d14cfb6b74468d24dc15c861516a40c44900c0b209c433a96247dfa3e75b3052", func := "vintner/vintnerlaw06.StoreRefuses", spec := "storeRefuses", inPlace := ["internal/abi.NoEscape", "internal/bytealg.MakeNoZero"], unfollowed := true, recurses := true, apart := false, narrowed := true }
def StoreRefusesUptoSaid : Prop := storeRefusesUptoRow.holds Tryz.pinned (OpenSpec.upto storeRefusesSpec)

/-- 'vintnerlaw06.StoreFull', WHERE WHAT IT READS IS OF BULK AT MOST 1048576: true; the input reads as it did. -/
def storeFullUptoRow : OpenClaim := { program := "ytcdjaepgahbhfaagreat", sum := "d14cfb6b74468d24dc15c861516a40c44900c0b209c433a96247dfa3e75b3052", func := "vintner/vintnerlaw06.StoreFull", spec := "storeFull", inPlace := ["internal/abi.NoEscape", "internal/bytealg.MakeNoZero"], unfollowed := true, recurses := true, apart := false, narrowed := true }
def StoreFullUptoSaid : Prop := storeFullUptoRow.holds Tryz.pinned (OpenSpec.upto storeFullSpec)

/-- 'vintnerlaw06.StoreTells', WHERE WHAT IT READS IS OF BULK AT MOST 1048576: true; the input reads as it did. -/
def storeTellsUptoRow : OpenClaim := { program := "ytcdjaepgahbhfaagreat", sum := "d14cfb6b74468d24dc15c861516a40c44900c0b209c433a96247dfa3e75b3052", func := "vintner/vintnerlaw06.StoreTells", spec := "storeTells", inPlace := ["internal/abi.NoEscape", "internal/bytealg.MakeNoZero"], unfollowed := true, recurses := true, apart := false, narrowed := true }
def StoreTellsUptoSaid : Prop := storeTellsUptoRow.holds Tryz.pinned (OpenSpec.upto storeTellsSpec)

/-- 'vintnerlaw06.StoreCrash', WHERE WHAT IT READS IS OF BULK AT MOST 1048576: true; the input reads as it did. -/
def storeCrashUptoRow : OpenClaim := { program := "ytcdjaepgahbhfaagreat", sum := "d14cfb6b74468d24dc15c861516a40c44900c0b209c433a96247dfa3e75b3052", func := "vintner/vintnerlaw06.StoreCrash", spec := "storeCrash", inPlace := ["internal/abi.NoEscape", "internal/bytealg.MakeNoZero"], unfollowed := true, recurses := true, apart := false, narrowed := true }
def StoreCrashUptoSaid : Prop := storeCrashUptoRow.holds Tryz.pinned (OpenSpec.upto storeCrashSpec)

/-- 'vintnerlaw06.StoreBuffers', WHERE WHAT IT READS IS OF BULK AT MOST 1048576: true; the input reads as it did. -/
def storeBuffersUptoRow : OpenClaim := { program := "ytcdjaepgahbhfaagreat", sum := "d14cfb6b74468d24dc15c861516a40c44900c0b209c433a96247dfa3e75b3052", func := "vintner/vintnerlaw06.StoreBuffers", spec := "storeBuffers", inPlace := ["internal/abi.NoEscape", "internal/bytealg.MakeNoZero"], unfollowed := true, recurses := true, apart := false, narrowed := true }
def StoreBuffersUptoSaid : Prop := storeBuffersUptoRow.holds Tryz.pinned (OpenSpec.upto storeBuffersSpec)

/-- 'vintnerlaw06.StoreAhead', WHERE WHAT IT READS IS OF BULK AT MOST 1048576: true; the input reads as it did. -/
def storeAheadUptoRow : OpenClaim := { program := "ytcdjaepgahbhfaagreat", sum := "d14cfb6b74468d24dc15c861516a40c44900c0b209c433a96247dfa3e75b3052", func := "vintner/vintnerlaw06.StoreAhead", spec := "storeAhead", inPlace := ["internal/abi.NoEscape", "internal/bytealg.MakeNoZero"], unfollowed := true, recurses := true, apart := false, narrowed := true }
def StoreAheadUptoSaid : Prop := storeAheadUptoRow.holds Tryz.pinned (OpenSpec.upto storeAheadSpec)

/-- 'vintnerlaw06.StoreLog', WHERE WHAT IT READS IS OF BULK AT MOST 1048576: true; the input reads as it did. -/
def storeLogUptoRow : OpenClaim := { program := "ytcdjaepgahbhfaagreat", sum := "d14cfb6b74468d24dc15c861516a40c44900c0b209c433a96247dfa3e75b3052", func := "vintner/vintnerlaw06.StoreLog", spec := "storeLog", inPlace := ["internal/abi.NoEscape", "internal/bytealg.MakeNoZero"], unfollowed := true, recurses := true, apart := false, narrowed := true }
def StoreLogUptoSaid : Prop := storeLogUptoRow.holds Tryz.pinned (OpenSpec.upto storeLogSpec)

/-- 'vintnerlaw06.StoreFresh', WHERE WHAT IT READS IS OF BULK AT MOST 1048576: true; the input reads as it did. -/
def storeFreshUptoRow : OpenClaim := { program := "ytcdjaepgahbhfaagreat", sum := "d14cfb6b74468d24dc15c861516a40c44900c0b209c433a96247dfa3e75b3052", func := "vintner/vintnerlaw06.StoreFresh", spec := "storeFresh", inPlace := ["internal/abi.NoEscape", "internal/bytealg.MakeNoZero"], unfollowed := true, recurses := true, apart := false, narrowed := true }
def StoreFreshUptoSaid : Prop := storeFreshUptoRow.holds Tryz.pinned (OpenSpec.upto storeFreshSpec)

/-- 'vintnerlaw06.StoreChecks', WHERE WHAT IT READS IS OF BULK AT MOST 1048576: true; the input reads as it did. -/
def storeChecksUptoRow : OpenClaim := { program := "ytcdjaepgahbhfaagreat", sum := "d14cfb6b74468d24dc15c861516a40c44900c0b209c433a96247dfa3e75b3052", func := "vintner/vintnerlaw06.StoreChecks", spec := "storeChecks", inPlace := ["internal/abi.NoEscape", "internal/bytealg.MakeNoZero"], unfollowed := true, recurses := true, apart := false, narrowed := true }
def StoreChecksUptoSaid : Prop := storeChecksUptoRow.holds Tryz.pinned (OpenSpec.upto storeChecksSpec)

/-- 'vintnerlaw06.StoreRecs', WHERE WHAT IT READS IS OF BULK AT MOST 1048576: true; the input reads as it did. -/
def storeRecsUptoRow : OpenClaim := { program := "ytcdjaepgahbhfaagreat", sum := "d14cfb6b74468d24dc15c861516a40c44900c0b209c433a96247dfa3e75b3052", func := "vintner/vintnerlaw06.StoreRecs", spec := "storeRecs", inPlace := ["internal/abi.NoEscape", "internal/bytealg.MakeNoZero"], unfollowed := true, recurses := true, apart := false, narrowed := true }
def StoreRecsUptoSaid : Prop := storeRecsUptoRow.holds Tryz.pinned (OpenSpec.upto storeRecsSpec)

end Rows
end Go.Proofs.YtcdjaepgahbhfaaGreat

/- More words on worlds that differ in few blocks. -/
import Derived.Test.YtfjpglohcppjeaaDoorUpd
namespace Go.Proofs.YtfjpglohcppjeaaDoor
open Go.RowKit
set_option linter.unusedVariables false
set_option linter.unusedSimpArgs false

theorem Blk.updo {w w' : World} {g : Nat} {t : TypeId} {cs : Array Value} {base : Nat} {e : TypeId} {v : Value} {n : Nat} {xs : List Value} (h : Blk w g t cs) (ho : w.ownsRow base e 1 v n xs) (hne : e ≠ t) (hu : Upd v.ownBlock.toList w w') : Blk w' g t cs :=
  h.upd hu fun hm => own_ne ho h hne (by simpa using hm)
end Go.Proofs.YtfjpglohcppjeaaDoor

/- life.Next; locksmithref10: Next, at, Due, Move. -/
import Derived.Test.YtdlkobmlnpijgaaDoorLife2
import Derived.Deep.DeepMust
namespace Go.Proofs.YtdlkobmlnpijgaaDoor
open Go.RowKit
set_option linter.unusedVariables false
set_option linter.unusedSimpArgs false
set_option maxRecDepth 100000
set_option maxHeartbeats 1600000


def refNextV (st : Int) (d1 d4 : Bool × Int) : Int × Bool := if st = 1 ∧ d1.1 = true then (d1.2, true) else if st = 2 ∧ d4.1 = true then (d4.2, true) else (0, false)

end Go.Proofs.YtdlkobmlnpijgaaDoor

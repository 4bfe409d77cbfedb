/- locksmithref10: Due. -/
import Derived.Test.YtdlkobmlnpijgaaDoorLife3
namespace Go.Proofs.YtdlkobmlnpijgaaDoor
open Go.RowKit
set_option linter.unusedVariables false
set_option linter.unusedSimpArgs false
set_option maxRecDepth 100000
set_option maxHeartbeats 1600000

end Go.Proofs.YtdlkobmlnpijgaaDoor

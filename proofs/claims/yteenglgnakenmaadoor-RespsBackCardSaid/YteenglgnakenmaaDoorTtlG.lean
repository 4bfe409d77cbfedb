/- A row of items that grows (cut out of the texts of the payloads). -/
import Derived.Test.YteenglgnakenmaaDoorItem4
import Derived.Test.YteenglgnakenmaaDoorRegionB
import Derived.Test.YteenglgnakenmaaDoorPay6
namespace Go.Proofs.YteenglgnakenmaaDoor
open Go.RowKit
set_option linter.unusedVariables false
set_option linter.unusedSimpArgs false
set_option maxRecDepth 100000
set_option maxHeartbeats 1600000
end Go.Proofs.YteenglgnakenmaaDoor

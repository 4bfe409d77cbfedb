/- locksmithref10: Move. -/
import Derived.Test.YtdlkobmlnpijgaaDoorLife4
namespace Go.Proofs.YtdlkobmlnpijgaaDoor
open Go.RowKit
set_option linter.unusedVariables false
set_option linter.unusedSimpArgs false
set_option maxRecDepth 100000
set_option maxHeartbeats 1600000

theorem due_le2 (O : ObjD) (now : Int) : (dueOf O now).length ≤ 2 := by
  unfold dueOf dueV
  split
  · split
    · split <;> simp
    · simp
  · split
    · split <;> simp
    · simp
end Go.Proofs.YtdlkobmlnpijgaaDoor

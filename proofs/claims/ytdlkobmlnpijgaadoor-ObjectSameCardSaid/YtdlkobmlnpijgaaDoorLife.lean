/- life: dates, edges, next, Due. -/
import Derived.Test.YtdlkobmlnpijgaaDoorObj
import Derived.Deep.LoopGhost
import Derived.Deep.DeepMust
namespace Go.Proofs.YtdlkobmlnpijgaaDoor
open Go.RowKit
set_option linter.unusedVariables false
set_option linter.unusedSimpArgs false
set_option maxRecDepth 100000
set_option maxHeartbeats 1600000


/-- An edge of the diagram. -/
def edgeB (a b : Int) : Bool :=
  if a = 1 then (b == 2 || b == 4 || b == 5) else if a = 2 then (b == 3 || b == 4) else if a = 3 then (b == 4 || b == 5) else if a = 4 then b == 6 else if a = 5 then b == 6 else false
theorem bool_ret {x y : Bool} (h : x = y) : Ending.returned (.bool x) = .returned (.bool y) := by rw [h]

def I64 (z : Int) : Value := .int .i64 z
theorem I64_one (l : List Int) : ∀ u ∈ l.map I64, u.oneCell' = true := by
  intro u hu
  obtain ⟨x, _, rfl⟩ := List.mem_map.1 hu
  rfl
end Go.Proofs.YtdlkobmlnpijgaaDoor

/- locksmithref10.Same: two objects that read the same are the same. -/
import Derived.Test.YtgenbpndphdgnaaDoorLife5
import Derived.Laws.StructEq
namespace Go.Proofs.YtgenbpndphdgnaaDoor
open Go.RowKit
set_option linter.unusedVariables false
set_option linter.unusedSimpArgs false
set_option maxRecDepth 100000
set_option maxHeartbeats 1600000

def dateL (O : ObjD) : List Value :=
  [.bool (O.dat 0).1, .int .i64 (O.dat 0).2, .bool (O.dat 1).1, .int .i64 (O.dat 1).2, .bool (O.dat 2).1, .int .i64 (O.dat 2).2, .bool (O.dat 3).1, .int .i64 (O.dat 3).2, .bool (O.dat 4).1, .int .i64 (O.dat 4).2,
    .bool (O.dat 5).1, .int .i64 (O.dat 5).2, .bool (O.dat 6).1, .int .i64 (O.dat 6).2, .bool (O.dat 7).1, .int .i64 (O.dat 7).2, .bool (O.dat 8).1, .int .i64 (O.dat 8).2, .bool (O.dat 9).1, .int .i64 (O.dat 9).2]
def limL (O : ObjD) : List Value := [.bool O.limHas, .int .i64 O.total, .int .i64 O.count, .int .i64 O.unit]
theorem date_range {w : World} {b : Nat} {O : ObjD} {s : ObjV} {T : TypeId} {fr : Nat × Nat} (h : w.heap[b]? = some (.cells (objCells O s) T fr)) : w.rangeAt b 7 (dateL O) := by
  have e : ((objCells O s).extract 7 (7 + 20)).toList = dateL O := by kernel_rfl
  rw [← e]; exact World.rangeAt_of_block h 7 20
theorem lim_range {w : World} {b : Nat} {O : ObjD} {s : ObjV} {T : TypeId} {fr : Nat × Nat} (h : w.heap[b]? = some (.cells (objCells O s) T fr)) : w.rangeAt b 32 (limL O) := by
  have e : ((objCells O s).extract 32 (32 + 4)).toList = limL O := by kernel_rfl
  rw [← e]; exact World.rangeAt_of_block h 32 4

end Go.Proofs.YtgenbpndphdgnaaDoor

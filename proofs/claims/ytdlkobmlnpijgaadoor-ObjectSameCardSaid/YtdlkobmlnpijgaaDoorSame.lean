/- locksmithref10.Same: two objects that read the same are the same. -/
import Derived.Test.YtdlkobmlnpijgaaDoorLife5
import Derived.Laws.StructEq
namespace Go.Proofs.YtdlkobmlnpijgaaDoor
open Go.RowKit
set_option linter.unusedVariables false
set_option linter.unusedSimpArgs false
set_option maxRecDepth 100000
set_option maxHeartbeats 1600000

def dateL (O : ObjD) : List Value :=
  [.bool (O.dat 0).1, .int .i64 (O.dat 0).2, .bool (O.dat 1).1, .int .i64 (O.dat 1).2, .bool (O.dat 2).1, .int .i64 (O.dat 2).2, .bool (O.dat 3).1, .int .i64 (O.dat 3).2, .bool (O.dat 4).1, .int .i64 (O.dat 4).2,
    .bool (O.dat 5).1, .int .i64 (O.dat 5).2, .bool (O.dat 6).1, .int .i64 (O.dat 6).2, .bool (O.dat 7).1, .int .i64 (O.dat 7).2, .bool (O.dat 8).1, .int .i64 (O.dat 8).2, .bool (O.dat 9).1, .int .i64 (O.dat 9).2]
def limL (O : ObjD) : List Value := [.bool O.limHas, .int .i64 O.total, .int .i64 O.count, .int .i64 O.unit]
theorem date_range {w : World} {b : Nat} {O : ObjD} {s : ObjV} {T : TypeId} {fr : Nat × Nat} (h : w.heap[b]? = some (.cells (objCells O s) T fr)) : w.rangeAt b 7 (dateL O) := by
  have e : ((objCells O s).extract 7 (7 + 20)).toList = dateL O := by kernel_rfl
  rw [← e]; exact World.rangeAt_of_block h 7 20
theorem lim_range {w : World} {b : Nat} {O : ObjD} {s : ObjV} {T : TypeId} {fr : Nat × Nat} (h : w.heap[b]? = some (.cells (objCells O s) T fr)) : w.rangeAt b 32 (limL O) := by
  have e : ((objCells O s).extract 32 (32 + 4)).toList = limL O := by kernel_rfl
  rw [← e]; exact World.rangeAt_of_block h 32 4

theorem eqDate (d : Nat) (h : Bool) (t : Int) (w : World) : (Op.equalIn (d + 2) 27 (.agg #[.bool h, .int .i64 t]) (.agg #[.bool h, .int .i64 t])).run Tryd.prog w = .ok true w := by
  go_simp
theorem partDates (O : ObjD) (w : World) : ∀ i, i < 10 → (part 27 (dateL O).toArray (i * 2)).run Tryd.prog w = .ok (.agg #[.bool (O.dat i).1, .int .i64 (O.dat i).2]) w := by
  intro i hi
  have : i = 0 ∨ i = 1 ∨ i = 2 ∨ i = 3 ∨ i = 4 ∨ i = 5 ∨ i = 6 ∨ i = 7 ∨ i = 8 ∨ i = 9 := by omega
  clear hi
  rcases this with h | h | h | h | h | h | h | h | h | h <;> (rw [h]; clear h; show Eq _ _; kernel_rfl)
theorem eqDates (O : ObjD) (d : Nat) (w : World) : (Op.equalIn (d + 3) 28 (.agg (dateL O).toArray) (.agg (dateL O).toArray)).run Tryd.prog w = .ok true w :=
  run_equalIn_array_same (P := Tryd.prog) (d + 2) (dateL O).toArray Tryd.underlying28 (n := 2) (fun w => by kernel_rfl) (fun i => .agg #[.bool (O.dat i).1, .int .i64 (O.dat i).2]) (fun i hi w => partDates O w i hi) (fun i hi w => eqDate d _ _ w) w
theorem eqLim (O : ObjD) (d : Nat) (w : World) : (Op.equalIn (d + 2) 33 (.agg (limL O).toArray) (.agg (limL O).toArray)).run Tryd.prog w = .ok true w := by
  unfold limL
  go_simp
end Go.Proofs.YtdlkobmlnpijgaaDoor

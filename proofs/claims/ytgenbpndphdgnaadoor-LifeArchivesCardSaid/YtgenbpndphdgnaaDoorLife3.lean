/- life.Next; locksmithref10: Next, at, Due, Move. -/
import Derived.Test.YtgenbpndphdgnaaDoorLife2
import Derived.Deep.DeepMust
namespace Go.Proofs.YtgenbpndphdgnaaDoor
open Go.RowKit
set_option linter.unusedVariables false
set_option linter.unusedSimpArgs false
set_option maxRecDepth 100000
set_option maxHeartbeats 1600000

theorem lifeNext_any (O : ObjD) (s : ObjV) (z t : Int) (h : Bool) (w : World) (hn : nextOf O = (z, h, t)) :
    Calls Tryd.prog 17 #[.agg (objCells O s)] w fun e w' => e = .returned (.tuple #[.int .i64 t, .bool h]) ∧ Below w.heap.size w w' := by
  have NX := hid (fun w => next_any O s w)
  rw [hn] at NX
  clear hn
  generalize hbe : w.heap.size = b
  have HBE := hid hbe; clear hbe
  go_enter Tryd.func17, Tryd.ntmps17
  go_upto_region 1 with (fail)
  rw [HBE.out]
  have B0 : Hid (Box1 35 O s w (w.alloc (.cells (objCells O s) 35)) b) := by rw [← HBE.out]; exact ⟨block_new _ _, (Below.refl _ _).alloc (Nat.le_refl _) _⟩
  generalize w.alloc (.cells (objCells O s) 35) = W at *
  go_wp2_with (first | (refine wpList_load_row rfl 35 _ rfl b rfl _ _ _ _ B0.out.obj Tryd.underlying35 rfl (by rw [objCells_size]; exact oSizeO) ?_) | fail)
  refine (NX.out _).mono ?_
  rintro e w2 ⟨rfl, hb2⟩
  have HB := hid (B0.out.below hb2).bel
  have HL := hid (block_lt (B0.out.below hb2).obj)
  clear hb2 B0
  go_wp2
  go_region
  all_goals
    go_wp2
    go_ret2
    exact ⟨rfl, (HB.out.alloc (by have := HL.out; omega) _).drew⟩

def refNextV (st : Int) (d1 d4 : Bool × Int) : Int × Bool := if st = 1 ∧ d1.1 = true then (d1.2, true) else if st = 2 ∧ d4.1 = true then (d4.2, true) else (0, false)

end Go.Proofs.YtgenbpndphdgnaaDoor

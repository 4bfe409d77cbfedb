/- locksmithref15.Parse: its walk. -/
import Derived.Test.YtfcobmncbnkppaaDoorPay12
namespace Go.Proofs.YtfcobmncbnkppaaDoor
open Go.RowKit
set_option linter.unusedVariables false
set_option linter.unusedSimpArgs false
set_option maxRecDepth 100000
set_option maxHeartbeats 3200000
def stEmpty (T : TypeId) (B : Nat) : St Grow := ⟨fun v w => ∃ g, v = .slice (some ⟨g, 0, none⟩) 0 0 ∧ w.heap[g]? = some (.cells #[] T (0, 0)) ∧ B ≤ g, fun v w w' h hg => let ⟨g, e, h0, h1⟩ := h; ⟨g, e, (hg.block _ (block_lt h0)).trans h0, h1⟩⟩
def stRow (T : TypeId) (B n : Nat) (xs : List Value) : St Grow := ⟨fun v w => ∃ a c, v = .slice a n c ∧ w.ownsRow B T 5 (.slice a n c) n xs, fun v w w' h hg => let ⟨a, c, e, h1⟩ := h; ⟨a, c, e, (Chg.of_below hg []).owns h1 (fun k _ hm => by cases hm)⟩⟩
def stItemR (x : ItV) (T : TypeId) : St Grow := ⟨fun v w => ∃ p, v = .slice (some ⟨p, 0, none⟩) 1 1 ∧ w.heap[p]? = some (.cells x.arr T (0, 0)), fun v w w' h hg => let ⟨p, e, h0⟩ := h; ⟨p, e, (hg.block _ (block_lt h0)).trans h0⟩⟩
/-- What the reference's Parse answers: its items may be shared. -/
def ParsedR (F : Nat → Prop) (T1 T : TypeId) (r : Except Int (List (List Itm))) (w : World) (e : Ending) (w' : World) : Prop :=
  match r with
  | .error c => e = .returned (.tuple #[.slice none 0 0, .int .i64 c]) ∧ Below w.heap.size w w'
  | .ok rows => ∃ (so : Sl) (sls : List Sl) (rv : List (List ItV)), e = .returned (.tuple #[.slice so.a so.n so.c, .int .i64 0]) ∧ Rows2 T1 T w' w.heap.size 0 so sls rv ∧ rv.map (fun l => l.map ItV.it) = rows ∧ (∀ sl ∈ sls, sl.n ≤ 1099511627776) ∧ Below w.heap.size w w' ∧ ∀ lr ∈ rv, ∀ x ∈ lr, ∀ k ∈ x.foot, F k
end Go.Proofs.YtfcobmncbnkppaaDoor

/- Several texts in one. -/
import Derived.Test.YteenglgnakenmaaDoorMem
import Derived.Test.YteenglgnakenmaaDoorHand
import Derived.Test.YteenglgnakenmaaDoorParA
import Derived.Test.YteenglgnakenmaaDoorOwnA
namespace Go.Proofs.YteenglgnakenmaaDoor
open Go.RowKit
set_option linter.unusedVariables false
set_option linter.unusedSimpArgs false
structure RawD where
  kind : Int
  a : Int
  b : Int
  c : Int
deriving Inhabited
def RawD.ok (x : RawD) : Prop := (-9223372036854775808 ≤ x.kind ∧ x.kind ≤ 9223372036854775807) ∧ (-9223372036854775808 ≤ x.a ∧ x.a ≤ 9223372036854775807) ∧ (-9223372036854775808 ≤ x.b ∧ x.b ≤ 9223372036854775807) ∧ (-9223372036854775808 ≤ x.c ∧ x.c ≤ 9223372036854775807)
def RawD.cells (x : RawD) : Array Value := #[.int .i64 x.kind, .int .i64 x.a, .int .i64 x.b, .int .i64 x.c]
def pickN (n : Int) (m : Nat) : Nat := (pick n m).toNat
theorem pickN_eq (n : Int) (m : Nat) (h : 1 ≤ m) : pick n m = (pickN n m : Int) := by
  have := pick_lo n m (by omega)
  unfold pickN; omega
theorem pickN_lt (n : Int) (m : Nat) (h : 1 ≤ m) : pickN n m < m := by
  have := pick_lo n m (by omega)
  have := pick_hi n m (by omega)
  unfold pickN; omega
def RawR (cs : List Value) (y : RawD) : Prop := cs = y.cells.toList ∧ y.ok
theorem raw_get {w : World} {aL : Option Addr} {nL cL : Nat} {l : List RawD} (h : ArgSl 4 RawR w (.slice aL nL cL) l) {k : Nat} (hk : k < nL) :
    ∃ b off y, aL = some ⟨b, off, none⟩ ∧ l[k]? = some y ∧ y.ok ∧ w.cell? ⟨b, off + k * 4, none⟩ = some (.int .i64 y.kind) ∧ w.cell? ⟨b, off + k * 4 + 1, none⟩ = some (.int .i64 y.a) ∧ w.cell? ⟨b, off + k * 4 + 2, none⟩ = some (.int .i64 y.b) ∧ w.cell? ⟨b, off + k * 4 + 3, none⟩ = some (.int .i64 y.c) := by
  obtain ⟨a, n, c, hv, hl, _, _, _, hc⟩ := h
  simp only [Value.slice.injEq] at hv
  obtain ⟨rfl, rfl, rfl⟩ := hv
  obtain ⟨b, off, cs, ha, h1, h2, h3, h4⟩ := hc k hk
  refine ⟨b, off, l.getD k default, ha, ?_, h4, ?_, ?_, ?_, ?_⟩
  · rw [List.getD_eq_getElem?_getD, List.getElem?_eq_getElem (by omega)]; rfl
  · have := h2 0 (by omega); rw [h3] at this; exact this
  · have := h2 1 (by omega); rw [h3] at this; exact this
  · have := h2 2 (by omega); rw [h3] at this; exact this
  · have := h2 3 (by omega); rw [h3] at this; exact this
theorem argSl_len {w : World} {aL : Option Addr} {nL cL : Nat} {l : List RawD} (h : ArgSl 4 RawR w (.slice aL nL cL) l) : l.length = nL ∧ nL ≤ 140737488355328 := by
  obtain ⟨a, n, c, hv, hl, h1, h2, _⟩ := h
  simp only [Value.slice.injEq] at hv
  obtain ⟨rfl, rfl, rfl⟩ := hv
  exact ⟨hl, by omega⟩
theorem raws_below {w w' : World} {v : Value} {l : List RawD} (h : ArgSl 4 RawR w v l) (hb : Below w.heap.size w w') : ArgSl 4 RawR w' v l := by
  obtain ⟨a, n, c, hv, hl, h1, h2, h3, hc⟩ := h
  refine ⟨a, n, c, hv, hl, h1, h2, h3, fun k hk => ?_⟩
  obtain ⟨b, off, cs, ha, g0, g1, g3⟩ := hc k hk
  refine ⟨b, off, cs, ha, g0, fun j hj => ?_, g3⟩
  have hj' := g1 j hj
  rw [List.getElem?_eq_getElem (by omega)] at hj' ⊢
  exact cell_later hb hj'
end Go.Proofs.YteenglgnakenmaaDoor
namespace Go.Proofs.YteenglgnakenmaaDoor
open Go.RowKit
set_option linter.unusedVariables false
set_option linter.unusedSimpArgs false
set_option maxRecDepth 100000
set_option maxHeartbeats 3200000
def intsV (l : List Int) : Array Value := (l.map fun n => Value.int .i64 n).toArray
theorem intsV_get (l : List Int) (k : Nat) (h : k < l.length) : (intsV l)[k]? = some (.int .i64 (l.getD k 0)) := by
  unfold intsV
  rw [List.getElem?_toArray, List.getElem?_map, List.getD_eq_getElem?_getD, List.getElem?_eq_getElem h]; rfl
def strsV (l : List ByteArray) : Array Value := (l.map Value.string).toArray
theorem strsV_get (l : List ByteArray) (k : Nat) (h : k < l.length) : (strsV l)[k]? = some (.string (l.getD k ByteArray.empty)) := by
  unfold strsV
  rw [List.getElem?_toArray, List.getElem?_map, List.getD_eq_getElem?_getD, List.getElem?_eq_getElem h]; rfl
/-- An item made of raw numbers. -/
def HMade (w : World) (e : Ending) (w' : World) : Prop := ∃ v : ItV, e = .returned (.agg v.arr) ∧ nz v.it = true ∧ v.ok w' ∧ (∀ k ∈ v.foot, w.heap.size ≤ k) ∧ Below w.heap.size w w'
end Go.Proofs.YteenglgnakenmaaDoor
namespace Go.Proofs.YteenglgnakenmaaDoor
open Go.RowKit
set_option linter.unusedVariables false
set_option linter.unusedSimpArgs false
set_option maxRecDepth 100000
set_option maxHeartbeats 1600000
end Go.Proofs.YteenglgnakenmaaDoor

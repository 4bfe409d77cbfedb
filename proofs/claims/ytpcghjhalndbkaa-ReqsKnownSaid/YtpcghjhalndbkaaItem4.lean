/- locksmithref6.Same. -/
import Derived.Test.YtpcghjhalndbkaaItem3
import Derived.Test.YtpcghjhalndbkaaRegion
namespace Go.Proofs.Ytpcghjhalndbkaa
open Go.RowKit
set_option linter.unusedVariables false
set_option linter.unusedSimpArgs false
set_option maxRecDepth 100000
set_option maxHeartbeats 1600000
open Classical in
/-- Are two items the same? -/
noncomputable def sameI (a b : Itm) : Bool := decide (a = b)
theorem sameI_yes {a b : Itm} (h : a = b) : sameI a b = true := by simp [sameI, h]
theorem sameI_no {a b : Itm} (h : a ≠ b) : sameI a b = false := by simp [sameI, h]
theorem sameI_eq {a b : Itm} (h : sameI a b = true) : a = b := by simpa [sameI] using h
theorem sameI_ne {a b : Itm} (h : sameI a b = false) : a ≠ b := by simpa [sameI] using h
theorem it_ne {a b : ItV} (h : ¬ (a.tag = b.tag ∧ a.typ = b.typ ∧ a.int = b.int ∧ a.data = b.data ∧ a.kids.map ItV.it = b.kids.map ItV.it)) : sameI a.it b.it = false := by
  refine sameI_no fun he => h ?_
  rw [ItV.it_eq, ItV.it_eq] at he
  simpa using he
theorem it_same {a b : ItV} (h1 : a.tag = b.tag) (h2 : a.typ = b.typ) (h3 : a.int = b.int) (h4 : a.data = b.data) (h5 : a.kids.map ItV.it = b.kids.map ItV.it) : sameI a.it b.it = true := by
  refine sameI_yes ?_
  rw [ItV.it_eq, ItV.it_eq, h1, h2, h3, h4, h5]
theorem range_later {w w' : World} (hb : Below w.heap.size w w') {b o : Nat} {cs : List Value} (h : w.rangeAt b o cs) : w'.rangeAt b o cs := fun j v hv => cell_later hb (h j v hv)
theorem bytes_ne' {y x : ByteArray} (h : y ≠ x) : (y.toList == x.toList) = false := by
  rw [beq_eq_false_iff_ne]
  intro e
  rw [ByteArray.toList_eq, ByteArray.toList_eq] at e
  apply h
  obtain ⟨y⟩ := y
  obtain ⟨x⟩ := x
  exact congrArg ByteArray.mk (Array.toList_inj.1 e)
end Go.Proofs.Ytpcghjhalndbkaa

/- Arguments that are strings. -/
import Derived.Test.YtdlkobmlnpijgaaDoorOpen
import Derived.ChangeMaps5
namespace Go.Proofs.YtdlkobmlnpijgaaDoor
open Go.ChangeShapes Go.WideShapes Go.ChangeAt Go.RowKit
set_option linter.unusedVariables false
set_option linter.unusedSimpArgs false
set_option maxRecDepth 100000
section
variable {H : Type} {enc : TypeId × Value → H} {W : World} {held : Bool}
theorem open_Str {b0 : Nat} {v : Value} {d : DataW H} {p : List MemPlace} (hval : Value.okWide Tryd.prog W .any b0 9 v)
    (h : DataW.Trod enc Tryd.prog W 0 (fun _ => true) held 9 v d p) (hw : ∀ n ∈ d.weights Tryd.prog 9, n ≤ reachBytes) :
    ∃ s : ByteArray, (v = .string s ∧ s.size ≤ 140737488351232) ∧ 0 ≤ Rows.uptoBulk d := by
  obtain ⟨s, rfl, hd, _, _⟩ := Go.ChangeMaps.open_string Tryd.underlying9 hval h
  refine ⟨s, ⟨rfl, ?_⟩, Nat.zero_le _⟩
  have := hw s.data.toList.length (by rw [hd]; simp [DataW.weights])
  unfold reachBytes at this
  simp at this
  exact this
end
end Go.Proofs.YtdlkobmlnpijgaaDoor

/- Chapter 11's arguments: raw numbers. -/
import Derived.Test.YteenglgnakenmaaDoorOpen
import Derived.Test.YteenglgnakenmaaDoorHItA
import Derived.Deep.Strs
namespace Go.Proofs.YteenglgnakenmaaDoor
open Go.ChangeShapes Go.WideShapes Go.ChangeAt Go.RowKit
set_option linter.unusedVariables false
set_option linter.unusedSimpArgs false
set_option maxRecDepth 100000
section
variable {H : Type} {enc : TypeId × Value → H} {W : World} {held : Bool}
theorem cellsRaw : Tryd.prog.cellsOf 44 = 4 := by kernel_rfl
theorem cellsI11 : Tryd.prog.cellsOf 3 = 1 := by kernel_rfl
theorem four {l : List Value} (h : l.length = 4) : ∃ a b c d, l = [a, b, c, d] := by
  match l, h with
  | [a, b, c, d], _ => exact ⟨a, b, c, d, rfl⟩
theorem raw_el (n : Nat) (cs : List Value) (d : DataW H) (p : List MemPlace) (h : DataW.trod enc Tryd.prog W 0 (fun _ => true) held n 44 cs = some (d, p)) (hw : ∀ q ∈ d.weights Tryd.prog 44, q ≤ reachBytes) :
    ∃ x : RawD, RawR cs x ∧ 0 ≤ Rows.uptoBulk d := by
  obtain ⟨xs, m, _, hx, hl, hlen, hf⟩ := DataW.trod_struct Tryd.underlying44 h
  rw [cellsRaw] at hl
  obtain ⟨c0, c1, c2, c3, rfl⟩ := four hl
  have h0 : DataW.trod enc Tryd.prog W 0 (fun _ => true) held m 3 [c0] = xs[0]? := by simpa [cellsI11] using hf 0 _ rfl
  have h1 : DataW.trod enc Tryd.prog W 0 (fun _ => true) held m 3 [c1] = xs[1]? := by simpa [cellsI11] using hf 1 _ rfl
  have h2 : DataW.trod enc Tryd.prog W 0 (fun _ => true) held m 3 [c2] = xs[2]? := by simpa [cellsI11] using hf 2 _ rfl
  have h3 : DataW.trod enc Tryd.prog W 0 (fun _ => true) held m 3 [c3] = xs[3]? := by simpa [cellsI11] using hf 3 _ rfl
  have hlen' : xs.length = 4 := by simpa using hlen
  rw [List.getElem?_eq_getElem (by omega)] at h0 h1 h2 h3
  obtain ⟨z0, e0, _, w0⟩ := DataW.trod_int Tryd.underlying3 h0
  obtain ⟨z1, e1, _, w1⟩ := DataW.trod_int Tryd.underlying3 h1
  obtain ⟨z2, e2, _, w2⟩ := DataW.trod_int Tryd.underlying3 h2
  obtain ⟨z3, e3, _, w3⟩ := DataW.trod_int Tryd.underlying3 h3
  simp at e0 e1 e2 e3
  subst e0 e1 e2 e3
  exact ⟨⟨z0, z1, z2, z3⟩, ⟨rfl, bounds_i64 w0, bounds_i64 w1, bounds_i64 w2, bounds_i64 w3⟩, Nat.zero_le _⟩
theorem open_Raw {b0 : Nat} {v : Value} {d : DataW H} {p : List MemPlace} (hval : Value.okWide Tryd.prog W .any b0 44 v)
    (h : DataW.Trod enc Tryd.prog W 0 (fun _ => true) held 44 v d p) (hw : ∀ n ∈ d.weights Tryd.prog 44, n ≤ reachBytes) :
    ∃ x : RawD, (v = .agg x.cells ∧ x.ok) ∧ 0 ≤ Rows.uptoBulk d := by
  obtain ⟨cs, rfl, _⟩ := okWide_struct Tryd.underlying44 hval
  obtain ⟨fuel, hf⟩ := h
  obtain ⟨x, ⟨h1, h2⟩, h3⟩ := raw_el fuel _ d p hf hw
  refine ⟨x, ⟨?_, h2⟩, h3⟩
  have : cs.toList = x.cells.toList := h1
  rw [Array.toList_inj.1 this]
end
theorem Raws.rd {w : World} {v : Value} {l : List RawD} (h : ArgSl 4 RawR w v l) : ∃ a n c, v = .slice a n c ∧ ArgSl 4 RawR w (.slice a n c) l := by
  obtain ⟨a, n, c, rfl, rest⟩ := h
  exact ⟨a, n, c, rfl, a, n, c, rfl, rest⟩
end Go.Proofs.YteenglgnakenmaaDoor

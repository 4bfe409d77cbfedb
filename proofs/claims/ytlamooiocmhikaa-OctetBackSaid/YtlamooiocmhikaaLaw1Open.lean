/- Chapter 1's arguments: steps that came in. -/
import Derived.Test.YtlamooiocmhikaaOpen
import Derived.Test.YtlamooiocmhikaaLaw1
import Derived.Deep.Strs
namespace Go.Proofs.Ytlamooiocmhikaa
open Go.ChangeShapes Go.WideShapes Go.ChangeAt Go.RowKit
set_option linter.unusedVariables false
set_option linter.unusedSimpArgs false
section
variable {H : Type} {enc : TypeId × Value → H} {W : World} {held : Bool}
theorem three {l : List Value} (h : l.length = 3) : ∃ a b c, l = [a, b, c] := by
  match l, h with
  | [a, b, c], _ => exact ⟨a, b, c, rfl⟩
theorem cellsStep : Try.prog.cellsOf 32 = 3 := by kernel_rfl
theorem cellsI : Try.prog.cellsOf 3 = 1 := by kernel_rfl
theorem cellsU : Try.prog.cellsOf 30 = 1 := by kernel_rfl
theorem cellsS : Try.prog.cellsOf 27 = 1 := by kernel_rfl
theorem step_el (n : Nat) (cs : List Value) (d : DataW H) (p : List MemPlace) (h : DataW.trod enc Try.prog W 0 (fun _ => true) held n 32 cs = some (d, p)) (hw : ∀ q ∈ d.weights Try.prog 32, q ≤ reachBytes) :
    ∃ x : StepD, StepR W cs x ∧ x.b.length ≤ Rows.uptoBulk d := by
  obtain ⟨y0, y1, y2, m, hx, hl, h0, h1, h2⟩ := Deep.trod_struct3 Try.underlying32 h
  simp only [Prod.mk.injEq] at hx
  obtain ⟨rfl, _⟩ := hx
  rw [cellsStep] at hl
  obtain ⟨c0, c1, c2, rfl⟩ := three hl
  simp only [List.drop_zero, List.drop_succ_cons, cellsI, cellsU, cellsS, List.take_succ_cons, List.take_zero] at h0 h1 h2
  obtain ⟨z0, e0, e0', _⟩ := DataW.trod_int Try.underlying3 h0
  obtain ⟨z1, e1, e1', w1⟩ := DataW.trod_int Try.underlying30 h1
  obtain ⟨v2, l2, e2, a2, b2⟩ := core_argB (d := y2.1) (p := y2.2) h2 (fun q hq => hw q (by
    simp only [DataW.weights, Try.underlying32]
    simp only [List.map_cons, List.map_nil, DataW.weightsEach, List.mem_append]
    exact .inr (.inr (.inl hq))))
  simp at e0 e1 e2
  subst e0 e1 e2
  have hb := bounds_u64 w1
  refine ⟨⟨z0, z1.toNat, l2⟩, ⟨_, by simp; omega, a2, by show z1.toNat < _; omega⟩, ?_⟩
  simp only [Rows.uptoBulk, Rows.uptoBulkAll]
  show l2.length ≤ _
  omega
theorem open_Steps {b0 : Nat} {v : Value} {d : DataW H} {p : List MemPlace} (hval : Value.okWide Try.prog W .any b0 22 v)
    (h : DataW.Trod enc Try.prog W 0 (fun _ => true) held 22 v d p) (hw : ∀ n ∈ d.weights Try.prog 22, n ≤ reachBytes) :
    ∃ l, ArgSl 3 (StepR W) W v l ∧ (∀ x ∈ l, x.b.length ≤ Rows.uptoBulk d) :=
  let ⟨l, h1, h2, _⟩ := open_sl Try.underlying22 cellsStep (by decide) (show 1 ≤ Try.prog.bytesOf 32 from by
    have e : Try.prog.bytesOf 32 = 40 := by kernel_rfl
    omega) (StepR W) (fun s => s.b.length) step_el hval h hw
  ⟨l, h1, h2⟩
end
end Go.Proofs.Ytlamooiocmhikaa

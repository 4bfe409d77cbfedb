/- Chapter 3's arguments. -/
import Derived.Test.YthcjiiknhldgoaaOpen
import Derived.Test.YthcjiiknhldgoaaDisk5
import Derived.Deep.Strs
namespace Go.Proofs.Ythcjiiknhldgoaa
open Go.ChangeShapes Go.WideShapes Go.ChangeAt Go.RowKit
set_option linter.unusedVariables false
set_option linter.unusedSimpArgs false
def IntR (cs : List Value) (z : Int) : Prop := cs = [.int .i64 z] ∧ -9223372036854775808 ≤ z ∧ z ≤ 9223372036854775807
def BoolR (cs : List Value) (b : Bool) : Prop := cs = [.bool b]
/-- At and N of a step -/
def StepR (cs : List Value) (x : Int × Int) : Prop := ∃ v0 v3 v4, cs = [v0, .int .i64 x.1, .int .i64 x.2, v3, v4] ∧ (-9223372036854775808 ≤ x.1 ∧ x.1 ≤ 9223372036854775807) ∧ (-9223372036854775808 ≤ x.2 ∧ x.2 ≤ 9223372036854775807)
section
variable {H : Type} {enc : TypeId × Value → H} {W : World} {held : Bool}
theorem int_el (n : Nat) (cs : List Value) (d : DataW H) (p : List MemPlace) (h : DataW.trod enc Try.prog W 0 (fun _ => true) held n 3 cs = some (d, p)) (hw : ∀ q ∈ d.weights Try.prog 3, q ≤ reachBytes) :
    ∃ z, IntR cs z ∧ 0 ≤ Rows.uptoBulk d := by
  obtain ⟨z0, e0, e0', w0⟩ := DataW.trod_int Try.underlying3 h
  exact ⟨z0, ⟨e0, bounds_i64 w0⟩, Nat.zero_le _⟩
theorem bool_el (n : Nat) (cs : List Value) (d : DataW H) (p : List MemPlace) (h : DataW.trod enc Try.prog W 0 (fun _ => true) held n 4 cs = some (d, p)) (hw : ∀ q ∈ d.weights Try.prog 4, q ≤ reachBytes) :
    ∃ b, BoolR cs b ∧ 0 ≤ Rows.uptoBulk d := by
  obtain ⟨b, e0, _⟩ := DataW.trod_bool Try.underlying4 h
  exact ⟨b, e0, Nat.zero_le _⟩
theorem cellsStep : Try.prog.cellsOf 44 = 5 := by kernel_rfl
theorem cellsI : Try.prog.cellsOf 3 = 1 := by kernel_rfl
theorem cellsBo : Try.prog.cellsOf 4 = 1 := by kernel_rfl
theorem five {l : List Value} (h : l.length = 5) : ∃ a b c d e, l = [a, b, c, d, e] := by
  match l, h with
  | [a, b, c, d, e], _ => exact ⟨a, b, c, d, e, rfl⟩
theorem step_el (n : Nat) (cs : List Value) (d : DataW H) (p : List MemPlace) (h : DataW.trod enc Try.prog W 0 (fun _ => true) held n 44 cs = some (d, p)) (hw : ∀ q ∈ d.weights Try.prog 44, q ≤ reachBytes) :
    ∃ x : Int × Int, StepR cs x ∧ 0 ≤ Rows.uptoBulk d := by
  obtain ⟨xs, m, _, hx, hl, hlen, hf⟩ := DataW.trod_struct Try.underlying44 h
  rw [cellsStep] at hl
  obtain ⟨c0, c1, c2, c3, c4, rfl⟩ := five hl
  have h1 : DataW.trod enc Try.prog W 0 (fun _ => true) held m 3 [c1] = xs[1]? := by simpa [cellsI] using hf 1 _ rfl
  have h2 : DataW.trod enc Try.prog W 0 (fun _ => true) held m 3 [c2] = xs[2]? := by simpa [cellsI] using hf 2 _ rfl
  have hlen' : xs.length = 5 := by simpa using hlen
  rw [List.getElem?_eq_getElem (by omega)] at h1 h2
  obtain ⟨z1, e1, _, w1⟩ := DataW.trod_int Try.underlying3 h1
  obtain ⟨z2, e2, _, w2⟩ := DataW.trod_int Try.underlying3 h2
  simp at e1 e2
  subst e1 e2
  exact ⟨(z1, z2), ⟨_, _, _, rfl, bounds_i64 w1, bounds_i64 w2⟩, Nat.zero_le _⟩
theorem open_Ints {b0 : Nat} {v : Value} {d : DataW H} {p : List MemPlace} (hval : Value.okWide Try.prog W .any b0 22 v)
    (h : DataW.Trod enc Try.prog W 0 (fun _ => true) held 22 v d p) (hw : ∀ n ∈ d.weights Try.prog 22, n ≤ reachBytes) :
    ∃ l : List Int, ArgSl 1 IntR W v l ∧ 0 ≤ Rows.uptoBulk d :=
  let ⟨l, h1, h2, _⟩ := open_sl Try.underlying22 cellsI (by decide) (show 1 ≤ Try.prog.bytesOf 3 from by
    have e : Try.prog.bytesOf 3 = 8 := by kernel_rfl
    omega) IntR (fun s => 0) int_el hval h hw
  ⟨l, h1, Nat.zero_le _⟩
theorem open_Bools {b0 : Nat} {v : Value} {d : DataW H} {p : List MemPlace} (hval : Value.okWide Try.prog W .any b0 23 v)
    (h : DataW.Trod enc Try.prog W 0 (fun _ => true) held 23 v d p) (hw : ∀ n ∈ d.weights Try.prog 23, n ≤ reachBytes) :
    ∃ l : List Bool, ArgSl 1 BoolR W v l ∧ 0 ≤ Rows.uptoBulk d :=
  let ⟨l, h1, h2, _⟩ := open_sl Try.underlying23 cellsBo (by decide) (show 1 ≤ Try.prog.bytesOf 4 from by
    have e : Try.prog.bytesOf 4 = 1 := by kernel_rfl
    omega) BoolR (fun s => 0) bool_el hval h hw
  ⟨l, h1, Nat.zero_le _⟩
theorem open_Steps {b0 : Nat} {v : Value} {d : DataW H} {p : List MemPlace} (hval : Value.okWide Try.prog W .any b0 41 v)
    (h : DataW.Trod enc Try.prog W 0 (fun _ => true) held 41 v d p) (hw : ∀ n ∈ d.weights Try.prog 41, n ≤ reachBytes) :
    ∃ l : List (Int × Int), ArgSl 5 StepR W v l ∧ 0 ≤ Rows.uptoBulk d :=
  let ⟨l, h1, h2, _⟩ := open_sl Try.underlying41 cellsStep (by decide) (show 1 ≤ Try.prog.bytesOf 44 from by
    have e : Try.prog.bytesOf 44 = 72 := by kernel_rfl
    omega) StepR (fun s => 0) step_el hval h hw
  ⟨l, h1, Nat.zero_le _⟩
end
theorem IntR.rd {w : World} {v : Value} {l : List Int} (h : ArgSl 1 IntR w v l) : ∃ a n c, v = .slice a n c ∧ RdC w a n (ints l) ∧ ∀ z ∈ l, -9223372036854775808 ≤ z ∧ z ≤ 9223372036854775807 := by
  obtain ⟨a, n, c, rfl, hl, _, _, _, hc⟩ := h
  refine ⟨a, n, c, rfl, ⟨by simp [ints, hl], fun j hj => ?_⟩, fun z hz => ?_⟩
  · obtain ⟨b, off, cs, ha, _⟩ := hc j hj
    refine ⟨b, off, ha, fun i u hu => ?_⟩
    simp only [ints, List.getElem?_map] at hu
    by_cases hi : i < n
    · have hil : i < l.length := by omega
      obtain ⟨b', off', cs, ha', h1, h2, h3⟩ := hc i hi
      rw [ha] at ha'; cases ha'
      have h4 := h2 0 (by omega)
      rw [h3.1, Nat.mul_one, Nat.add_zero] at h4
      rw [h4]
      rw [List.getElem?_eq_getElem hil] at hu
      rw [← hu, List.getD_eq_getElem?_getD, List.getElem?_eq_getElem hil]
      rfl
    · rw [List.getElem?_eq_none (by omega)] at hu
      cases hu
  · obtain ⟨i, hi, rfl⟩ := List.mem_iff_getElem.1 hz
    obtain ⟨_, _, _, _, _, _, h3⟩ := hc i (by omega)
    rw [List.getD_eq_getElem?_getD, List.getElem?_eq_getElem hi] at h3
    exact h3.2
theorem BoolR.rd {w : World} {v : Value} {l : List Bool} (h : ArgSl 1 BoolR w v l) : ∃ a n c, v = .slice a n c ∧ RdC w a n (l.map fun z => .bool z) := by
  obtain ⟨a, n, c, rfl, hl, _, _, _, hc⟩ := h
  refine ⟨a, n, c, rfl, ⟨by simp [hl], fun j hj => ?_⟩⟩
  obtain ⟨b, off, cs, ha, _⟩ := hc j hj
  refine ⟨b, off, ha, fun i u hu => ?_⟩
  simp only [List.getElem?_map] at hu
  by_cases hi : i < n
  · have hil : i < l.length := by omega
    obtain ⟨b', off', cs, ha', h1, h2, h3⟩ := hc i hi
    rw [ha] at ha'; cases ha'
    have h4 := h2 0 (by omega)
    rw [h3, Nat.mul_one, Nat.add_zero] at h4
    rw [h4]
    rw [List.getElem?_eq_getElem hil] at hu
    rw [← hu, List.getD_eq_getElem?_getD, List.getElem?_eq_getElem hil]
    rfl
  · rw [List.getElem?_eq_none (by omega)] at hu
    cases hu
end Go.Proofs.Ythcjiiknhldgoaa

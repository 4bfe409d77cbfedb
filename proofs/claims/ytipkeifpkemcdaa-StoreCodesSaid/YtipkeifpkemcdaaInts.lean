/- Arguments that are []int. -/
import Derived.Test.YtipkeifpkemcdaaOpen
import Derived.Deep.Strs
namespace Go.Proofs.Ytipkeifpkemcdaa
open Go.ChangeShapes Go.WideShapes Go.ChangeAt Go.RowKit
set_option linter.unusedVariables false
set_option linter.unusedSimpArgs false
set_option maxRecDepth 100000
def IntR (cs : List Value) (z : Int) : Prop := cs = [.int .i64 z] ∧ -9223372036854775808 ≤ z ∧ z ≤ 9223372036854775807
section
variable {H : Type} {enc : TypeId × Value → H} {W : World} {held : Bool}
theorem int_el (n : Nat) (cs : List Value) (d : DataW H) (p : List MemPlace) (h : DataW.trod enc Try.prog W 0 (fun _ => true) held n 3 cs = some (d, p)) (hw : ∀ q ∈ d.weights Try.prog 3, q ≤ reachBytes) :
    ∃ z, IntR cs z ∧ 0 ≤ Rows.uptoBulk d := by
  obtain ⟨z0, e0, e0', w0⟩ := DataW.trod_int Try.underlying3 h
  exact ⟨z0, ⟨e0, bounds_i64 w0⟩, Nat.zero_le _⟩
theorem cellsI : Try.prog.cellsOf 3 = 1 := by kernel_rfl
theorem open_Ints {b0 : Nat} {v : Value} {d : DataW H} {p : List MemPlace} (hval : Value.okWide Try.prog W .any b0 45 v)
    (h : DataW.Trod enc Try.prog W 0 (fun _ => true) held 45 v d p) (hw : ∀ n ∈ d.weights Try.prog 45, n ≤ reachBytes) :
    ∃ l : List Int, ArgSl 1 IntR W v l ∧ 0 ≤ Rows.uptoBulk d :=
  let ⟨l, h1, h2, _⟩ := open_sl Try.underlying45 cellsI (by decide) (show 1 ≤ Try.prog.bytesOf 3 from by
    have e : Try.prog.bytesOf 3 = 8 := by kernel_rfl
    omega) IntR (fun s => 0) int_el hval h hw
  ⟨l, h1, Nat.zero_le _⟩
end
theorem Ints.rd {w : World} {v : Value} {l : List Int} (h : ArgSl 1 IntR w v l) : ∃ a n c, v = .slice a n c ∧ ArgSl 1 IntR w (.slice a n c) l := by
  obtain ⟨a, n, c, rfl, rest⟩ := h
  exact ⟨a, n, c, rfl, a, n, c, rfl, rest⟩
theorem Ints.get {w : World} {aL : Option Addr} {nL cL : Nat} {l : List Int} (h : ArgSl 1 IntR w (.slice aL nL cL) l) {k : Nat} (hk : k < nL) :
    ∃ b off z, aL = some ⟨b, off, none⟩ ∧ l[k]? = some z ∧ (-9223372036854775808 ≤ z ∧ z ≤ 9223372036854775807) ∧ w.cell? ⟨b, off + k, none⟩ = some (.int .i64 z) := by
  obtain ⟨a, n, c, hv, hl, _, _, _, hc⟩ := h
  simp only [Value.slice.injEq] at hv
  obtain ⟨rfl, rfl, rfl⟩ := hv
  obtain ⟨b, off, cs, ha, h1, h2, h3, h4⟩ := hc k hk
  refine ⟨b, off, l.getD k default, ha, ?_, h4, ?_⟩
  · rw [List.getD_eq_getElem?_getD, List.getElem?_eq_getElem (by omega)]; rfl
  · have := h2 0 (by omega); rw [h3] at this; simpa using this
theorem Ints.len {w : World} {aL : Option Addr} {nL cL : Nat} {l : List Int} (h : ArgSl 1 IntR w (.slice aL nL cL) l) : l.length = nL ∧ nL ≤ cL ∧ cL ≤ 140737488355328 := by
  obtain ⟨a, n, c, hv, hl, h1, h2, _⟩ := h
  simp only [Value.slice.injEq] at hv
  obtain ⟨rfl, rfl, rfl⟩ := hv
  exact ⟨hl, h1, h2⟩
end Go.Proofs.Ytipkeifpkemcdaa

/- Chapter 6's arguments: rows. -/
import Derived.Test.YtmpajhacigjloaaDoorOpen
import Derived.Test.YtmpajhacigjloaaDoorTree6
namespace Go.Proofs.YtmpajhacigjloaaDoor
open Go.ChangeShapes Go.WideShapes Go.ChangeAt Go.RowKit
set_option linter.unusedVariables false
set_option linter.unusedSimpArgs false
set_option maxRecDepth 100000
/-- What a row's cells read as. -/
def R6R (W : World) (cs : List Value) (y : R6) : Prop := cs = y.cells ∧ y.ok W
section
variable {H : Type} {enc : TypeId × Value → H} {W : World} {held : Bool}
theorem cells6 : Tryd.prog.cellsOf 54 = 6 := by kernel_rfl
theorem cellsS6 : Tryd.prog.cellsOf 23 = 1 := by kernel_rfl
theorem cellsI6 : Tryd.prog.cellsOf 3 = 1 := by kernel_rfl
theorem cellsJ6 : Tryd.prog.cellsOf 2 = 1 := by kernel_rfl
theorem six {l : List Value} (h : l.length = 6) : ∃ a b c d e f, l = [a, b, c, d, e, f] := by
  match l, h with
  | [a, b, c, d, e, f], _ => exact ⟨a, b, c, d, e, f, rfl⟩
theorem r6_el (n : Nat) (cs : List Value) (d : DataW H) (p : List MemPlace) (h : DataW.trod enc Tryd.prog W 0 (fun _ => true) held n 54 cs = some (d, p)) (hw : ∀ q ∈ d.weights Tryd.prog 54, q ≤ reachBytes) :
    ∃ x : R6, R6R W cs x ∧ 0 ≤ Rows.uptoBulk d := by
  obtain ⟨xs, m, hxe, hx, hl, hlen, hf⟩ := DataW.trod_struct Tryd.underlying54 h
  rw [cells6] at hl
  obtain ⟨c0, c1, c2, c3, c4, c5, rfl⟩ := six hl
  have h0 : DataW.trod enc Tryd.prog W 0 (fun _ => true) held m 3 [c0] = xs[0]? := by simpa [cellsI6] using hf 0 _ rfl
  have h1 : DataW.trod enc Tryd.prog W 0 (fun _ => true) held m 3 [c1] = xs[1]? := by simpa [cellsI6] using hf 1 _ rfl
  have h2 : DataW.trod enc Tryd.prog W 0 (fun _ => true) held m 3 [c2] = xs[2]? := by simpa [cellsI6] using hf 2 _ rfl
  have h3 : DataW.trod enc Tryd.prog W 0 (fun _ => true) held m 2 [c3] = xs[3]? := by simpa [cellsJ6] using hf 3 _ rfl
  have h4 : DataW.trod enc Tryd.prog W 0 (fun _ => true) held m 23 [c4] = xs[4]? := by simpa [cellsS6] using hf 4 _ rfl
  have h5 : DataW.trod enc Tryd.prog W 0 (fun _ => true) held m 3 [c5] = xs[5]? := by simpa [cellsI6] using hf 5 _ rfl
  have hlen' : xs.length = 6 := by simpa using hlen
  match xs, hlen' with
  | [y0, y1, y2, y3, y4, y5], _ =>
    simp only [List.getElem?_cons_zero, List.getElem?_cons_succ] at h0 h1 h2 h3 h4 h5
    obtain ⟨z0, e0, _, w0⟩ := DataW.trod_int Tryd.underlying3 h0
    obtain ⟨z1, e1, _, w1⟩ := DataW.trod_int Tryd.underlying3 h1
    obtain ⟨z2, e2, _, w2⟩ := DataW.trod_int Tryd.underlying3 h2
    obtain ⟨z3, e3, _, w3⟩ := DataW.trod_int Tryd.underlying2 h3
    obtain ⟨v4, l4, e4, ⟨a, n4, c, rfl, hr, hn, hc, hz⟩, _⟩ := core_argB (d := y4.1) (p := y4.2) h4 (fun q hq => hw q (by
      have hd := congrArg Prod.fst hx
      simp only at hd
      rw [hd]
      simp only [DataW.weights, Tryd.underlying54]
      simp only [List.map_cons, List.map_nil, DataW.weightsEach, List.mem_append]
      simp [hq]))
    obtain ⟨z5, e5, _, w5⟩ := DataW.trod_int Tryd.underlying3 h5
    simp at e0 e1 e2 e3 e4 e5
    subst e0 e1 e2 e3 e4 e5
    exact ⟨⟨z0, z1, z2, z3, a, n4, c, l4, z5⟩, ⟨rfl, ⟨bounds_i64 w3, hr, hn, hc, hz⟩⟩, Nat.zero_le _⟩
theorem open_R6s {b0 : Nat} {v : Value} {d : DataW H} {p : List MemPlace} (hval : Value.okWide Tryd.prog W .any b0 22 v)
    (h : DataW.Trod enc Tryd.prog W 0 (fun _ => true) held 22 v d p) (hw : ∀ n ∈ d.weights Tryd.prog 22, n ≤ reachBytes) :
    ∃ l : List R6, ArgSl 6 (R6R W) W v l ∧ 0 ≤ Rows.uptoBulk d :=
  let ⟨l, h1, h2, _⟩ := open_sl Tryd.underlying22 cells6 (by decide) (show 1 ≤ Tryd.prog.bytesOf 54 from by
    have e : 1 ≤ Tryd.prog.bytesOf 54 := by decide
    omega) (R6R W) (fun s => 0) r6_el hval h hw
  ⟨l, h1, Nat.zero_le _⟩
end
theorem R6s.rd {w : World} {v : Value} {l : List R6} (h : ArgSl 6 (R6R w) w v l) : ∃ a n c, v = .slice a n c ∧ R6Args w a n l := by
  obtain ⟨a, n, c, rfl, hl, hn, hc, hz, hrow⟩ := h
  refine ⟨a, n, c, rfl, hl, by omega, fun k hk => ?_⟩
  obtain ⟨b, off, cs, ha, h1, h2, h3, h4⟩ := hrow k hk
  refine ⟨b, off, l.getD k default, ha, ?_, fun j v hv => ?_, h4⟩
  · rw [List.getD_eq_getElem?_getD, List.getElem?_eq_getElem (by omega)]; rfl
  · have hj : j < 6 := by
      rcases Nat.lt_or_ge j 6 with h' | h'
      · exact h'
      · rw [List.getElem?_eq_none (by show 6 ≤ j; exact h')] at hv; cases hv
    rw [h2 j hj, h3]; exact hv
end Go.Proofs.YtmpajhacigjloaaDoor

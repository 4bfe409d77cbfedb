/- Chapter 17's arguments: rows. -/
import Derived.Test.YteenglgnakenmaaDoorRawOpen
import Derived.Test.YteenglgnakenmaaDoorRespOf
namespace Go.Proofs.YteenglgnakenmaaDoor
open Go.ChangeShapes Go.WideShapes Go.ChangeAt Go.RowKit
set_option linter.unusedVariables false
set_option linter.unusedSimpArgs false
set_option maxRecDepth 100000
/-- What a row's cells read as. -/
def RwR (W : World) (cs : List Value) (y : RwD) : Prop := cs = y.cells ∧ y.ok W
instance : Inhabited RwD := ⟨{}⟩
section
variable {H : Type} {enc : TypeId × Value → H} {W : World} {held : Bool}
theorem cellsRw : Tryd.prog.cellsOf 46 = 10 := by kernel_rfl
theorem cellsS17 : Tryd.prog.cellsOf 27 = 1 := by kernel_rfl
theorem cellsStr17 : Tryd.prog.cellsOf 9 = 1 := by kernel_rfl
theorem ten {l : List Value} (h : l.length = 10) : ∃ a b c d e f g i j k, l = [a, b, c, d, e, f, g, i, j, k] := by
  match l, h with
  | [a, b, c, d, e, f, g, i, j, k], _ => exact ⟨a, b, c, d, e, f, g, i, j, k, rfl⟩
theorem rw_el (n : Nat) (cs : List Value) (d : DataW H) (p : List MemPlace) (h : DataW.trod enc Tryd.prog W 0 (fun _ => true) held n 46 cs = some (d, p)) (hw : ∀ q ∈ d.weights Tryd.prog 46, q ≤ reachBytes) :
    ∃ x : RwD, RwR W cs x ∧ 0 ≤ Rows.uptoBulk d := by
  obtain ⟨xs, m, hxe, hx, hl, hlen, hf⟩ := DataW.trod_struct Tryd.underlying46 h
  rw [cellsRw] at hl
  obtain ⟨c0, c1, c2, c3, c4, c5, c6, c7, c8, c9, rfl⟩ := ten hl
  have h0 : DataW.trod enc Tryd.prog W 0 (fun _ => true) held m 3 [c0] = xs[0]? := by simpa [cellsI11] using hf 0 _ rfl
  have h1 : DataW.trod enc Tryd.prog W 0 (fun _ => true) held m 3 [c1] = xs[1]? := by simpa [cellsI11] using hf 1 _ rfl
  have h2 : DataW.trod enc Tryd.prog W 0 (fun _ => true) held m 3 [c2] = xs[2]? := by simpa [cellsI11] using hf 2 _ rfl
  have h3 : DataW.trod enc Tryd.prog W 0 (fun _ => true) held m 3 [c3] = xs[3]? := by simpa [cellsI11] using hf 3 _ rfl
  have h4 : DataW.trod enc Tryd.prog W 0 (fun _ => true) held m 27 [c4] = xs[4]? := by simpa [cellsS17] using hf 4 _ rfl
  have h5 : DataW.trod enc Tryd.prog W 0 (fun _ => true) held m 9 [c5] = xs[5]? := by simpa [cellsStr17] using hf 5 _ rfl
  have h6 : DataW.trod enc Tryd.prog W 0 (fun _ => true) held m 44 [c6, c7, c8, c9] = xs[6]? := by simpa [cellsRaw] using hf 6 _ rfl
  have hlen' : xs.length = 7 := by simpa using hlen
  match xs, hlen' with
  | [y0, y1, y2, y3, y4, y5, y6], _ =>
    simp only [List.getElem?_cons_zero, List.getElem?_cons_succ] at h0 h1 h2 h3 h4 h5 h6
    obtain ⟨z0, e0, _, w0⟩ := DataW.trod_int Tryd.underlying3 h0
    obtain ⟨z1, e1, _, w1⟩ := DataW.trod_int Tryd.underlying3 h1
    obtain ⟨z2, e2, _, w2⟩ := DataW.trod_int Tryd.underlying3 h2
    obtain ⟨z3, e3, _, w3⟩ := DataW.trod_int Tryd.underlying3 h3
    obtain ⟨v4, l4, e4, ⟨a, n4, c, rfl, hr, hn, hc, hz⟩, _⟩ := core_argB (d := y4.1) (p := y4.2) h4 (fun q hq => hw q (by
      have hd := congrArg Prod.fst hx
      simp only at hd
      rw [hd]
      simp only [DataW.weights, Tryd.underlying46]
      simp only [List.map_cons, List.map_nil, DataW.weightsEach, List.mem_append]
      simp [hq]))
    obtain ⟨s5, e5, _, w5⟩ := DataW.trod_string Tryd.underlying9 h5
    obtain ⟨x6, ⟨e6, _⟩, _⟩ := raw_el m _ y6.1 y6.2 h6 (fun q hq => hw q (by
      have hd := congrArg Prod.fst hx
      simp only at hd
      rw [hd]
      simp only [DataW.weights, Tryd.underlying46]
      simp only [List.map_cons, List.map_nil, DataW.weightsEach, List.mem_append]
      simp [hq]))
    simp [RawD.cells] at e0 e1 e2 e3 e4 e5 e6
    obtain ⟨e6, e7, e8, e9⟩ := e6
    subst e0 e1 e2 e3 e4 e5 e6 e7 e8 e9
    exact ⟨⟨z0, z1, z2, z3, a, n4, c, l4, s5, x6.kind, x6.a, x6.b, x6.c⟩, ⟨rfl, ⟨bounds_i64 w2, bounds_i64 w3, hr, hn, hc, hz⟩⟩, Nat.zero_le _⟩
theorem open_Rws {b0 : Nat} {v : Value} {d : DataW H} {p : List MemPlace} (hval : Value.okWide Tryd.prog W .any b0 22 v)
    (h : DataW.Trod enc Tryd.prog W 0 (fun _ => true) held 22 v d p) (hw : ∀ n ∈ d.weights Tryd.prog 22, n ≤ reachBytes) :
    ∃ l : List RwD, ArgSl 10 (RwR W) W v l ∧ 0 ≤ Rows.uptoBulk d :=
  let ⟨l, h1, h2, _⟩ := open_sl Tryd.underlying22 cellsRw (by decide) (show 1 ≤ Tryd.prog.bytesOf 46 from by
    have e : 1 ≤ Tryd.prog.bytesOf 46 := by decide
    omega) (RwR W) (fun s => 0) rw_el hval h hw
  ⟨l, h1, Nat.zero_le _⟩
end
theorem Rws.rd {w : World} {v : Value} {l : List RwD} (h : ArgSl 10 (RwR w) w v l) : ∃ a n c, v = .slice a n c ∧ RwArgs w a n l := by
  obtain ⟨a, n, c, rfl, hl, hn, hc, hz, hrow⟩ := h
  refine ⟨a, n, c, rfl, hl, by omega, fun k hk => ?_⟩
  obtain ⟨b, off, cs, ha, h1, h2, h3, h4⟩ := hrow k hk
  refine ⟨b, off, l.getD k default, ha, ?_, fun j v hv => ?_, h4⟩
  · rw [List.getD_eq_getElem?_getD, List.getElem?_eq_getElem (by omega)]; rfl
  · have hj : j < 10 := by
      rcases Nat.lt_or_ge j 10 with h' | h'
      · exact h'
      · rw [List.getElem?_eq_none (by show 10 ≤ j; exact h')] at hv; cases hv
    rw [h2 j hj, h3]; exact hv
end Go.Proofs.YteenglgnakenmaaDoor

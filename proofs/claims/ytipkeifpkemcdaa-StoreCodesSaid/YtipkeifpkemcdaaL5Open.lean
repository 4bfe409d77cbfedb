/- Chapter 5's arguments: raw changes, changes. -/
import Derived.Test.YtipkeifpkemcdaaOpen
import Derived.Test.YtipkeifpkemcdaaSt5
namespace Go.Proofs.Ytipkeifpkemcdaa
open Go.ChangeShapes Go.WideShapes Go.ChangeAt Go.RowKit
set_option linter.unusedVariables false
set_option linter.unusedSimpArgs false
set_option maxRecDepth 100000
/-- What a raw change's cells read as. -/
def RwR (cs : List Value) (y : RawD) : Prop := cs = y.cells ∧ y.odd.size ≤ 9223372036854775807
/-- .. a change's. -/
def CgR (W : World) (cs : List Value) (y : ChD) : Prop := cs = y.cells ∧ y.ok W
section
variable {H : Type} {enc : TypeId × Value → H} {W : World} {held : Bool}
theorem cellsI5 : Try.prog.cellsOf 3 = 1 := by kernel_rfl
theorem cellsB5 : Try.prog.cellsOf 4 = 1 := by kernel_rfl
theorem cellsS5 : Try.prog.cellsOf 9 = 1 := by kernel_rfl
theorem cellsV5 : Try.prog.cellsOf 24 = 1 := by kernel_rfl
theorem five5 {l : List Value} (h : l.length = 5) : ∃ a b c d e, l = [a, b, c, d, e] := by
  match l, h with
  | [a, b, c, d, e], _ => exact ⟨a, b, c, d, e, rfl⟩
theorem three5 {l : List Value} (h : l.length = 3) : ∃ a b c, l = [a, b, c] := by
  match l, h with
  | [a, b, c], _ => exact ⟨a, b, c, rfl⟩
theorem cellsR5 : Try.prog.cellsOf 63 = 5 := by kernel_rfl
theorem rw_el (n : Nat) (cs : List Value) (d : DataW H) (p : List MemPlace) (h : DataW.trod enc Try.prog W 0 (fun _ => true) held n 63 cs = some (d, p)) (hw : ∀ q ∈ d.weights Try.prog 63, q ≤ reachBytes) :
    ∃ x : RawD, RwR cs x ∧ 0 ≤ Rows.uptoBulk d := by
  obtain ⟨xs, m, hxe, hx, hl, hlen, hf⟩ := DataW.trod_struct Try.underlying63 h
  rw [cellsR5] at hl
  obtain ⟨c0, c1, c2, c3, c4, rfl⟩ := five5 hl
  have h0 : DataW.trod enc Try.prog W 0 (fun _ => true) held m 3 [c0] = xs[0]? := by simpa [cellsI5] using hf 0 _ rfl
  have h1 : DataW.trod enc Try.prog W 0 (fun _ => true) held m 3 [c1] = xs[1]? := by simpa [cellsI5] using hf 1 _ rfl
  have h2 : DataW.trod enc Try.prog W 0 (fun _ => true) held m 3 [c2] = xs[2]? := by simpa [cellsI5] using hf 2 _ rfl
  have h3 : DataW.trod enc Try.prog W 0 (fun _ => true) held m 4 [c3] = xs[3]? := by simpa [cellsB5, cellsI5] using hf 3 _ rfl
  have h4 : DataW.trod enc Try.prog W 0 (fun _ => true) held m 9 [c4] = xs[4]? := by simpa [cellsS5, cellsB5, cellsI5] using hf 4 _ rfl
  have hlen' : xs.length = 5 := by simpa using hlen
  match xs, hlen' with
  | [y0, y1, y2, y3, y4], _ =>
    simp only [List.getElem?_cons_zero, List.getElem?_cons_succ] at h0 h1 h2 h3 h4
    obtain ⟨z0, e0, _, w0⟩ := DataW.trod_int Try.underlying3 h0
    obtain ⟨z1, e1, _, w1⟩ := DataW.trod_int Try.underlying3 h1
    obtain ⟨z2, e2, _, w2⟩ := DataW.trod_int Try.underlying3 h2
    obtain ⟨b3, e3, _⟩ := DataW.trod_bool Try.underlying4 h3
    obtain ⟨s4, e4, _, w4⟩ := DataW.trod_string Try.underlying9 h4
    simp at e0 e1 e2 e3 e4
    subst e0 e1 e2 e3 e4
    exact ⟨⟨z0, z1, z2, b3, s4⟩, ⟨rfl, by unfold maxLen at w4; exact w4⟩, Nat.zero_le _⟩
theorem open_Rws {b0 : Nat} {v : Value} {d : DataW H} {p : List MemPlace} (hval : Value.okWide Try.prog W .any b0 22 v)
    (h : DataW.Trod enc Try.prog W 0 (fun _ => true) held 22 v d p) (hw : ∀ n ∈ d.weights Try.prog 22, n ≤ reachBytes) :
    ∃ l : List RawD, ArgSl 5 RwR W v l ∧ 0 ≤ Rows.uptoBulk d :=
  let ⟨l, h1, h2, _⟩ := open_sl Try.underlying22 cellsR5 (by decide) (show 1 ≤ Try.prog.bytesOf 63 from by
    have e : 1 ≤ Try.prog.bytesOf 63 := by decide
    omega) RwR (fun s => 0) rw_el hval h hw
  ⟨l, h1, Nat.zero_le _⟩
theorem cellsC5 : Try.prog.cellsOf 59 = 3 := by kernel_rfl
theorem cg_el (n : Nat) (cs : List Value) (d : DataW H) (p : List MemPlace) (h : DataW.trod enc Try.prog W 0 (fun _ => true) held n 59 cs = some (d, p)) (hw : ∀ q ∈ d.weights Try.prog 59, q ≤ reachBytes) :
    ∃ x : ChD, CgR W cs x ∧ 0 ≤ Rows.uptoBulk d := by
  obtain ⟨xs, m, hxe, hx, hl, hlen, hf⟩ := DataW.trod_struct Try.underlying59 h
  rw [cellsC5] at hl
  obtain ⟨c0, c1, c2, rfl⟩ := three5 hl
  have h0 : DataW.trod enc Try.prog W 0 (fun _ => true) held m 9 [c0] = xs[0]? := by simpa [cellsS5] using hf 0 _ rfl
  have h1 : DataW.trod enc Try.prog W 0 (fun _ => true) held m 4 [c1] = xs[1]? := by simpa [cellsB5, cellsS5] using hf 1 _ rfl
  have h2 : DataW.trod enc Try.prog W 0 (fun _ => true) held m 24 [c2] = xs[2]? := by simpa [cellsV5, cellsB5, cellsS5] using hf 2 _ rfl
  have hlen' : xs.length = 3 := by simpa using hlen
  match xs, hlen' with
  | [y0, y1, y2], _ =>
    simp only [List.getElem?_cons_zero, List.getElem?_cons_succ] at h0 h1 h2
    obtain ⟨s0, e0, _, w0⟩ := DataW.trod_string Try.underlying9 h0
    obtain ⟨b1, e1, _⟩ := DataW.trod_bool Try.underlying4 h1
    obtain ⟨v2, l2, e2, ⟨a, n2, c, rfl, hr, hn, hc, hz⟩, _⟩ := core_argB (d := y2.1) (p := y2.2) h2 (fun q hq => hw q (by
      have hd := congrArg Prod.fst hx
      simp only at hd
      rw [hd]
      simp only [DataW.weights, Try.underlying59]
      simp only [List.map_cons, List.map_nil, DataW.weightsEach, List.mem_append]
      simp [hq]))
    simp at e0 e1 e2
    subst e0 e1 e2
    exact ⟨⟨s0, b1, a, n2, c, l2⟩, ⟨rfl, ⟨hr, hz, Nat.le_trans hn hc, by unfold maxLen at w0; exact w0⟩⟩, Nat.zero_le _⟩
theorem open_Cgs {b0 : Nat} {v : Value} {d : DataW H} {p : List MemPlace} (hval : Value.okWide Try.prog W .any b0 23 v)
    (h : DataW.Trod enc Try.prog W 0 (fun _ => true) held 23 v d p) (hw : ∀ n ∈ d.weights Try.prog 23, n ≤ reachBytes) :
    ∃ l : List ChD, ArgSl 3 (CgR W) W v l ∧ 0 ≤ Rows.uptoBulk d :=
  let ⟨l, h1, h2, _⟩ := open_sl Try.underlying23 cellsC5 (by decide) (show 1 ≤ Try.prog.bytesOf 59 from by
    have e : 1 ≤ Try.prog.bytesOf 59 := by decide
    omega) (CgR W) (fun s => 0) cg_el hval h hw
  ⟨l, h1, Nat.zero_le _⟩
end
theorem slice_lt5 {W : World} {b0 : Nat} {a : Option Addr} {n c : Nat} (h : Value.okWide Try.prog W .any b0 24 (.slice a n c)) : ∀ b off sp, a = some ⟨b, off, sp⟩ → b < W.heap.size := by
  intro b off sp e
  subst e
  have h2 : Cell.okWide Try.prog W .any b0 24 (.slice (some ⟨b, off, sp⟩) n c) := by
    unfold Value.okWide at h
    rw [Try.underlying24] at h
    exact h
  simp only [Cell.okWide, Try.underlying24, Cell.ok] at h2
  obtain ⟨_, _, _, _, row, cells, hs, _⟩ := h2
  unfold World.shape? at hs
  rcases Nat.lt_or_ge b W.heap.size with h' | h'
  · exact h'
  · rw [Array.getElem?_eq_none h'] at hs
    simp at hs
theorem Rws.rd {w : World} {v : Value} {l : List RawD} (h : ArgSl 5 RwR w v l) : ∃ a n c, v = .slice a n c ∧ RwA w a n l := by
  obtain ⟨a, n, c, rfl, hl, hn, hc, hz, hrow⟩ := h
  refine ⟨a, n, c, rfl, hl, by omega, fun k hk => ?_⟩
  obtain ⟨b, off, cs, ha, h1, h2, h3, h4⟩ := hrow k hk
  refine ⟨b, off, l.getD k default, ha, ?_, fun j v hv => ?_, h4⟩
  · rw [List.getD_eq_getElem?_getD, List.getElem?_eq_getElem (by omega)]; rfl
  · have hj : j < 5 := by
      rcases Nat.lt_or_ge j 5 with h' | h'
      · exact h'
      · rw [List.getElem?_eq_none (by show 5 ≤ j; exact h')] at hv; cases hv
    rw [h2 j hj, h3]; exact hv
theorem Cgs.rd {w : World} {v : Value} {l : List ChD} (h : ArgSl 3 (CgR w) w v l) : ∃ a n c, v = .slice a n c ∧ ChA w a n l := by
  obtain ⟨a, n, c, rfl, hl, hn, hc, hz, hrow⟩ := h
  refine ⟨a, n, c, rfl, hl, by omega, fun k hk => ?_⟩
  obtain ⟨b, off, cs, ha, h1, h2, h3, h4⟩ := hrow k hk
  refine ⟨b, off, l.getD k default, ha, ?_, fun j v hv => ?_, h4⟩
  · rw [List.getD_eq_getElem?_getD, List.getElem?_eq_getElem (by omega)]; rfl
  · have hj : j < 3 := by
      rcases Nat.lt_or_ge j 3 with h' | h'
      · exact h'
      · rw [List.getElem?_eq_none (by show 3 ≤ j; exact h')] at hv; cases hv
    rw [h2 j hj, h3]; exact hv
end Go.Proofs.Ytipkeifpkemcdaa

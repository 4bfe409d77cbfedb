/- Chapter 4's arguments: steps. -/
import Derived.Test.YtclpkjjhphanpaaOpen
import Derived.Test.YtclpkjjhphanpaaWalT
namespace Go.Proofs.Ytclpkjjhphanpaa
open Go.ChangeShapes Go.WideShapes Go.ChangeAt Go.RowKit
set_option linter.unusedVariables false
set_option linter.unusedSimpArgs false
set_option maxRecDepth 100000
/-- What a step's cells read as. -/
def StR (W : World) (cs : List Value) (y : StD) : Prop := cs = y.cells ∧ y.ok W
theorem IntsA.of {W : World} {v : Value} {l : List Int} (h : ArgSl 1 IntR W v l) : ∃ a n c, v = .slice a n c ∧ IntsA W a n l := by
  obtain ⟨a, n, c, rfl, h2⟩ := Ints.rd h
  have h3 := Ints.len h2
  exact ⟨a, n, c, rfl, h3.1, by omega, fun k hk => Ints.get h2 hk⟩
section
variable {H : Type} {enc : TypeId × Value → H} {W : World} {held : Bool}
theorem cells4 : Try.prog.cellsOf 45 = 5 := by kernel_rfl
theorem cellsS4 : Try.prog.cellsOf 32 = 1 := by kernel_rfl
theorem cellsT4 : Try.prog.cellsOf 43 = 1 := by kernel_rfl
theorem five4 {l : List Value} (h : l.length = 5) : ∃ a b c d e, l = [a, b, c, d, e] := by
  match l, h with
  | [a, b, c, d, e], _ => exact ⟨a, b, c, d, e, rfl⟩
theorem st_el (n : Nat) (cs : List Value) (d : DataW H) (p : List MemPlace) (h : DataW.trod enc Try.prog W 0 (fun _ => true) held n 45 cs = some (d, p)) (hw : ∀ q ∈ d.weights Try.prog 45, q ≤ reachBytes) :
    ∃ x : StD, StR W cs x ∧ 0 ≤ Rows.uptoBulk d := by
  obtain ⟨xs, m, hxe, hx, hl, hlen, hf⟩ := DataW.trod_struct Try.underlying45 h
  rw [cells4] at hl
  obtain ⟨c0, c1, c2, c3, c4, rfl⟩ := five4 hl
  have h0 : DataW.trod enc Try.prog W 0 (fun _ => true) held m 3 [c0] = xs[0]? := by simpa [cellsI] using hf 0 _ rfl
  have h1 : DataW.trod enc Try.prog W 0 (fun _ => true) held m 3 [c1] = xs[1]? := by simpa [cellsI] using hf 1 _ rfl
  have h2 : DataW.trod enc Try.prog W 0 (fun _ => true) held m 43 [c2] = xs[2]? := by simpa [cellsT4, cellsI] using hf 2 _ rfl
  have h3 : DataW.trod enc Try.prog W 0 (fun _ => true) held m 43 [c3] = xs[3]? := by simpa [cellsT4, cellsI] using hf 3 _ rfl
  have h4 : DataW.trod enc Try.prog W 0 (fun _ => true) held m 32 [c4] = xs[4]? := by simpa [cellsS4, cellsT4, cellsI] using hf 4 _ rfl
  have hlen' : xs.length = 5 := by simpa using hlen
  match xs, hlen' with
  | [y0, y1, y2, y3, y4], _ =>
    simp only [List.getElem?_cons_zero, List.getElem?_cons_succ] at h0 h1 h2 h3 h4
    obtain ⟨z0, e0, _, w0⟩ := DataW.trod_int Try.underlying3 h0
    obtain ⟨z1, e1, _, w1⟩ := DataW.trod_int Try.underlying3 h1
    have hb8 : 1 ≤ Try.prog.bytesOf 3 := by
      have e : Try.prog.bytesOf 3 = 8 := by kernel_rfl
      omega
    obtain ⟨v2, l2, e2, hs2, _⟩ := core_sl Try.underlying43 cellsI (by decide) hb8 IntR (fun s => 0) int_el h2 (fun q hq => hw q (by
      have hd := congrArg Prod.fst hx
      simp only at hd
      rw [hd]
      simp only [DataW.weights, Try.underlying45]
      simp only [List.map_cons, List.map_nil, DataW.weightsEach, List.mem_append]
      simp [hq]))
    obtain ⟨v3, l3, e3, hs3, _⟩ := core_sl Try.underlying43 cellsI (by decide) hb8 IntR (fun s => 0) int_el h3 (fun q hq => hw q (by
      have hd := congrArg Prod.fst hx
      simp only at hd
      rw [hd]
      simp only [DataW.weights, Try.underlying45]
      simp only [List.map_cons, List.map_nil, DataW.weightsEach, List.mem_append]
      simp [hq]))
    obtain ⟨v4, l4, e4, ⟨a, n4, c, rfl, hr, hn, hc, hz⟩, _⟩ := core_argB (d := y4.1) (p := y4.2) h4 (fun q hq => hw q (by
      have hd := congrArg Prod.fst hx
      simp only at hd
      rw [hd]
      simp only [DataW.weights, Try.underlying45]
      simp only [List.map_cons, List.map_nil, DataW.weightsEach, List.mem_append]
      simp [hq]))
    obtain ⟨a2, n2, d2, rfl, hi2⟩ := IntsA.of hs2
    obtain ⟨a3, n3, d3, rfl, hi3⟩ := IntsA.of hs3
    simp at e0 e1 e2 e3 e4
    subst e0 e1 e2 e3 e4
    exact ⟨⟨z0, z1, a2, n2, d2, l2, a3, n3, d3, l3, a, n4, c, l4⟩, ⟨rfl, ⟨bounds_i64 w1, bounds_i64 w0, hi2, hi3⟩⟩, Nat.zero_le _⟩
theorem open_Sts {b0 : Nat} {v : Value} {d : DataW H} {p : List MemPlace} (hval : Value.okWide Try.prog W .any b0 39 v)
    (h : DataW.Trod enc Try.prog W 0 (fun _ => true) held 39 v d p) (hw : ∀ n ∈ d.weights Try.prog 39, n ≤ reachBytes) :
    ∃ l : List StD, ArgSl 5 (StR W) W v l ∧ 0 ≤ Rows.uptoBulk d :=
  let ⟨l, h1, h2, _⟩ := open_sl Try.underlying39 cells4 (by decide) (show 1 ≤ Try.prog.bytesOf 45 from by
    have e : 1 ≤ Try.prog.bytesOf 45 := by decide
    omega) (StR W) (fun s => 0) st_el hval h hw
  ⟨l, h1, Nat.zero_le _⟩
end
/-- Steps that came in. -/
structure StArgs (w : World) (a : Option Addr) (n : Nat) (l : List StD) : Prop where
  len : l.length = n
  sm : n ≤ 140737488355328
  row : ∀ k, k < n → ∃ b off y, a = some ⟨b, off, none⟩ ∧ l[k]? = some y ∧ w.rangeAt b (off + k * 5) y.cells ∧ y.ok w
theorem StArgs.below {w w' : World} {a : Option Addr} {n : Nat} {l : List StD} (h : StArgs w a n l) (hb : Below w.heap.size w w') : StArgs w' a n l :=
  ⟨h.len, h.sm, fun k hk => let ⟨b, off, y, h1, h2, h3, h4⟩ := h.row k hk; ⟨b, off, y, h1, h2, fun j v hv => (Chg.of_below hb []).cell (h3 j v hv) (by simp), h4.below hb⟩⟩
theorem Sts.rd {w : World} {v : Value} {l : List StD} (h : ArgSl 5 (StR w) w v l) : ∃ a n c, v = .slice a n c ∧ StArgs w a n l := by
  obtain ⟨a, n, c, rfl, hl, hn, hc, hz, hrow⟩ := h
  refine ⟨a, n, c, rfl, hl, by omega, fun k hk => ?_⟩
  obtain ⟨b, off, cs, ha, h1, h2, h3, h4⟩ := hrow k hk
  refine ⟨b, off, l.getD k default, ha, ?_, fun j v hv => ?_, h4⟩
  · rw [List.getD_eq_getElem?_getD, List.getElem?_eq_getElem (by omega)]; rfl
  · have hj : j < 5 := by
      rcases Nat.lt_or_ge j 5 with h' | h'
      · exact h'
      · rw [List.getElem?_eq_none (by show 5 ≤ j; exact h')] at hv; cases hv
    rw [h2 j hj, h3]; exact hv
end Go.Proofs.Ytclpkjjhphanpaa

/- Arguments that are strings, int64. -/
import Derived.Test.YteenglgnakenmaaDoorOpen
import Derived.Test.YteenglgnakenmaaDoorItem
import Derived.ChangeMaps5
namespace Go.Proofs.YteenglgnakenmaaDoor
open Go.ChangeShapes Go.WideShapes Go.ChangeAt Go.RowKit
set_option linter.unusedVariables false
set_option linter.unusedSimpArgs false
set_option maxRecDepth 100000
section
variable {H : Type} {enc : TypeId × Value → H} {W : World} {held : Bool}
theorem open_Str {b0 : Nat} {v : Value} {d : DataW H} {p : List MemPlace} (hval : Value.okWide Tryd.prog W .any b0 9 v)
    (h : DataW.Trod enc Tryd.prog W 0 (fun _ => true) held 9 v d p) (hw : ∀ n ∈ d.weights Tryd.prog 9, n ≤ reachBytes) :
    ∃ s : ByteArray, (v = .string s ∧ s.size ≤ 140737488351232) ∧ 0 ≤ Rows.uptoBulk d := by
  obtain ⟨s, rfl, hd, _, _⟩ := Go.ChangeMaps.open_string Tryd.underlying9 hval h
  refine ⟨s, ⟨rfl, ?_⟩, Nat.zero_le _⟩
  have := hw s.data.toList.length (by rw [hd]; simp [DataW.weights])
  unfold reachBytes at this
  simp at this
  exact this
/-- A slice of bytes that came in, as a slice with its blocks. -/
theorem open_Bl {b0 : Nat} {v : Value} {d : DataW H} {p : List MemPlace} (hval : Value.okWide Tryd.prog W .any b0 27 v)
    (h : DataW.Trod enc Tryd.prog W 0 (fun _ => true) held 27 v d p) (hw : ∀ n ∈ d.weights Tryd.prog 27, n ≤ reachBytes) :
    ∃ l : List UInt8, (∃ a n c, v = .slice a n c ∧ RdB W a n l ∧ n ≤ c ∧ c ≤ 140737488355328 ∧ (a = none → c = 0) ∧ SlC W ⟨a, n, c⟩ (l.map B8)) ∧ l.length ≤ Rows.uptoBulk d := by
  obtain ⟨l, ⟨a, n, c, rfl, h1, h2, h3, h4⟩, hl⟩ := open_argB hval h hw
  refine ⟨l, ⟨a, n, c, rfl, h1, h2, h3, h4, ⟨by simp [h1.len], fun j hj => ?_⟩, h4, by simp only; omega, fun k hk => ?_, h2⟩, hl⟩
  · obtain ⟨b, off, ha, hc⟩ := h1.cell j hj
    refine ⟨b, off, ha, fun i u hu => ?_⟩
    rw [List.getElem?_map] at hu
    have hi : i < n := by
      rcases Nat.lt_or_ge i n with h' | h'
      · exact h'
      · rw [List.getElem?_eq_none (by rw [h1.len]; omega)] at hu; cases hu
    rw [hc i hi, ← hu, List.getElem?_eq_getElem (by rw [h1.len]; exact hi), List.getD_eq_getElem?_getD, List.getElem?_eq_getElem (by rw [h1.len]; exact hi)]
    rfl
  · cases a with
    | none => simp [Sl.blk] at hk
    | some x =>
      simp [Sl.blk] at hk
      subst hk
      simp only [Value.okWide, Tryd.underlying27, Cell.okWide, Cell.ok] at hval
      obtain ⟨_, _, row, cells, hs, _⟩ := hval.2.2
      unfold World.shape? at hs
      rcases Nat.lt_or_ge x.block W.heap.size with h' | h'
      · exact h'
      · rw [Array.getElem?_eq_none h'] at hs; cases hs
theorem open_I64 {b0 : Nat} {v : Value} {d : DataW H} {p : List MemPlace} (hval : Value.okWide Tryd.prog W .any b0 2 v)
    (h : DataW.Trod enc Tryd.prog W 0 (fun _ => true) held 2 v d p) (hw : ∀ n ∈ d.weights Tryd.prog 2, n ≤ reachBytes) : ∃ z, (v = .int .i64 z ∧ -9223372036854775808 ≤ z ∧ z ≤ 9223372036854775807) ∧ 0 ≤ Rows.uptoBulk d := by
  obtain ⟨z, rfl, _, _, hz⟩ := open_int Tryd.underlying2 hval h
  exact ⟨z, ⟨rfl, bounds_i64 hz⟩, Nat.zero_le _⟩
end
end Go.Proofs.YteenglgnakenmaaDoor

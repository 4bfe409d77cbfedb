/- The tables of unicode/utf8, out of what a row lists. -/
import Derived.Test.YteenglgnakenmaaDoorUtf
import Derived.Lib.LaidU8
namespace Go.Proofs.YteenglgnakenmaaDoor
open Go.RowKit
set_option linter.unusedVariables false
set_option linter.unusedSimpArgs false
set_option maxRecDepth 1000000
theorem utFirst : Rows.laid_unicode_utf8_first = Lib.firstData := by kernel_rfl
theorem utAccept : (Rows.laid_unicode_utf8_acceptRanges : DataW Unit) = Lib.acceptData := by kernel_rfl
theorem utCell {P : Program} {W : World} {g b : Nat} {n : String} {cs : Array Value} {v : Value} (hg : P.globalNamed n = some g) (hv : W.var? P n = some cs) (hc : cs.toList[b]? = some v) : W.cell? ⟨g, b, none⟩ = some v := by
  rw [World.var?_cell hg hv b, ← Array.getElem?_toList, hc]
/-- The row of 256 numbers. -/
theorem utOne {W : World} (h : Lib.VarReads Tryd.prog W "unicode/utf8.first" Lib.firstData) (c : Nat) (hc : c < 256) : W.cell? ⟨renV.g 3, c, none⟩ = some (.int .u8 (Lib.firstT c : Int)) := by
  obtain ⟨g, t, cs, fuel, p, hg, hty, hvar, hd⟩ := h
  obtain rfl := Option.some.inj ((show Tryd.prog.globalNamed "unicode/utf8.first" = some (renV.g 3) by kernel_rfl).symm.trans hg)
  obtain rfl := Option.some.inj ((show (Tryd.prog.globals[renV.g 3]?).map (·.type) = some (renV.t 119) by kernel_rfl).symm.trans hty)
  have hcs := Lib.cells_of_tab laysV.t119 laysV.t5 (by kernel_rfl) (by kernel_rfl) hd
  refine utCell hg hvar ?_
  rw [hcs]
  simp [Lib.firstTab, hc]
/-- The sixteen pairs. -/
theorem utTwo {W : World} (h : Lib.VarReads Tryd.prog W "unicode/utf8.acceptRanges" Lib.acceptData) (i : Nat) (hi : i < 16) :
    W.cell? ⟨renV.g 4, 2 * i, none⟩ = some (.int .u8 (Lib.accLo i : Int)) ∧ W.cell? ⟨renV.g 4, 2 * i + 1, none⟩ = some (.int .u8 (Lib.accHi i : Int)) := by
  obtain ⟨g, t, cs, fuel, p, hg, hty, hvar, hd⟩ := h
  obtain rfl := Option.some.inj ((show Tryd.prog.globalNamed "unicode/utf8.acceptRanges" = some (renV.g 4) by kernel_rfl).symm.trans hg)
  obtain rfl := Option.some.inj ((show (Tryd.prog.globals[renV.g 4]?).map (·.type) = some (renV.t 139) by kernel_rfl).symm.trans hty)
  obtain ⟨fu, d, q, hdi, he⟩ := Lib.array_elem laysV.t139 hd i hi
  have hd2 : d = .agg ([(Lib.accLo i : Int), (Lib.accHi i : Int)].map fun z => .lit (.int .u8 z)) := by
    rw [List.getElem?_map, List.getElem?_range hi] at hdi
    exact (Option.some.inj hdi).symm
  rw [hd2, show Tryd.prog.cellsOf (renV.t 138) = 2 by kernel_rfl] at he
  have hcs := Lib.ints_of_struct laysV.t138 (fun j f hj => by
    match j, hj with
    | 0, hj => cases hj; exact ⟨laysV.t5, rfl, by kernel_rfl⟩
    | 1, hj => cases hj; exact ⟨laysV.t5, rfl, by kernel_rfl⟩
    | j + 2, hj => simp at hj) (by kernel_rfl) he
  have g0 := congrArg (fun l => l[0]?) hcs
  have g1 := congrArg (fun l => l[1]?) hcs
  simp only [List.getElem?_take, List.getElem?_drop, Nat.mul_comm i 2] at g0 g1
  exact ⟨utCell hg hvar (by simpa using g0), utCell hg hvar (by simpa using g1)⟩
theorem utTab {W : World} (h3 : Lib.VarReads Tryd.prog W "unicode/utf8.first" Rows.laid_unicode_utf8_first) (h4 : Lib.VarReads Tryd.prog W "unicode/utf8.acceptRanges" Rows.laid_unicode_utf8_acceptRanges) : UT W := by
  rw [utFirst] at h3
  rw [utAccept] at h4
  exact ⟨fun c hc => utOne h3 c hc, fun i hi => utTwo h4 i hi⟩
end Go.Proofs.YteenglgnakenmaaDoor

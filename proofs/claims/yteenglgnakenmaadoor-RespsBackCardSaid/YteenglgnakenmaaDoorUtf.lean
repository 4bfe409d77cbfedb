/- The tables of unicode/utf8 (a seat without ValidString). -/
import Derived.Test.YteenglgnakenmaaDoorRows
import Derived.Shelf.Unicode.ValidAny
import Derived.Test.YteenglgnakenmaaDoorMem
namespace Go.Proofs.YteenglgnakenmaaDoor
open Go.RowKit
set_option linter.unusedVariables false
set_option maxRecDepth 1000000
def renV : Go.Shelf.Ren := ⟨fun n => n, fun x => match x with | 5 => 5 | 119 => 119 | 138 => 121 | 139 => 122 | n => n, fun x => match x with | 3 => 0 | 4 => 1 | n => n⟩
theorem laysV.t5 : Tryd.prog.underlying (renV.t 5) = some (TypeDesc.int IntKind.u8) := by kernel_rfl
theorem laysV.t119 : Tryd.prog.underlying (renV.t 119) = some (TypeDesc.array 256 (renV.t 5)) := by kernel_rfl
theorem laysV.t138 : Tryd.prog.underlying (renV.t 138) = some (TypeDesc.struct #[{ name := "lo", type := renV.t 5, offset := 0, embedded := false, tag := "", pkgPath := "unicode/utf8", byteOffset := 0 }, { name := "hi", type := renV.t 5, offset := 1, embedded := false, tag := "", pkgPath := "unicode/utf8", byteOffset := 1 }]) := by kernel_rfl
theorem laysV.t139 : Tryd.prog.underlying (renV.t 139) = some (TypeDesc.array 16 (renV.t 138)) := by kernel_rfl
/-- The two tables of unicode/utf8, as their initialisers lay them. -/
def UT (w : World) : Prop := Lib.Utf8Tabs (renV.g 3) (renV.g 4) w
theorem UT.below {w w' : World} (h : UT w) (hb : Below w.heap.size w w') : UT w' := Go.Proofs.Utf8Tabs_below h hb
end Go.Proofs.YteenglgnakenmaaDoor

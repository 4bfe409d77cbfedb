/- unicode/utf8.ValidString, by the library's contract. -/
import Derived.Test.YtmpajhacigjloaaDoorRows
import Derived.Shelf.Unicode.ValidAny
import Derived.Test.YtmpajhacigjloaaDoorMem
namespace Go.Proofs.YtmpajhacigjloaaDoor
open Go.RowKit
set_option linter.unusedVariables false
set_option maxRecDepth 1000000
def renV : Go.Shelf.Ren := ⟨fun x => match x with | 196 => 63 | 259 => 77 | n => n, fun x => match x with | 0 => 0 | 3 => 3 | 4 => 4 | 5 => 5 | 9 => 9 | 12 => 12 | 46 => 39 | 53 => 88 | 119 => 109 | 138 => 111 | 139 => 112 | n => n, fun x => match x with | 3 => 0 | 4 => 1 | n => n⟩
theorem laysV : Lays.n196 Tryd.prog renV := by
  constructor <;> first | kernel_rfl | (intro w; kernel_rfl)
/-- The two tables of unicode/utf8, as their initialisers lay them. -/
def UT (w : World) : Prop := Lib.Utf8Tabs (renV.g 3) (renV.g 4) w
theorem UT.below {w w' : World} (h : UT w) (hb : Below w.heap.size w w') : UT w' := Go.Proofs.Utf8Tabs_below h hb
theorem valid_any (s : ByteArray) (w : World) (hs : s.size ≤ 9223372036854775807) (hT : UT w) :
    Calls Tryd.prog 63 #[.string s] w fun e w' => e = .returned (.bool (Lib.validD s.data.toList)) ∧ Below w.heap.size w w' := Any.utf8_ValidString laysV s w hs hT
end Go.Proofs.YtmpajhacigjloaaDoor

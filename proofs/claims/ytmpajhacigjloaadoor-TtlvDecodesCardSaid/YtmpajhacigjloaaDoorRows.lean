/-
  NARROWER THAN 'FOR EVERY INPUT', by the rows' own cells (each row's printed sentence says how): TtlvCuts: laid · TtlvSizes: laid · TtlvKids: laid · TtlvKnown: laid · TtlvBack: laid · TtlvSame: laid · TtlvEncodes: laid · TtlvDecodes: laid.
  DERIVED. THE GIVEN ROWS OF THIS SEAT. 8 by the template 'for every input the law returns true; each argument reads behind the call as it read before'; 0 by the template 'total and deterministic' (their statements: YtmpajhacigjloaaDoorTotals.lean).
  GIVEN WITH THE SEED: the statements are not yours to turn. If you find one false, say at which input.
  Laid BY PROGRAM, IN A SANDBOX (cutbox-rows.mjs): the forced cells as the released guide's own fill.sh prints them over the translation b85265f2c9733d45… (all of the seat's roots in one cut). By AI agents, Wed Nov 11 2026. No macro, syntax, notation, axiom, sorry.
-/
import Derived.Test.YtmpajhacigjloaaDoorChecked
import GoSem.PinnedTables
import GoSem.Claim
import GoSem.ClaimJoined
import GoSem.ClaimMapViews
import Derived.JoinedTies
import Derived.KernelRfl
namespace Go.Proofs.YtmpajhacigjloaaDoor
/- THE CELL 'sum', in the pinned program and in every row, IS THE sha256 OF THE DUMP (.gsa) THAT YtmpajhacigjloaaDoorProg.lean LOADS. Nothing in Lean hashes anything: it is a label: what it is worth is what the hold of that sum in a sandbox is worth. -/
noncomputable def Tryd.pinned : Pinned := { name := "ytmpajhacigjloaadoor", sum := "b85265f2c9733d459bc561ae2ec3a70574f1ae850852f90375e87b1ca4b1b54a", checked := Tryd.checked }
namespace Rows
def none {H : Type} : Left H := { results := [], args := [] }

/- WHAT THE LISTED PACKAGE-LEVEL VARIABLES READ AS WHEN THE CALL BEGINS. Each datum BY PROGRAM (the guide's laid-datum.mjs) off the statement by which the dump's own 'gosem.cut.vars' lays the variable. In a bare row this is a premise. The card (YtmpajhacigjloaaDoorCards.lean) ties it to the program's text. -/
def laid_unicode_utf8_acceptRanges {H : Type} : DataW H := .agg [.agg [.lit (.int .u8 128), .lit (.int .u8 191)], .agg [.lit (.int .u8 160), .lit (.int .u8 191)], .agg [.lit (.int .u8 128), .lit (.int .u8 159)], .agg [.lit (.int .u8 144), .lit (.int .u8 191)], .agg [.lit (.int .u8 128), .lit (.int .u8 143)], .agg [.lit (.int .u8 0), .lit (.int .u8 0)], .agg [.lit (.int .u8 0), .lit (.int .u8 0)], .agg [.lit (.int .u8 0), .lit (.int .u8 0)], .agg [.lit (.int .u8 0), .lit (.int .u8 0)], .agg [.lit (.int .u8 0), .lit (.int .u8 0)], .agg [.lit (.int .u8 0), .lit (.int .u8 0)], .agg [.lit (.int .u8 0), .lit (.int .u8 0)], .agg [.lit (.int .u8 0), .lit (.int .u8 0)], .agg [.lit (.int .u8 0), .lit (.int .u8 0)], .agg [.lit (.int .u8 0), .lit (.int .u8 0)], .agg [.lit (.int .u8 0), .lit (.int .u8 0)]]
/-- One of Go's own tables, pinned by name: the form's constant. -/
def laid_unicode_utf8_first : DataW Unit := Go.Pinned.utf8First

/-- 'locksmithlaw6.TtlvCuts': WHATEVER THE INPUT: true; the input reads as it did. -/
def ttlvCutsSpec : ChangeSpec := { name := "ttlvCuts", fn := fun _ => fun
  | [d1, d2, d3] => { results := [.lit (.bool true)], args := [d1, d2, d3] }
  | _ => none }
def ttlvCutsRow : OpenClaim := { program := "ytmpajhacigjloaadoor", sum := "b85265f2c9733d459bc561ae2ec3a70574f1ae850852f90375e87b1ca4b1b54a", func := "locksmith/locksmithlaw6.TtlvCuts", spec := "ttlvCuts", unfollowed := true, recurses := true, named := ["unicode/utf8.first", "unicode/utf8.acceptRanges"], apart := false, laid := [("unicode/utf8.acceptRanges", laid_unicode_utf8_acceptRanges), ("unicode/utf8.first", laid_unicode_utf8_first)] }
def TtlvCutsSaid : Prop := ttlvCutsRow.holds Tryd.pinned (OpenSpec.ofChange ttlvCutsSpec)

/-- ITS FALSE NEIGHBOUR: 'it returns false'. Refute it at one input. -/
def ttlvCutsWrong : ChangeSpec := { name := "ttlvCuts", fn := fun _ => fun
  | [d1, d2, d3] => { results := [.lit (.bool false)], args := [d1, d2, d3] }
  | _ => none }
def TtlvCutsWrongFalsely : Prop := ttlvCutsRow.holds Tryd.pinned (OpenSpec.ofChange ttlvCutsWrong)

/-- 'locksmithlaw6.TtlvSizes': WHATEVER THE INPUT: true; the input reads as it did. -/
def ttlvSizesSpec : ChangeSpec := { name := "ttlvSizes", fn := fun _ => fun
  | [d1, d2] => { results := [.lit (.bool true)], args := [d1, d2] }
  | _ => none }
def ttlvSizesRow : OpenClaim := { program := "ytmpajhacigjloaadoor", sum := "b85265f2c9733d459bc561ae2ec3a70574f1ae850852f90375e87b1ca4b1b54a", func := "locksmith/locksmithlaw6.TtlvSizes", spec := "ttlvSizes", unfollowed := true, recurses := true, named := ["unicode/utf8.first", "unicode/utf8.acceptRanges"], apart := false, laid := [("unicode/utf8.acceptRanges", laid_unicode_utf8_acceptRanges), ("unicode/utf8.first", laid_unicode_utf8_first)] }
def TtlvSizesSaid : Prop := ttlvSizesRow.holds Tryd.pinned (OpenSpec.ofChange ttlvSizesSpec)

/-- ITS FALSE NEIGHBOUR: 'it returns false'. Refute it at one input. -/
def ttlvSizesWrong : ChangeSpec := { name := "ttlvSizes", fn := fun _ => fun
  | [d1, d2] => { results := [.lit (.bool false)], args := [d1, d2] }
  | _ => none }
def TtlvSizesWrongFalsely : Prop := ttlvSizesRow.holds Tryd.pinned (OpenSpec.ofChange ttlvSizesWrong)

/-- 'locksmithlaw6.TtlvKids': WHATEVER THE INPUT: true; the input reads as it did. -/
def ttlvKidsSpec : ChangeSpec := { name := "ttlvKids", fn := fun _ => fun
  | [d1, d2] => { results := [.lit (.bool true)], args := [d1, d2] }
  | _ => none }
def ttlvKidsRow : OpenClaim := { program := "ytmpajhacigjloaadoor", sum := "b85265f2c9733d459bc561ae2ec3a70574f1ae850852f90375e87b1ca4b1b54a", func := "locksmith/locksmithlaw6.TtlvKids", spec := "ttlvKids", unfollowed := true, recurses := true, named := ["unicode/utf8.first", "unicode/utf8.acceptRanges"], apart := false, laid := [("unicode/utf8.acceptRanges", laid_unicode_utf8_acceptRanges), ("unicode/utf8.first", laid_unicode_utf8_first)] }
def TtlvKidsSaid : Prop := ttlvKidsRow.holds Tryd.pinned (OpenSpec.ofChange ttlvKidsSpec)

/-- ITS FALSE NEIGHBOUR: 'it returns false'. Refute it at one input. -/
def ttlvKidsWrong : ChangeSpec := { name := "ttlvKids", fn := fun _ => fun
  | [d1, d2] => { results := [.lit (.bool false)], args := [d1, d2] }
  | _ => none }
def TtlvKidsWrongFalsely : Prop := ttlvKidsRow.holds Tryd.pinned (OpenSpec.ofChange ttlvKidsWrong)

/-- 'locksmithlaw6.TtlvKnown': WHATEVER THE INPUT: true; the input reads as it did. -/
def ttlvKnownSpec : ChangeSpec := { name := "ttlvKnown", fn := fun _ => fun
  | [] => { results := [.lit (.bool true)], args := [] }
  | _ => none }
def ttlvKnownRow : OpenClaim := { program := "ytmpajhacigjloaadoor", sum := "b85265f2c9733d459bc561ae2ec3a70574f1ae850852f90375e87b1ca4b1b54a", func := "locksmith/locksmithlaw6.TtlvKnown", spec := "ttlvKnown", unfollowed := true, recurses := true, named := ["unicode/utf8.first", "unicode/utf8.acceptRanges"], apart := false, laid := [("unicode/utf8.acceptRanges", laid_unicode_utf8_acceptRanges), ("unicode/utf8.first", laid_unicode_utf8_first)] }
def TtlvKnownSaid : Prop := ttlvKnownRow.holds Tryd.pinned (OpenSpec.ofChange ttlvKnownSpec)

/-- ITS FALSE NEIGHBOUR: 'it returns false'. Refute it at one input. -/
def ttlvKnownWrong : ChangeSpec := { name := "ttlvKnown", fn := fun _ => fun
  | [] => { results := [.lit (.bool false)], args := [] }
  | _ => none }
def TtlvKnownWrongFalsely : Prop := ttlvKnownRow.holds Tryd.pinned (OpenSpec.ofChange ttlvKnownWrong)

/-- 'locksmithlaw6.TtlvBack': WHATEVER THE INPUT: true; the input reads as it did. -/
def ttlvBackSpec : ChangeSpec := { name := "ttlvBack", fn := fun _ => fun
  | [d1, d2] => { results := [.lit (.bool true)], args := [d1, d2] }
  | _ => none }
def ttlvBackRow : OpenClaim := { program := "ytmpajhacigjloaadoor", sum := "b85265f2c9733d459bc561ae2ec3a70574f1ae850852f90375e87b1ca4b1b54a", func := "locksmith/locksmithlaw6.TtlvBack", spec := "ttlvBack", unfollowed := true, recurses := true, named := ["unicode/utf8.first", "unicode/utf8.acceptRanges"], apart := false, laid := [("unicode/utf8.acceptRanges", laid_unicode_utf8_acceptRanges), ("unicode/utf8.first", laid_unicode_utf8_first)] }
def TtlvBackSaid : Prop := ttlvBackRow.holds Tryd.pinned (OpenSpec.ofChange ttlvBackSpec)

/-- ITS FALSE NEIGHBOUR: 'it returns false'. Refute it at one input. -/
def ttlvBackWrong : ChangeSpec := { name := "ttlvBack", fn := fun _ => fun
  | [d1, d2] => { results := [.lit (.bool false)], args := [d1, d2] }
  | _ => none }
def TtlvBackWrongFalsely : Prop := ttlvBackRow.holds Tryd.pinned (OpenSpec.ofChange ttlvBackWrong)

/-- 'locksmithlaw6.TtlvSame': WHATEVER THE INPUT: true; the input reads as it did. -/
def ttlvSameSpec : ChangeSpec := { name := "ttlvSame", fn := fun _ => fun
  | [d1, d2, d3, d4] => { results := [.lit (.bool true)], args := [d1, d2, d3, d4] }
  | _ => none }
def ttlvSameRow : OpenClaim := { program := "ytmpajhacigjloaadoor", sum := "b85265f2c9733d459bc561ae2ec3a70574f1ae850852f90375e87b1ca4b1b54a", func := "locksmith/locksmithlaw6.TtlvSame", spec := "ttlvSame", unfollowed := true, recurses := true, named := ["unicode/utf8.first", "unicode/utf8.acceptRanges"], apart := false, laid := [("unicode/utf8.acceptRanges", laid_unicode_utf8_acceptRanges), ("unicode/utf8.first", laid_unicode_utf8_first)] }
def TtlvSameSaid : Prop := ttlvSameRow.holds Tryd.pinned (OpenSpec.ofChange ttlvSameSpec)

/-- ITS FALSE NEIGHBOUR: 'it returns false'. Refute it at one input. -/
def ttlvSameWrong : ChangeSpec := { name := "ttlvSame", fn := fun _ => fun
  | [d1, d2, d3, d4] => { results := [.lit (.bool false)], args := [d1, d2, d3, d4] }
  | _ => none }
def TtlvSameWrongFalsely : Prop := ttlvSameRow.holds Tryd.pinned (OpenSpec.ofChange ttlvSameWrong)

/-- 'locksmithlaw6.TtlvEncodes': WHATEVER THE INPUT: true; the input reads as it did. -/
def ttlvEncodesSpec : ChangeSpec := { name := "ttlvEncodes", fn := fun _ => fun
  | [d] => { results := [.lit (.bool true)], args := [d] }
  | _ => none }
def ttlvEncodesRow : OpenClaim := { program := "ytmpajhacigjloaadoor", sum := "b85265f2c9733d459bc561ae2ec3a70574f1ae850852f90375e87b1ca4b1b54a", func := "locksmith/locksmithlaw6.TtlvEncodes", spec := "ttlvEncodes", unfollowed := true, recurses := true, named := ["unicode/utf8.first", "unicode/utf8.acceptRanges"], apart := false, laid := [("unicode/utf8.acceptRanges", laid_unicode_utf8_acceptRanges), ("unicode/utf8.first", laid_unicode_utf8_first)] }
def TtlvEncodesSaid : Prop := ttlvEncodesRow.holds Tryd.pinned (OpenSpec.ofChange ttlvEncodesSpec)

/-- ITS FALSE NEIGHBOUR: 'it returns false'. Refute it at one input. -/
def ttlvEncodesWrong : ChangeSpec := { name := "ttlvEncodes", fn := fun _ => fun
  | [d] => { results := [.lit (.bool false)], args := [d] }
  | _ => none }
def TtlvEncodesWrongFalsely : Prop := ttlvEncodesRow.holds Tryd.pinned (OpenSpec.ofChange ttlvEncodesWrong)

/-- 'locksmithlaw6.TtlvDecodes': WHATEVER THE INPUT: true; the input reads as it did. -/
def ttlvDecodesSpec : ChangeSpec := { name := "ttlvDecodes", fn := fun _ => fun
  | [d1, d2, d3, d4, d5] => { results := [.lit (.bool true)], args := [d1, d2, d3, d4, d5] }
  | _ => none }
def ttlvDecodesRow : OpenClaim := { program := "ytmpajhacigjloaadoor", sum := "b85265f2c9733d459bc561ae2ec3a70574f1ae850852f90375e87b1ca4b1b54a", func := "locksmith/locksmithlaw6.TtlvDecodes", spec := "ttlvDecodes", unfollowed := true, recurses := true, named := ["unicode/utf8.first", "unicode/utf8.acceptRanges"], apart := false, laid := [("unicode/utf8.acceptRanges", laid_unicode_utf8_acceptRanges), ("unicode/utf8.first", laid_unicode_utf8_first)] }
def TtlvDecodesSaid : Prop := ttlvDecodesRow.holds Tryd.pinned (OpenSpec.ofChange ttlvDecodesSpec)

/-- ITS FALSE NEIGHBOUR: 'it returns false'. Refute it at one input. -/
def ttlvDecodesWrong : ChangeSpec := { name := "ttlvDecodes", fn := fun _ => fun
  | [d1, d2, d3, d4, d5] => { results := [.lit (.bool false)], args := [d1, d2, d3, d4, d5] }
  | _ => none }
def TtlvDecodesWrongFalsely : Prop := ttlvDecodesRow.holds Tryd.pinned (OpenSpec.ofChange ttlvDecodesWrong)

/- THE SECOND FORM. 'bulk': how many values and letters a reading holds, each counted each time it is reached (what is shared counts as often as it is met; a slice's spare places count too). A statement '..UptoSaid' is the law's where the arguments, and the package variables that the reading takes, are together of bulk at most 1048576: NARROWER than '..Said'. Prove '..Said' where nothing that the law and all that it calls make is longer than what came in: it says more and counts as full. Else prove '..UptoSaid'. A law counts once. -/
mutual
def uptoBulk {H : Type} : DataW H → Nat
  | .lit (.string bytes) => bytes.length + 1
  | .lit _ => 1
  | .nil => 1
  | .ptr d => uptoBulk d + 1
  | .slice elems spare => uptoBulkAll elems + uptoBulkAll spare + 1
  | .agg parts => uptoBulkAll parts + 1
  | .iface _ d => uptoBulk d + 1
  | .map entries => uptoBulkEntries entries + 1
  | .held _ => 1
def uptoBulkAll {H : Type} : List (DataW H) → Nat
  | [] => 0
  | d :: r => uptoBulk d + uptoBulkAll r
def uptoBulkEntries {H : Type} : List (Lit × DataW H) → Nat
  | [] => 0
  | x :: r => uptoBulkEntry x + uptoBulkEntries r
def uptoBulkEntry {H : Type} : Lit × DataW H → Nat
  | (.string bytes, d) => bytes.length + uptoBulk d + 1
  | (_, d) => uptoBulk d + 1
 end
def uptoSmall : (H : Type) → List (DataW H) → Bool := fun _ ds => decide (uptoBulkAll ds ≤ 1048576)
def OpenSpec.upto (s : _root_.Go.ChangeSpec) : _root_.Go.OpenSpec := { _root_.Go.OpenSpec.ofChange s with cond := some uptoSmall }

/-- 'locksmithlaw6.TtlvCuts', WHERE WHAT IT READS IS OF BULK AT MOST 1048576: true; the input reads as it did. -/
def ttlvCutsUptoRow : OpenClaim := { program := "ytmpajhacigjloaadoor", sum := "b85265f2c9733d459bc561ae2ec3a70574f1ae850852f90375e87b1ca4b1b54a", func := "locksmith/locksmithlaw6.TtlvCuts", spec := "ttlvCuts", unfollowed := true, recurses := true, named := ["unicode/utf8.first", "unicode/utf8.acceptRanges"], apart := false, laid := [("unicode/utf8.acceptRanges", laid_unicode_utf8_acceptRanges), ("unicode/utf8.first", laid_unicode_utf8_first)], narrowed := true }
def TtlvCutsUptoSaid : Prop := ttlvCutsUptoRow.holds Tryd.pinned (OpenSpec.upto ttlvCutsSpec)

/-- 'locksmithlaw6.TtlvSizes', WHERE WHAT IT READS IS OF BULK AT MOST 1048576: true; the input reads as it did. -/
def ttlvSizesUptoRow : OpenClaim := { program := "ytmpajhacigjloaadoor", sum := "b85265f2c9733d459bc561ae2ec3a70574f1ae850852f90375e87b1ca4b1b54a", func := "locksmith/locksmithlaw6.TtlvSizes", spec := "ttlvSizes", unfollowed := true, recurses := true, named := ["unicode/utf8.first", "unicode/utf8.acceptRanges"], apart := false, laid := [("unicode/utf8.acceptRanges", laid_unicode_utf8_acceptRanges), ("unicode/utf8.first", laid_unicode_utf8_first)], narrowed := true }
def TtlvSizesUptoSaid : Prop := ttlvSizesUptoRow.holds Tryd.pinned (OpenSpec.upto ttlvSizesSpec)

/-- 'locksmithlaw6.TtlvKids', WHERE WHAT IT READS IS OF BULK AT MOST 1048576: true; the input reads as it did. -/
def ttlvKidsUptoRow : OpenClaim := { program := "ytmpajhacigjloaadoor", sum := "b85265f2c9733d459bc561ae2ec3a70574f1ae850852f90375e87b1ca4b1b54a", func := "locksmith/locksmithlaw6.TtlvKids", spec := "ttlvKids", unfollowed := true, recurses := true, named := ["unicode/utf8.first", "unicode/utf8.acceptRanges"], apart := false, laid := [("unicode/utf8.acceptRanges", laid_unicode_utf8_acceptRanges), ("unicode/utf8.first", laid_unicode_utf8_first)], narrowed := true }
def TtlvKidsUptoSaid : Prop := ttlvKidsUptoRow.holds Tryd.pinned (OpenSpec.upto ttlvKidsSpec)

/-- 'locksmithlaw6.TtlvKnown', WHERE WHAT IT READS IS OF BULK AT MOST 1048576: true; the input reads as it did. -/
def ttlvKnownUptoRow : OpenClaim := { program := "ytmpajhacigjloaadoor", sum := "b85265f2c9733d459bc561ae2ec3a70574f1ae850852f90375e87b1ca4b1b54a", func := "locksmith/locksmithlaw6.TtlvKnown", spec := "ttlvKnown", unfollowed := true, recurses := true, named := ["unicode/utf8.first", "unicode/utf8.acceptRanges"], apart := false, laid := [("unicode/utf8.acceptRanges", laid_unicode_utf8_acceptRanges), ("unicode/utf8.first", laid_unicode_utf8_first)], narrowed := true }
def TtlvKnownUptoSaid : Prop := ttlvKnownUptoRow.holds Tryd.pinned (OpenSpec.upto ttlvKnownSpec)

/-- 'locksmithlaw6.TtlvBack', WHERE WHAT IT READS IS OF BULK AT MOST 1048576: true; the input reads as it did. -/
def ttlvBackUptoRow : OpenClaim := { program := "ytmpajhacigjloaadoor", sum := "b85265f2c9733d459bc561ae2ec3a70574f1ae850852f90375e87b1ca4b1b54a", func := "locksmith/locksmithlaw6.TtlvBack", spec := "ttlvBack", unfollowed := true, recurses := true, named := ["unicode/utf8.first", "unicode/utf8.acceptRanges"], apart := false, laid := [("unicode/utf8.acceptRanges", laid_unicode_utf8_acceptRanges), ("unicode/utf8.first", laid_unicode_utf8_first)], narrowed := true }
def TtlvBackUptoSaid : Prop := ttlvBackUptoRow.holds Tryd.pinned (OpenSpec.upto ttlvBackSpec)

/-- 'locksmithlaw6.TtlvSame', WHERE WHAT IT READS IS OF BULK AT MOST 1048576: true; the input reads as it did. -/
def ttlvSameUptoRow : OpenClaim := { program := "ytmpajhacigjloaadoor", sum := "b85265f2c9733d459bc561ae2ec3a70574f1ae850852f90375e87b1ca4b1b54a", func := "locksmith/locksmithlaw6.TtlvSame", spec := "ttlvSame", unfollowed := true, recurses := true, named := ["unicode/utf8.first", "unicode/utf8.acceptRanges"], apart := false, laid := [("unicode/utf8.acceptRanges", laid_unicode_utf8_acceptRanges), ("unicode/utf8.first", laid_unicode_utf8_first)], narrowed := true }
def TtlvSameUptoSaid : Prop := ttlvSameUptoRow.holds Tryd.pinned (OpenSpec.upto ttlvSameSpec)

/-- 'locksmithlaw6.TtlvEncodes', WHERE WHAT IT READS IS OF BULK AT MOST 1048576: true; the input reads as it did. -/
def ttlvEncodesUptoRow : OpenClaim := { program := "ytmpajhacigjloaadoor", sum := "b85265f2c9733d459bc561ae2ec3a70574f1ae850852f90375e87b1ca4b1b54a", func := "locksmith/locksmithlaw6.TtlvEncodes", spec := "ttlvEncodes", unfollowed := true, recurses := true, named := ["unicode/utf8.first", "unicode/utf8.acceptRanges"], apart := false, laid := [("unicode/utf8.acceptRanges", laid_unicode_utf8_acceptRanges), ("unicode/utf8.first", laid_unicode_utf8_first)], narrowed := true }
def TtlvEncodesUptoSaid : Prop := ttlvEncodesUptoRow.holds Tryd.pinned (OpenSpec.upto ttlvEncodesSpec)

/-- 'locksmithlaw6.TtlvDecodes', WHERE WHAT IT READS IS OF BULK AT MOST 1048576: true; the input reads as it did. -/
def ttlvDecodesUptoRow : OpenClaim := { program := "ytmpajhacigjloaadoor", sum := "b85265f2c9733d459bc561ae2ec3a70574f1ae850852f90375e87b1ca4b1b54a", func := "locksmith/locksmithlaw6.TtlvDecodes", spec := "ttlvDecodes", unfollowed := true, recurses := true, named := ["unicode/utf8.first", "unicode/utf8.acceptRanges"], apart := false, laid := [("unicode/utf8.acceptRanges", laid_unicode_utf8_acceptRanges), ("unicode/utf8.first", laid_unicode_utf8_first)], narrowed := true }
def TtlvDecodesUptoSaid : Prop := ttlvDecodesUptoRow.holds Tryd.pinned (OpenSpec.upto ttlvDecodesSpec)

end Rows
end Go.Proofs.YtmpajhacigjloaaDoor

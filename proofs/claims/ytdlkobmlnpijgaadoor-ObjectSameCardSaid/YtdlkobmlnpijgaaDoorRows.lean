/-
  NARROWER THAN 'FOR EVERY INPUT', by the rows' own cells (each row's printed sentence says how): ObjectKnown: laid · ObjectLays: laid · ObjectReads: laid · ObjectBack: laid · ObjectTexts: laid · ObjectApart: laid · ObjectSame: laid.
  DERIVED. THE GIVEN ROWS OF THIS SEAT. 7 by the template 'for every input the law returns true; each argument reads behind the call as it read before'; 0 by the template 'total and deterministic' (their statements: YtdlkobmlnpijgaaDoorTotals.lean).
  GIVEN WITH THE SEED: the statements are not yours to turn. If you find one false, say at which input.
  Laid BY PROGRAM, IN A SANDBOX (cutbox-rows.mjs): the forced cells as the released guide's own fill.sh prints them over the translation 8c43bbc07b051c83… (all of the seat's roots in one cut). By AI agents, Wed Nov 11 2026. No macro, syntax, notation, axiom, sorry.
-/
import Derived.Test.YtdlkobmlnpijgaaDoorChecked
import GoSem.PinnedTables
import GoSem.Claim
import GoSem.ClaimJoined
import GoSem.ClaimMapViews
import Derived.JoinedTies
import Derived.KernelRfl
namespace Go.Proofs.YtdlkobmlnpijgaaDoor
/- THE CELL 'sum', in the pinned program and in every row, IS THE sha256 OF THE DUMP (.gsa) THAT YtdlkobmlnpijgaaDoorProg.lean LOADS. Nothing in Lean hashes anything: it is a label: what it is worth is what the hold of that sum in a sandbox is worth. -/
noncomputable def Tryd.pinned : Pinned := { name := "ytdlkobmlnpijgaadoor", sum := "8c43bbc07b051c8321a4d74ec81e0857bddc32aa5425abbf084e8ab882f29491", checked := Tryd.checked }
namespace Rows
def none {H : Type} : Left H := { results := [], args := [] }

/- WHAT THE LISTED PACKAGE-LEVEL VARIABLES READ AS WHEN THE CALL BEGINS. Each datum BY PROGRAM (the guide's laid-datum.mjs) off the statement by which the dump's own 'gosem.cut.vars' lays the variable. In a bare row this is a premise. The card (YtdlkobmlnpijgaaDoorCards.lean) ties it to the program's text. -/
def laid_unicode_utf8_acceptRanges {H : Type} : DataW H := .agg [.agg [.lit (.int .u8 128), .lit (.int .u8 191)], .agg [.lit (.int .u8 160), .lit (.int .u8 191)], .agg [.lit (.int .u8 128), .lit (.int .u8 159)], .agg [.lit (.int .u8 144), .lit (.int .u8 191)], .agg [.lit (.int .u8 128), .lit (.int .u8 143)], .agg [.lit (.int .u8 0), .lit (.int .u8 0)], .agg [.lit (.int .u8 0), .lit (.int .u8 0)], .agg [.lit (.int .u8 0), .lit (.int .u8 0)], .agg [.lit (.int .u8 0), .lit (.int .u8 0)], .agg [.lit (.int .u8 0), .lit (.int .u8 0)], .agg [.lit (.int .u8 0), .lit (.int .u8 0)], .agg [.lit (.int .u8 0), .lit (.int .u8 0)], .agg [.lit (.int .u8 0), .lit (.int .u8 0)], .agg [.lit (.int .u8 0), .lit (.int .u8 0)], .agg [.lit (.int .u8 0), .lit (.int .u8 0)], .agg [.lit (.int .u8 0), .lit (.int .u8 0)]]
/-- One of Go's own tables, pinned by name: the form's constant. -/
def laid_unicode_utf8_first : DataW Unit := Go.Pinned.utf8First

/-- 'locksmithlaw10.ObjectKnown': WHATEVER THE INPUT: true; the input reads as it did. -/
def objectKnownSpec : ChangeSpec := { name := "objectKnown", fn := fun _ => fun
  | [] => { results := [.lit (.bool true)], args := [] }
  | _ => none }
def objectKnownRow : OpenClaim := { program := "ytdlkobmlnpijgaadoor", sum := "8c43bbc07b051c8321a4d74ec81e0857bddc32aa5425abbf084e8ab882f29491", func := "locksmith/locksmithlaw10.ObjectKnown", spec := "objectKnown", unfollowed := true, recurses := true, named := ["unicode/utf8.first", "unicode/utf8.acceptRanges"], apart := false, laid := [("unicode/utf8.acceptRanges", laid_unicode_utf8_acceptRanges), ("unicode/utf8.first", laid_unicode_utf8_first)] }
def ObjectKnownSaid : Prop := objectKnownRow.holds Tryd.pinned (OpenSpec.ofChange objectKnownSpec)

/-- ITS FALSE NEIGHBOUR: 'it returns false'. Refute it at one input. -/
def objectKnownWrong : ChangeSpec := { name := "objectKnown", fn := fun _ => fun
  | [] => { results := [.lit (.bool false)], args := [] }
  | _ => none }
def ObjectKnownWrongFalsely : Prop := objectKnownRow.holds Tryd.pinned (OpenSpec.ofChange objectKnownWrong)

/-- 'locksmithlaw10.ObjectLays': WHATEVER THE INPUT: true; the input reads as it did. -/
def objectLaysSpec : ChangeSpec := { name := "objectLays", fn := fun _ => fun
  | [d1, d2, d3, d4, d5] => { results := [.lit (.bool true)], args := [d1, d2, d3, d4, d5] }
  | _ => none }
def objectLaysRow : OpenClaim := { program := "ytdlkobmlnpijgaadoor", sum := "8c43bbc07b051c8321a4d74ec81e0857bddc32aa5425abbf084e8ab882f29491", func := "locksmith/locksmithlaw10.ObjectLays", spec := "objectLays", unfollowed := true, recurses := true, named := ["unicode/utf8.first", "unicode/utf8.acceptRanges"], apart := false, laid := [("unicode/utf8.acceptRanges", laid_unicode_utf8_acceptRanges), ("unicode/utf8.first", laid_unicode_utf8_first)] }
def ObjectLaysSaid : Prop := objectLaysRow.holds Tryd.pinned (OpenSpec.ofChange objectLaysSpec)

/-- ITS FALSE NEIGHBOUR: 'it returns false'. Refute it at one input. -/
def objectLaysWrong : ChangeSpec := { name := "objectLays", fn := fun _ => fun
  | [d1, d2, d3, d4, d5] => { results := [.lit (.bool false)], args := [d1, d2, d3, d4, d5] }
  | _ => none }
def ObjectLaysWrongFalsely : Prop := objectLaysRow.holds Tryd.pinned (OpenSpec.ofChange objectLaysWrong)

/-- 'locksmithlaw10.ObjectReads': WHATEVER THE INPUT: true; the input reads as it did. -/
def objectReadsSpec : ChangeSpec := { name := "objectReads", fn := fun _ => fun
  | [d1, d2, d3, d4, d5, d6] => { results := [.lit (.bool true)], args := [d1, d2, d3, d4, d5, d6] }
  | _ => none }
def objectReadsRow : OpenClaim := { program := "ytdlkobmlnpijgaadoor", sum := "8c43bbc07b051c8321a4d74ec81e0857bddc32aa5425abbf084e8ab882f29491", func := "locksmith/locksmithlaw10.ObjectReads", spec := "objectReads", unfollowed := true, recurses := true, named := ["unicode/utf8.first", "unicode/utf8.acceptRanges"], apart := false, laid := [("unicode/utf8.acceptRanges", laid_unicode_utf8_acceptRanges), ("unicode/utf8.first", laid_unicode_utf8_first)] }
def ObjectReadsSaid : Prop := objectReadsRow.holds Tryd.pinned (OpenSpec.ofChange objectReadsSpec)

/-- ITS FALSE NEIGHBOUR: 'it returns false'. Refute it at one input. -/
def objectReadsWrong : ChangeSpec := { name := "objectReads", fn := fun _ => fun
  | [d1, d2, d3, d4, d5, d6] => { results := [.lit (.bool false)], args := [d1, d2, d3, d4, d5, d6] }
  | _ => none }
def ObjectReadsWrongFalsely : Prop := objectReadsRow.holds Tryd.pinned (OpenSpec.ofChange objectReadsWrong)

/-- 'locksmithlaw10.ObjectBack': WHATEVER THE INPUT: true; the input reads as it did. -/
def objectBackSpec : ChangeSpec := { name := "objectBack", fn := fun _ => fun
  | [d1, d2, d3, d4] => { results := [.lit (.bool true)], args := [d1, d2, d3, d4] }
  | _ => none }
def objectBackRow : OpenClaim := { program := "ytdlkobmlnpijgaadoor", sum := "8c43bbc07b051c8321a4d74ec81e0857bddc32aa5425abbf084e8ab882f29491", func := "locksmith/locksmithlaw10.ObjectBack", spec := "objectBack", unfollowed := true, recurses := true, named := ["unicode/utf8.first", "unicode/utf8.acceptRanges"], apart := false, laid := [("unicode/utf8.acceptRanges", laid_unicode_utf8_acceptRanges), ("unicode/utf8.first", laid_unicode_utf8_first)] }
def ObjectBackSaid : Prop := objectBackRow.holds Tryd.pinned (OpenSpec.ofChange objectBackSpec)

/-- ITS FALSE NEIGHBOUR: 'it returns false'. Refute it at one input. -/
def objectBackWrong : ChangeSpec := { name := "objectBack", fn := fun _ => fun
  | [d1, d2, d3, d4] => { results := [.lit (.bool false)], args := [d1, d2, d3, d4] }
  | _ => none }
def ObjectBackWrongFalsely : Prop := objectBackRow.holds Tryd.pinned (OpenSpec.ofChange objectBackWrong)

/-- 'locksmithlaw10.ObjectTexts': WHATEVER THE INPUT: true; the input reads as it did. -/
def objectTextsSpec : ChangeSpec := { name := "objectTexts", fn := fun _ => fun
  | [d1, d2, d3] => { results := [.lit (.bool true)], args := [d1, d2, d3] }
  | _ => none }
def objectTextsRow : OpenClaim := { program := "ytdlkobmlnpijgaadoor", sum := "8c43bbc07b051c8321a4d74ec81e0857bddc32aa5425abbf084e8ab882f29491", func := "locksmith/locksmithlaw10.ObjectTexts", spec := "objectTexts", unfollowed := true, recurses := true, named := ["unicode/utf8.first", "unicode/utf8.acceptRanges"], apart := false, laid := [("unicode/utf8.acceptRanges", laid_unicode_utf8_acceptRanges), ("unicode/utf8.first", laid_unicode_utf8_first)] }
def ObjectTextsSaid : Prop := objectTextsRow.holds Tryd.pinned (OpenSpec.ofChange objectTextsSpec)

/-- ITS FALSE NEIGHBOUR: 'it returns false'. Refute it at one input. -/
def objectTextsWrong : ChangeSpec := { name := "objectTexts", fn := fun _ => fun
  | [d1, d2, d3] => { results := [.lit (.bool false)], args := [d1, d2, d3] }
  | _ => none }
def ObjectTextsWrongFalsely : Prop := objectTextsRow.holds Tryd.pinned (OpenSpec.ofChange objectTextsWrong)

/-- 'locksmithlaw10.ObjectApart': WHATEVER THE INPUT: true; the input reads as it did. -/
def objectApartSpec : ChangeSpec := { name := "objectApart", fn := fun _ => fun
  | [d1, d2, d3, d4, d5, d6] => { results := [.lit (.bool true)], args := [d1, d2, d3, d4, d5, d6] }
  | _ => none }
def objectApartRow : OpenClaim := { program := "ytdlkobmlnpijgaadoor", sum := "8c43bbc07b051c8321a4d74ec81e0857bddc32aa5425abbf084e8ab882f29491", func := "locksmith/locksmithlaw10.ObjectApart", spec := "objectApart", unfollowed := true, recurses := true, named := ["unicode/utf8.first", "unicode/utf8.acceptRanges"], apart := false, laid := [("unicode/utf8.acceptRanges", laid_unicode_utf8_acceptRanges), ("unicode/utf8.first", laid_unicode_utf8_first)] }
def ObjectApartSaid : Prop := objectApartRow.holds Tryd.pinned (OpenSpec.ofChange objectApartSpec)

/-- ITS FALSE NEIGHBOUR: 'it returns false'. Refute it at one input. -/
def objectApartWrong : ChangeSpec := { name := "objectApart", fn := fun _ => fun
  | [d1, d2, d3, d4, d5, d6] => { results := [.lit (.bool false)], args := [d1, d2, d3, d4, d5, d6] }
  | _ => none }
def ObjectApartWrongFalsely : Prop := objectApartRow.holds Tryd.pinned (OpenSpec.ofChange objectApartWrong)

/-- 'locksmithlaw10.ObjectSame': WHATEVER THE INPUT: true; the input reads as it did. -/
def objectSameSpec : ChangeSpec := { name := "objectSame", fn := fun _ => fun
  | [d1, d2, d3, d4, d5, d6] => { results := [.lit (.bool true)], args := [d1, d2, d3, d4, d5, d6] }
  | _ => none }
def objectSameRow : OpenClaim := { program := "ytdlkobmlnpijgaadoor", sum := "8c43bbc07b051c8321a4d74ec81e0857bddc32aa5425abbf084e8ab882f29491", func := "locksmith/locksmithlaw10.ObjectSame", spec := "objectSame", unfollowed := true, recurses := true, named := ["unicode/utf8.first", "unicode/utf8.acceptRanges"], apart := false, laid := [("unicode/utf8.acceptRanges", laid_unicode_utf8_acceptRanges), ("unicode/utf8.first", laid_unicode_utf8_first)] }
def ObjectSameSaid : Prop := objectSameRow.holds Tryd.pinned (OpenSpec.ofChange objectSameSpec)

/-- ITS FALSE NEIGHBOUR: 'it returns false'. Refute it at one input. -/
def objectSameWrong : ChangeSpec := { name := "objectSame", fn := fun _ => fun
  | [d1, d2, d3, d4, d5, d6] => { results := [.lit (.bool false)], args := [d1, d2, d3, d4, d5, d6] }
  | _ => none }
def ObjectSameWrongFalsely : Prop := objectSameRow.holds Tryd.pinned (OpenSpec.ofChange objectSameWrong)

/- THE SECOND FORM. 'bulk': how many values and letters a reading holds, each counted each time it is reached (what is shared counts as often as it is met; a slice's spare places count too). A statement '..UptoSaid' is the law's where the arguments, and the package variables that the reading takes, are together of bulk at most 1048576: NARROWER than '..Said'. Prove '..Said' where nothing that the law and all that it calls make is longer than what came in: it says more and counts as full. Else prove '..UptoSaid'. A law counts once. -/
mutual
def uptoBulk {H : Type} : DataW H → Nat
  | .lit (.string bytes) => bytes.length + 1
  | .lit _ => 1
  | .nil => 1
  | .ptr d => uptoBulk d + 1
  | .slice elems spare => uptoBulkAll elems + uptoBulkAll spare + 1
  | .agg parts => uptoBulkAll parts + 1
  | .iface _ d => uptoBulk d + 1
  | .map entries => uptoBulkEntries entries + 1
  | .held _ => 1
def uptoBulkAll {H : Type} : List (DataW H) → Nat
  | [] => 0
  | d :: r => uptoBulk d + uptoBulkAll r
def uptoBulkEntries {H : Type} : List (Lit × DataW H) → Nat
  | [] => 0
  | x :: r => uptoBulkEntry x + uptoBulkEntries r
def uptoBulkEntry {H : Type} : Lit × DataW H → Nat
  | (.string bytes, d) => bytes.length + uptoBulk d + 1
  | (_, d) => uptoBulk d + 1
 end
def uptoSmall : (H : Type) → List (DataW H) → Bool := fun _ ds => decide (uptoBulkAll ds ≤ 1048576)
def OpenSpec.upto (s : _root_.Go.ChangeSpec) : _root_.Go.OpenSpec := { _root_.Go.OpenSpec.ofChange s with cond := some uptoSmall }

/-- 'locksmithlaw10.ObjectKnown', WHERE WHAT IT READS IS OF BULK AT MOST 1048576: true; the input reads as it did. -/
def objectKnownUptoRow : OpenClaim := { program := "ytdlkobmlnpijgaadoor", sum := "8c43bbc07b051c8321a4d74ec81e0857bddc32aa5425abbf084e8ab882f29491", func := "locksmith/locksmithlaw10.ObjectKnown", spec := "objectKnown", unfollowed := true, recurses := true, named := ["unicode/utf8.first", "unicode/utf8.acceptRanges"], apart := false, laid := [("unicode/utf8.acceptRanges", laid_unicode_utf8_acceptRanges), ("unicode/utf8.first", laid_unicode_utf8_first)], narrowed := true }
def ObjectKnownUptoSaid : Prop := objectKnownUptoRow.holds Tryd.pinned (OpenSpec.upto objectKnownSpec)

/-- 'locksmithlaw10.ObjectLays', WHERE WHAT IT READS IS OF BULK AT MOST 1048576: true; the input reads as it did. -/
def objectLaysUptoRow : OpenClaim := { program := "ytdlkobmlnpijgaadoor", sum := "8c43bbc07b051c8321a4d74ec81e0857bddc32aa5425abbf084e8ab882f29491", func := "locksmith/locksmithlaw10.ObjectLays", spec := "objectLays", unfollowed := true, recurses := true, named := ["unicode/utf8.first", "unicode/utf8.acceptRanges"], apart := false, laid := [("unicode/utf8.acceptRanges", laid_unicode_utf8_acceptRanges), ("unicode/utf8.first", laid_unicode_utf8_first)], narrowed := true }
def ObjectLaysUptoSaid : Prop := objectLaysUptoRow.holds Tryd.pinned (OpenSpec.upto objectLaysSpec)

/-- 'locksmithlaw10.ObjectReads', WHERE WHAT IT READS IS OF BULK AT MOST 1048576: true; the input reads as it did. -/
def objectReadsUptoRow : OpenClaim := { program := "ytdlkobmlnpijgaadoor", sum := "8c43bbc07b051c8321a4d74ec81e0857bddc32aa5425abbf084e8ab882f29491", func := "locksmith/locksmithlaw10.ObjectReads", spec := "objectReads", unfollowed := true, recurses := true, named := ["unicode/utf8.first", "unicode/utf8.acceptRanges"], apart := false, laid := [("unicode/utf8.acceptRanges", laid_unicode_utf8_acceptRanges), ("unicode/utf8.first", laid_unicode_utf8_first)], narrowed := true }
def ObjectReadsUptoSaid : Prop := objectReadsUptoRow.holds Tryd.pinned (OpenSpec.upto objectReadsSpec)

/-- 'locksmithlaw10.ObjectBack', WHERE WHAT IT READS IS OF BULK AT MOST 1048576: true; the input reads as it did. -/
def objectBackUptoRow : OpenClaim := { program := "ytdlkobmlnpijgaadoor", sum := "8c43bbc07b051c8321a4d74ec81e0857bddc32aa5425abbf084e8ab882f29491", func := "locksmith/locksmithlaw10.ObjectBack", spec := "objectBack", unfollowed := true, recurses := true, named := ["unicode/utf8.first", "unicode/utf8.acceptRanges"], apart := false, laid := [("unicode/utf8.acceptRanges", laid_unicode_utf8_acceptRanges), ("unicode/utf8.first", laid_unicode_utf8_first)], narrowed := true }
def ObjectBackUptoSaid : Prop := objectBackUptoRow.holds Tryd.pinned (OpenSpec.upto objectBackSpec)

/-- 'locksmithlaw10.ObjectTexts', WHERE WHAT IT READS IS OF BULK AT MOST 1048576: true; the input reads as it did. -/
def objectTextsUptoRow : OpenClaim := { program := "ytdlkobmlnpijgaadoor", sum := "8c43bbc07b051c8321a4d74ec81e0857bddc32aa5425abbf084e8ab882f29491", func := "locksmith/locksmithlaw10.ObjectTexts", spec := "objectTexts", unfollowed := true, recurses := true, named := ["unicode/utf8.first", "unicode/utf8.acceptRanges"], apart := false, laid := [("unicode/utf8.acceptRanges", laid_unicode_utf8_acceptRanges), ("unicode/utf8.first", laid_unicode_utf8_first)], narrowed := true }
def ObjectTextsUptoSaid : Prop := objectTextsUptoRow.holds Tryd.pinned (OpenSpec.upto objectTextsSpec)

/-- 'locksmithlaw10.ObjectApart', WHERE WHAT IT READS IS OF BULK AT MOST 1048576: true; the input reads as it did. -/
def objectApartUptoRow : OpenClaim := { program := "ytdlkobmlnpijgaadoor", sum := "8c43bbc07b051c8321a4d74ec81e0857bddc32aa5425abbf084e8ab882f29491", func := "locksmith/locksmithlaw10.ObjectApart", spec := "objectApart", unfollowed := true, recurses := true, named := ["unicode/utf8.first", "unicode/utf8.acceptRanges"], apart := false, laid := [("unicode/utf8.acceptRanges", laid_unicode_utf8_acceptRanges), ("unicode/utf8.first", laid_unicode_utf8_first)], narrowed := true }
def ObjectApartUptoSaid : Prop := objectApartUptoRow.holds Tryd.pinned (OpenSpec.upto objectApartSpec)

/-- 'locksmithlaw10.ObjectSame', WHERE WHAT IT READS IS OF BULK AT MOST 1048576: true; the input reads as it did. -/
def objectSameUptoRow : OpenClaim := { program := "ytdlkobmlnpijgaadoor", sum := "8c43bbc07b051c8321a4d74ec81e0857bddc32aa5425abbf084e8ab882f29491", func := "locksmith/locksmithlaw10.ObjectSame", spec := "objectSame", unfollowed := true, recurses := true, named := ["unicode/utf8.first", "unicode/utf8.acceptRanges"], apart := false, laid := [("unicode/utf8.acceptRanges", laid_unicode_utf8_acceptRanges), ("unicode/utf8.first", laid_unicode_utf8_first)], narrowed := true }
def ObjectSameUptoSaid : Prop := objectSameUptoRow.holds Tryd.pinned (OpenSpec.upto objectSameSpec)

end Rows
end Go.Proofs.YtdlkobmlnpijgaaDoor

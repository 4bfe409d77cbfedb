/-
  No cell of these rows narrows 'for every input' (looked for: loops, veiled, ifaces, maps, wideKeys, modest, calm, conditions, laid).
  DERIVED. THE GIVEN ROWS OF THIS SEAT. 6 by the template 'for every input the law returns true; each argument reads behind the call as it read before'; 0 by the template 'total and deterministic' (their statements: YtipkeifpkemcdaaTotals.lean).
  GIVEN WITH THE SEED: the statements are not yours to turn. If you find one false, say at which input.
  Laid BY PROGRAM, IN A SANDBOX (cutbox-rows.mjs): the forced cells as the released guide's own fill.sh prints them over the translation 45bc02458a32df2a… (all of the seat's roots in one cut). By AI agents, Wed Nov 11 2026. No macro, syntax, notation, axiom, sorry.
-/
import Derived.Test.YtipkeifpkemcdaaChecked
import GoSem.Claim
import GoSem.ClaimJoined
import GoSem.ClaimMapViews
import Derived.JoinedTies
import Derived.KernelRfl
namespace Go.Proofs.Ytipkeifpkemcdaa
/- THE CELL 'sum', in the pinned program and in every row, IS THE sha256 OF THE DUMP (.gsa) THAT YtipkeifpkemcdaaProg.lean LOADS. Nothing in Lean hashes anything: it is a label: what it is worth is what the hold of that sum in a sandbox is worth. -/
noncomputable def Try.pinned : Pinned := { name := "ytipkeifpkemcdaa", sum := "45bc02458a32df2ac92e872f0c467253e8895992029c4d0319fb7dbc885e7a2f", checked := Try.checked }
namespace Rows
def none {H : Type} : Left H := { results := [], args := [] }

/-- 'locksmithlaw5.StoreCodes': WHATEVER THE INPUT: true; the input reads as it did. -/
def storeCodesSpec : ChangeSpec := { name := "storeCodes", fn := fun _ => fun
  | [d1, d2, d3, d4, d5, d6, d7] => { results := [.lit (.bool true)], args := [d1, d2, d3, d4, d5, d6, d7] }
  | _ => none }
def storeCodesRow : OpenClaim := { program := "ytipkeifpkemcdaa", sum := "45bc02458a32df2ac92e872f0c467253e8895992029c4d0319fb7dbc885e7a2f", func := "locksmith/locksmithlaw5.StoreCodes", spec := "storeCodes", inPlace := ["maps.clone"], unfollowed := true, recurses := true, apart := false }
def StoreCodesSaid : Prop := storeCodesRow.holds Try.pinned (OpenSpec.ofChange storeCodesSpec)

/-- ITS FALSE NEIGHBOUR: 'it returns false'. Refute it at one input. -/
def storeCodesWrong : ChangeSpec := { name := "storeCodes", fn := fun _ => fun
  | [d1, d2, d3, d4, d5, d6, d7] => { results := [.lit (.bool false)], args := [d1, d2, d3, d4, d5, d6, d7] }
  | _ => none }
def StoreCodesWrongFalsely : Prop := storeCodesRow.holds Try.pinned (OpenSpec.ofChange storeCodesWrong)

/-- 'locksmithlaw5.StoreBack': WHATEVER THE INPUT: true; the input reads as it did. -/
def storeBackSpec : ChangeSpec := { name := "storeBack", fn := fun _ => fun
  | [d1, d2] => { results := [.lit (.bool true)], args := [d1, d2] }
  | _ => none }
def storeBackRow : OpenClaim := { program := "ytipkeifpkemcdaa", sum := "45bc02458a32df2ac92e872f0c467253e8895992029c4d0319fb7dbc885e7a2f", func := "locksmith/locksmithlaw5.StoreBack", spec := "storeBack", inPlace := ["maps.clone"], unfollowed := true, recurses := true, apart := false }
def StoreBackSaid : Prop := storeBackRow.holds Try.pinned (OpenSpec.ofChange storeBackSpec)

/-- ITS FALSE NEIGHBOUR: 'it returns false'. Refute it at one input. -/
def storeBackWrong : ChangeSpec := { name := "storeBack", fn := fun _ => fun
  | [d1, d2] => { results := [.lit (.bool false)], args := [d1, d2] }
  | _ => none }
def StoreBackWrongFalsely : Prop := storeBackRow.holds Try.pinned (OpenSpec.ofChange storeBackWrong)

/-- 'locksmithlaw5.StoreWhole': WHATEVER THE INPUT: true; the input reads as it did. -/
def storeWholeSpec : ChangeSpec := { name := "storeWhole", fn := fun _ => fun
  | [d1, d2] => { results := [.lit (.bool true)], args := [d1, d2] }
  | _ => none }
def storeWholeRow : OpenClaim := { program := "ytipkeifpkemcdaa", sum := "45bc02458a32df2ac92e872f0c467253e8895992029c4d0319fb7dbc885e7a2f", func := "locksmith/locksmithlaw5.StoreWhole", spec := "storeWhole", inPlace := ["maps.clone"], unfollowed := true, recurses := true, apart := false }
def StoreWholeSaid : Prop := storeWholeRow.holds Try.pinned (OpenSpec.ofChange storeWholeSpec)

/-- ITS FALSE NEIGHBOUR: 'it returns false'. Refute it at one input. -/
def storeWholeWrong : ChangeSpec := { name := "storeWhole", fn := fun _ => fun
  | [d1, d2] => { results := [.lit (.bool false)], args := [d1, d2] }
  | _ => none }
def StoreWholeWrongFalsely : Prop := storeWholeRow.holds Try.pinned (OpenSpec.ofChange storeWholeWrong)

/-- 'locksmithlaw5.StoreAgain': WHATEVER THE INPUT: true; the input reads as it did. -/
def storeAgainSpec : ChangeSpec := { name := "storeAgain", fn := fun _ => fun
  | [d1, d2] => { results := [.lit (.bool true)], args := [d1, d2] }
  | _ => none }
def storeAgainRow : OpenClaim := { program := "ytipkeifpkemcdaa", sum := "45bc02458a32df2ac92e872f0c467253e8895992029c4d0319fb7dbc885e7a2f", func := "locksmith/locksmithlaw5.StoreAgain", spec := "storeAgain", inPlace := ["maps.clone"], unfollowed := true, recurses := true, apart := false }
def StoreAgainSaid : Prop := storeAgainRow.holds Try.pinned (OpenSpec.ofChange storeAgainSpec)

/-- ITS FALSE NEIGHBOUR: 'it returns false'. Refute it at one input. -/
def storeAgainWrong : ChangeSpec := { name := "storeAgain", fn := fun _ => fun
  | [d1, d2] => { results := [.lit (.bool false)], args := [d1, d2] }
  | _ => none }
def StoreAgainWrongFalsely : Prop := storeAgainRow.holds Try.pinned (OpenSpec.ofChange storeAgainWrong)

/-- 'locksmithlaw5.StoreFits': WHATEVER THE INPUT: true; the input reads as it did. -/
def storeFitsSpec : ChangeSpec := { name := "storeFits", fn := fun _ => fun
  | [d1, d2] => { results := [.lit (.bool true)], args := [d1, d2] }
  | _ => none }
def storeFitsRow : OpenClaim := { program := "ytipkeifpkemcdaa", sum := "45bc02458a32df2ac92e872f0c467253e8895992029c4d0319fb7dbc885e7a2f", func := "locksmith/locksmithlaw5.StoreFits", spec := "storeFits", inPlace := ["maps.clone"], unfollowed := true, recurses := true, apart := false }
def StoreFitsSaid : Prop := storeFitsRow.holds Try.pinned (OpenSpec.ofChange storeFitsSpec)

/-- ITS FALSE NEIGHBOUR: 'it returns false'. Refute it at one input. -/
def storeFitsWrong : ChangeSpec := { name := "storeFits", fn := fun _ => fun
  | [d1, d2] => { results := [.lit (.bool false)], args := [d1, d2] }
  | _ => none }
def StoreFitsWrongFalsely : Prop := storeFitsRow.holds Try.pinned (OpenSpec.ofChange storeFitsWrong)

/-- 'locksmithlaw5.StoreKnown': WHATEVER THE INPUT: true; the input reads as it did. -/
def storeKnownSpec : ChangeSpec := { name := "storeKnown", fn := fun _ => fun
  | [] => { results := [.lit (.bool true)], args := [] }
  | _ => none }
def storeKnownRow : OpenClaim := { program := "ytipkeifpkemcdaa", sum := "45bc02458a32df2ac92e872f0c467253e8895992029c4d0319fb7dbc885e7a2f", func := "locksmith/locksmithlaw5.StoreKnown", spec := "storeKnown", inPlace := ["maps.clone"], unfollowed := true, recurses := true, apart := false }
def StoreKnownSaid : Prop := storeKnownRow.holds Try.pinned (OpenSpec.ofChange storeKnownSpec)

/-- ITS FALSE NEIGHBOUR: 'it returns false'. Refute it at one input. -/
def storeKnownWrong : ChangeSpec := { name := "storeKnown", fn := fun _ => fun
  | [] => { results := [.lit (.bool false)], args := [] }
  | _ => none }
def StoreKnownWrongFalsely : Prop := storeKnownRow.holds Try.pinned (OpenSpec.ofChange storeKnownWrong)

/- THE SECOND FORM. 'bulk': how many values and letters a reading holds, each counted each time it is reached (what is shared counts as often as it is met; a slice's spare places count too). A statement '..UptoSaid' is the law's where the arguments, and the package variables that the reading takes, are together of bulk at most 1048576: NARROWER than '..Said'. Prove '..Said' where nothing that the law and all that it calls make is longer than what came in: it says more and counts as full. Else prove '..UptoSaid'. A law counts once. -/
mutual
def uptoBulk {H : Type} : DataW H → Nat
  | .lit (.string bytes) => bytes.length + 1
  | .lit _ => 1
  | .nil => 1
  | .ptr d => uptoBulk d + 1
  | .slice elems spare => uptoBulkAll elems + uptoBulkAll spare + 1
  | .agg parts => uptoBulkAll parts + 1
  | .iface _ d => uptoBulk d + 1
  | .map entries => uptoBulkEntries entries + 1
  | .held _ => 1
def uptoBulkAll {H : Type} : List (DataW H) → Nat
  | [] => 0
  | d :: r => uptoBulk d + uptoBulkAll r
def uptoBulkEntries {H : Type} : List (Lit × DataW H) → Nat
  | [] => 0
  | x :: r => uptoBulkEntry x + uptoBulkEntries r
def uptoBulkEntry {H : Type} : Lit × DataW H → Nat
  | (.string bytes, d) => bytes.length + uptoBulk d + 1
  | (_, d) => uptoBulk d + 1
 end
def uptoSmall : (H : Type) → List (DataW H) → Bool := fun _ ds => decide (uptoBulkAll ds ≤ 1048576)
def OpenSpec.upto (s : _root_.Go.ChangeSpec) : _root_.Go.OpenSpec := { _root_.Go.OpenSpec.ofChange s with cond := some uptoSmall }

/-- 'locksmithlaw5.StoreCodes', WHERE WHAT IT READS IS OF BULK AT MOST 1048576: true; the input reads as it did. -/
def storeCodesUptoRow : OpenClaim := { program := "ytipkeifpkemcdaa", sum := "45bc02458a32df2ac92e872f0c467253e8895992029c4d0319fb7dbc885e7a2f", func := "locksmith/locksmithlaw5.StoreCodes", spec := "storeCodes", inPlace := ["maps.clone"], unfollowed := true, recurses := true, apart := false, narrowed := true }
def StoreCodesUptoSaid : Prop := storeCodesUptoRow.holds Try.pinned (OpenSpec.upto storeCodesSpec)

/-- 'locksmithlaw5.StoreBack', WHERE WHAT IT READS IS OF BULK AT MOST 1048576: true; the input reads as it did. -/
def storeBackUptoRow : OpenClaim := { program := "ytipkeifpkemcdaa", sum := "45bc02458a32df2ac92e872f0c467253e8895992029c4d0319fb7dbc885e7a2f", func := "locksmith/locksmithlaw5.StoreBack", spec := "storeBack", inPlace := ["maps.clone"], unfollowed := true, recurses := true, apart := false, narrowed := true }
def StoreBackUptoSaid : Prop := storeBackUptoRow.holds Try.pinned (OpenSpec.upto storeBackSpec)

/-- 'locksmithlaw5.StoreWhole', WHERE WHAT IT READS IS OF BULK AT MOST 1048576: true; the input reads as it did. -/
def storeWholeUptoRow : OpenClaim := { program := "ytipkeifpkemcdaa", sum := "45bc02458a32df2ac92e872f0c467253e8895992029c4d0319fb7dbc885e7a2f", func := "locksmith/locksmithlaw5.StoreWhole", spec := "storeWhole", inPlace := ["maps.clone"], unfollowed := true, recurses := true, apart := false, narrowed := true }
def StoreWholeUptoSaid : Prop := storeWholeUptoRow.holds Try.pinned (OpenSpec.upto storeWholeSpec)

/-- 'locksmithlaw5.StoreAgain', WHERE WHAT IT READS IS OF BULK AT MOST 1048576: true; the input reads as it did. -/
def storeAgainUptoRow : OpenClaim := { program := "ytipkeifpkemcdaa", sum := "45bc02458a32df2ac92e872f0c467253e8895992029c4d0319fb7dbc885e7a2f", func := "locksmith/locksmithlaw5.StoreAgain", spec := "storeAgain", inPlace := ["maps.clone"], unfollowed := true, recurses := true, apart := false, narrowed := true }
def StoreAgainUptoSaid : Prop := storeAgainUptoRow.holds Try.pinned (OpenSpec.upto storeAgainSpec)

/-- 'locksmithlaw5.StoreFits', WHERE WHAT IT READS IS OF BULK AT MOST 1048576: true; the input reads as it did. -/
def storeFitsUptoRow : OpenClaim := { program := "ytipkeifpkemcdaa", sum := "45bc02458a32df2ac92e872f0c467253e8895992029c4d0319fb7dbc885e7a2f", func := "locksmith/locksmithlaw5.StoreFits", spec := "storeFits", inPlace := ["maps.clone"], unfollowed := true, recurses := true, apart := false, narrowed := true }
def StoreFitsUptoSaid : Prop := storeFitsUptoRow.holds Try.pinned (OpenSpec.upto storeFitsSpec)

/-- 'locksmithlaw5.StoreKnown', WHERE WHAT IT READS IS OF BULK AT MOST 1048576: true; the input reads as it did. -/
def storeKnownUptoRow : OpenClaim := { program := "ytipkeifpkemcdaa", sum := "45bc02458a32df2ac92e872f0c467253e8895992029c4d0319fb7dbc885e7a2f", func := "locksmith/locksmithlaw5.StoreKnown", spec := "storeKnown", inPlace := ["maps.clone"], unfollowed := true, recurses := true, apart := false, narrowed := true }
def StoreKnownUptoSaid : Prop := storeKnownUptoRow.holds Try.pinned (OpenSpec.upto storeKnownSpec)

end Rows
end Go.Proofs.Ytipkeifpkemcdaa

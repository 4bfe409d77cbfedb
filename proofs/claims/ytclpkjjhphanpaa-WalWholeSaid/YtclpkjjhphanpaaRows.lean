/-
  No cell of these rows narrows 'for every input' (looked for: loops, veiled, ifaces, maps, wideKeys, modest, calm, conditions, laid).
  DERIVED. THE GIVEN ROWS OF THIS SEAT. 3 by the template 'for every input the law returns true; each argument reads behind the call as it read before'; 0 by the template 'total and deterministic' (their statements: YtclpkjjhphanpaaTotals.lean).
  GIVEN WITH THE SEED: the statements are not yours to turn. If you find one false, say at which input.
  Laid BY PROGRAM, IN A SANDBOX (cutbox-rows.mjs): the forced cells as the released guide's own fill.sh prints them over the translation 97136fc48fc1fabb… (all of the seat's roots in one cut). By AI agents, Wed Nov 11 2026. No macro, syntax, notation, axiom, sorry.
-/
import Derived.Test.YtclpkjjhphanpaaChecked
import GoSem.Claim
import GoSem.ClaimJoined
import GoSem.ClaimMapViews
import Derived.JoinedTies
import Derived.KernelRfl
namespace Go.Proofs.Ytclpkjjhphanpaa
/- THE CELL 'sum', in the pinned program and in every row, IS THE sha256 OF THE DUMP (.gsa) THAT YtclpkjjhphanpaaProg.lean LOADS. Nothing in Lean hashes anything: it is a label: what it is worth is what the hold of that sum in a sandbox is worth. -/
noncomputable def Try.pinned : Pinned := { name := "ytclpkjjhphanpaa", sum := "97136fc48fc1fabb9dd1c6e87ba031f4918781a2e0d3c6f357228bfb7a04c4d7", checked := Try.checked }
namespace Rows
def none {H : Type} : Left H := { results := [], args := [] }

/-- 'locksmithlaw4.WalKnown': WHATEVER THE INPUT: true; the input reads as it did. -/
def walKnownSpec : ChangeSpec := { name := "walKnown", fn := fun _ => fun
  | [] => { results := [.lit (.bool true)], args := [] }
  | _ => none }
def walKnownRow : OpenClaim := { program := "ytclpkjjhphanpaa", sum := "97136fc48fc1fabb9dd1c6e87ba031f4918781a2e0d3c6f357228bfb7a04c4d7", func := "locksmith/locksmithlaw4.WalKnown", spec := "walKnown", unfollowed := true, recurses := true, apart := false }
def WalKnownSaid : Prop := walKnownRow.holds Try.pinned (OpenSpec.ofChange walKnownSpec)

/-- ITS FALSE NEIGHBOUR: 'it returns false'. Refute it at one input. -/
def walKnownWrong : ChangeSpec := { name := "walKnown", fn := fun _ => fun
  | [] => { results := [.lit (.bool false)], args := [] }
  | _ => none }
def WalKnownWrongFalsely : Prop := walKnownRow.holds Try.pinned (OpenSpec.ofChange walKnownWrong)

/-- 'locksmithlaw4.WalRoom': WHATEVER THE INPUT: true; the input reads as it did. -/
def walRoomSpec : ChangeSpec := { name := "walRoom", fn := fun _ => fun
  | [d1, d2] => { results := [.lit (.bool true)], args := [d1, d2] }
  | _ => none }
def walRoomRow : OpenClaim := { program := "ytclpkjjhphanpaa", sum := "97136fc48fc1fabb9dd1c6e87ba031f4918781a2e0d3c6f357228bfb7a04c4d7", func := "locksmith/locksmithlaw4.WalRoom", spec := "walRoom", unfollowed := true, recurses := true, apart := false }
def WalRoomSaid : Prop := walRoomRow.holds Try.pinned (OpenSpec.ofChange walRoomSpec)

/-- ITS FALSE NEIGHBOUR: 'it returns false'. Refute it at one input. -/
def walRoomWrong : ChangeSpec := { name := "walRoom", fn := fun _ => fun
  | [d1, d2] => { results := [.lit (.bool false)], args := [d1, d2] }
  | _ => none }
def WalRoomWrongFalsely : Prop := walRoomRow.holds Try.pinned (OpenSpec.ofChange walRoomWrong)

/-- 'locksmithlaw4.WalWhole': WHATEVER THE INPUT: true; the input reads as it did. -/
def walWholeSpec : ChangeSpec := { name := "walWhole", fn := fun _ => fun
  | [d1, d2] => { results := [.lit (.bool true)], args := [d1, d2] }
  | _ => none }
def walWholeRow : OpenClaim := { program := "ytclpkjjhphanpaa", sum := "97136fc48fc1fabb9dd1c6e87ba031f4918781a2e0d3c6f357228bfb7a04c4d7", func := "locksmith/locksmithlaw4.WalWhole", spec := "walWhole", unfollowed := true, recurses := true, apart := false }
def WalWholeSaid : Prop := walWholeRow.holds Try.pinned (OpenSpec.ofChange walWholeSpec)

/-- ITS FALSE NEIGHBOUR: 'it returns false'. Refute it at one input. -/
def walWholeWrong : ChangeSpec := { name := "walWhole", fn := fun _ => fun
  | [d1, d2] => { results := [.lit (.bool false)], args := [d1, d2] }
  | _ => none }
def WalWholeWrongFalsely : Prop := walWholeRow.holds Try.pinned (OpenSpec.ofChange walWholeWrong)

/- THE SECOND FORM. 'bulk': how many values and letters a reading holds, each counted each time it is reached (what is shared counts as often as it is met; a slice's spare places count too). A statement '..UptoSaid' is the law's where the arguments, and the package variables that the reading takes, are together of bulk at most 1048576: NARROWER than '..Said'. Prove '..Said' where nothing that the law and all that it calls make is longer than what came in: it says more and counts as full. Else prove '..UptoSaid'. A law counts once. -/
mutual
def uptoBulk {H : Type} : DataW H → Nat
  | .lit (.string bytes) => bytes.length + 1
  | .lit _ => 1
  | .nil => 1
  | .ptr d => uptoBulk d + 1
  | .slice elems spare => uptoBulkAll elems + uptoBulkAll spare + 1
  | .agg parts => uptoBulkAll parts + 1
  | .iface _ d => uptoBulk d + 1
  | .map entries => uptoBulkEntries entries + 1
  | .held _ => 1
def uptoBulkAll {H : Type} : List (DataW H) → Nat
  | [] => 0
  | d :: r => uptoBulk d + uptoBulkAll r
def uptoBulkEntries {H : Type} : List (Lit × DataW H) → Nat
  | [] => 0
  | x :: r => uptoBulkEntry x + uptoBulkEntries r
def uptoBulkEntry {H : Type} : Lit × DataW H → Nat
  | (.string bytes, d) => bytes.length + uptoBulk d + 1
  | (_, d) => uptoBulk d + 1
 end
def uptoSmall : (H : Type) → List (DataW H) → Bool := fun _ ds => decide (uptoBulkAll ds ≤ 1048576)
def OpenSpec.upto (s : _root_.Go.ChangeSpec) : _root_.Go.OpenSpec := { _root_.Go.OpenSpec.ofChange s with cond := some uptoSmall }

/-- 'locksmithlaw4.WalKnown', WHERE WHAT IT READS IS OF BULK AT MOST 1048576: true; the input reads as it did. -/
def walKnownUptoRow : OpenClaim := { program := "ytclpkjjhphanpaa", sum := "97136fc48fc1fabb9dd1c6e87ba031f4918781a2e0d3c6f357228bfb7a04c4d7", func := "locksmith/locksmithlaw4.WalKnown", spec := "walKnown", unfollowed := true, recurses := true, apart := false, narrowed := true }
def WalKnownUptoSaid : Prop := walKnownUptoRow.holds Try.pinned (OpenSpec.upto walKnownSpec)

/-- 'locksmithlaw4.WalRoom', WHERE WHAT IT READS IS OF BULK AT MOST 1048576: true; the input reads as it did. -/
def walRoomUptoRow : OpenClaim := { program := "ytclpkjjhphanpaa", sum := "97136fc48fc1fabb9dd1c6e87ba031f4918781a2e0d3c6f357228bfb7a04c4d7", func := "locksmith/locksmithlaw4.WalRoom", spec := "walRoom", unfollowed := true, recurses := true, apart := false, narrowed := true }
def WalRoomUptoSaid : Prop := walRoomUptoRow.holds Try.pinned (OpenSpec.upto walRoomSpec)

/-- 'locksmithlaw4.WalWhole', WHERE WHAT IT READS IS OF BULK AT MOST 1048576: true; the input reads as it did. -/
def walWholeUptoRow : OpenClaim := { program := "ytclpkjjhphanpaa", sum := "97136fc48fc1fabb9dd1c6e87ba031f4918781a2e0d3c6f357228bfb7a04c4d7", func := "locksmith/locksmithlaw4.WalWhole", spec := "walWhole", unfollowed := true, recurses := true, apart := false, narrowed := true }
def WalWholeUptoSaid : Prop := walWholeUptoRow.holds Try.pinned (OpenSpec.upto walWholeSpec)

end Rows
end Go.Proofs.Ytclpkjjhphanpaa

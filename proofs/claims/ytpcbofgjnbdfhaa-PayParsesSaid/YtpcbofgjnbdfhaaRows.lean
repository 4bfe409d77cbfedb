/-
  No cell of these rows narrows 'for every input' (looked for: loops, veiled, ifaces, maps, wideKeys, modest, calm, conditions, laid).
  DERIVED. THE GIVEN ROWS OF THIS SEAT. 4 by the template 'for every input the law returns true; each argument reads behind the call as it read before'; 0 by the template 'total and deterministic' (their statements: YtpcbofgjnbdfhaaTotals.lean).
  GIVEN WITH THE SEED: the statements are not yours to turn. If you find one false, say at which input.
  Laid BY PROGRAM, IN A SANDBOX (cutbox-rows.mjs): the forced cells as the released guide's own fill.sh prints them over the translation 0c894019c275a269… (all of the seat's roots in one cut). By AI agents, Wed Nov 11 2026. No macro, syntax, notation, axiom, sorry.
-/
import Derived.Test.YtpcbofgjnbdfhaaChecked
import GoSem.Claim
import GoSem.ClaimJoined
import GoSem.ClaimMapViews
import Derived.JoinedTies
import Derived.KernelRfl
namespace Go.Proofs.Ytpcbofgjnbdfhaa
/- THE CELL 'sum', in the pinned program and in every row, IS THE sha256 OF THE DUMP (.gsa) THAT YtpcbofgjnbdfhaaProg.lean LOADS. Nothing in Lean hashes anything: it is a label: what it is worth is what the hold of that sum in a sandbox is worth. -/
noncomputable def Try.pinned : Pinned := { name := "ytpcbofgjnbdfhaa", sum := "0c894019c275a26921bab321e3eb0982e82514e641e8f6995b9295f0d08a5a6c", checked := Try.checked }
namespace Rows
def none {H : Type} : Left H := { results := [], args := [] }

/-- 'locksmithlaw15.PayParses': WHATEVER THE INPUT: true; the input reads as it did. -/
def payParsesSpec : ChangeSpec := { name := "payParses", fn := fun _ => fun
  | [d1, d2, d3, d4] => { results := [.lit (.bool true)], args := [d1, d2, d3, d4] }
  | _ => none }
def payParsesRow : OpenClaim := { program := "ytpcbofgjnbdfhaa", sum := "0c894019c275a26921bab321e3eb0982e82514e641e8f6995b9295f0d08a5a6c", func := "locksmith/locksmithlaw15.PayParses", spec := "payParses", recurses := true, apart := false }
def PayParsesSaid : Prop := payParsesRow.holds Try.pinned (OpenSpec.ofChange payParsesSpec)

/-- ITS FALSE NEIGHBOUR: 'it returns false'. Refute it at one input. -/
def payParsesWrong : ChangeSpec := { name := "payParses", fn := fun _ => fun
  | [d1, d2, d3, d4] => { results := [.lit (.bool false)], args := [d1, d2, d3, d4] }
  | _ => none }
def PayParsesWrongFalsely : Prop := payParsesRow.holds Try.pinned (OpenSpec.ofChange payParsesWrong)

/-- 'locksmithlaw15.PayMakes': WHATEVER THE INPUT: true; the input reads as it did. -/
def payMakesSpec : ChangeSpec := { name := "payMakes", fn := fun _ => fun
  | [d1, d2, d3, d4, d5, d6] => { results := [.lit (.bool true)], args := [d1, d2, d3, d4, d5, d6] }
  | _ => none }
def payMakesRow : OpenClaim := { program := "ytpcbofgjnbdfhaa", sum := "0c894019c275a26921bab321e3eb0982e82514e641e8f6995b9295f0d08a5a6c", func := "locksmith/locksmithlaw15.PayMakes", spec := "payMakes", recurses := true, apart := false }
def PayMakesSaid : Prop := payMakesRow.holds Try.pinned (OpenSpec.ofChange payMakesSpec)

/-- ITS FALSE NEIGHBOUR: 'it returns false'. Refute it at one input. -/
def payMakesWrong : ChangeSpec := { name := "payMakes", fn := fun _ => fun
  | [d1, d2, d3, d4, d5, d6] => { results := [.lit (.bool false)], args := [d1, d2, d3, d4, d5, d6] }
  | _ => none }
def PayMakesWrongFalsely : Prop := payMakesRow.holds Try.pinned (OpenSpec.ofChange payMakesWrong)

/-- 'locksmithlaw15.PayBack': WHATEVER THE INPUT: true; the input reads as it did. -/
def payBackSpec : ChangeSpec := { name := "payBack", fn := fun _ => fun
  | [d] => { results := [.lit (.bool true)], args := [d] }
  | _ => none }
def payBackRow : OpenClaim := { program := "ytpcbofgjnbdfhaa", sum := "0c894019c275a26921bab321e3eb0982e82514e641e8f6995b9295f0d08a5a6c", func := "locksmith/locksmithlaw15.PayBack", spec := "payBack", recurses := true, apart := false }
def PayBackSaid : Prop := payBackRow.holds Try.pinned (OpenSpec.ofChange payBackSpec)

/-- ITS FALSE NEIGHBOUR: 'it returns false'. Refute it at one input. -/
def payBackWrong : ChangeSpec := { name := "payBack", fn := fun _ => fun
  | [d] => { results := [.lit (.bool false)], args := [d] }
  | _ => none }
def PayBackWrongFalsely : Prop := payBackRow.holds Try.pinned (OpenSpec.ofChange payBackWrong)

/-- 'locksmithlaw15.PayKnown': WHATEVER THE INPUT: true; the input reads as it did. -/
def payKnownSpec : ChangeSpec := { name := "payKnown", fn := fun _ => fun
  | [] => { results := [.lit (.bool true)], args := [] }
  | _ => none }
def payKnownRow : OpenClaim := { program := "ytpcbofgjnbdfhaa", sum := "0c894019c275a26921bab321e3eb0982e82514e641e8f6995b9295f0d08a5a6c", func := "locksmith/locksmithlaw15.PayKnown", spec := "payKnown", recurses := true, apart := false }
def PayKnownSaid : Prop := payKnownRow.holds Try.pinned (OpenSpec.ofChange payKnownSpec)

/-- ITS FALSE NEIGHBOUR: 'it returns false'. Refute it at one input. -/
def payKnownWrong : ChangeSpec := { name := "payKnown", fn := fun _ => fun
  | [] => { results := [.lit (.bool false)], args := [] }
  | _ => none }
def PayKnownWrongFalsely : Prop := payKnownRow.holds Try.pinned (OpenSpec.ofChange payKnownWrong)

/- THE SECOND FORM. 'bulk': how many values and letters a reading holds, each counted each time it is reached (what is shared counts as often as it is met; a slice's spare places count too). A statement '..UptoSaid' is the law's where the arguments, and the package variables that the reading takes, are together of bulk at most 1048576: NARROWER than '..Said'. Prove '..Said' where nothing that the law and all that it calls make is longer than what came in: it says more and counts as full. Else prove '..UptoSaid'. A law counts once. -/
mutual
def uptoBulk {H : Type} : DataW H → Nat
  | .lit (.string bytes) => bytes.length + 1
  | .lit _ => 1
  | .nil => 1
  | .ptr d => uptoBulk d + 1
  | .slice elems spare => uptoBulkAll elems + uptoBulkAll spare + 1
  | .agg parts => uptoBulkAll parts + 1
  | .iface _ d => uptoBulk d + 1
  | .map entries => uptoBulkEntries entries + 1
  | .held _ => 1
def uptoBulkAll {H : Type} : List (DataW H) → Nat
  | [] => 0
  | d :: r => uptoBulk d + uptoBulkAll r
def uptoBulkEntries {H : Type} : List (Lit × DataW H) → Nat
  | [] => 0
  | x :: r => uptoBulkEntry x + uptoBulkEntries r
def uptoBulkEntry {H : Type} : Lit × DataW H → Nat
  | (.string bytes, d) => bytes.length + uptoBulk d + 1
  | (_, d) => uptoBulk d + 1
 end
def uptoSmall : (H : Type) → List (DataW H) → Bool := fun _ ds => decide (uptoBulkAll ds ≤ 1048576)
def OpenSpec.upto (s : _root_.Go.ChangeSpec) : _root_.Go.OpenSpec := { _root_.Go.OpenSpec.ofChange s with cond := some uptoSmall }

/-- 'locksmithlaw15.PayParses', WHERE WHAT IT READS IS OF BULK AT MOST 1048576: true; the input reads as it did. -/
def payParsesUptoRow : OpenClaim := { program := "ytpcbofgjnbdfhaa", sum := "0c894019c275a26921bab321e3eb0982e82514e641e8f6995b9295f0d08a5a6c", func := "locksmith/locksmithlaw15.PayParses", spec := "payParses", recurses := true, apart := false, narrowed := true }
def PayParsesUptoSaid : Prop := payParsesUptoRow.holds Try.pinned (OpenSpec.upto payParsesSpec)

/-- 'locksmithlaw15.PayMakes', WHERE WHAT IT READS IS OF BULK AT MOST 1048576: true; the input reads as it did. -/
def payMakesUptoRow : OpenClaim := { program := "ytpcbofgjnbdfhaa", sum := "0c894019c275a26921bab321e3eb0982e82514e641e8f6995b9295f0d08a5a6c", func := "locksmith/locksmithlaw15.PayMakes", spec := "payMakes", recurses := true, apart := false, narrowed := true }
def PayMakesUptoSaid : Prop := payMakesUptoRow.holds Try.pinned (OpenSpec.upto payMakesSpec)

/-- 'locksmithlaw15.PayBack', WHERE WHAT IT READS IS OF BULK AT MOST 1048576: true; the input reads as it did. -/
def payBackUptoRow : OpenClaim := { program := "ytpcbofgjnbdfhaa", sum := "0c894019c275a26921bab321e3eb0982e82514e641e8f6995b9295f0d08a5a6c", func := "locksmith/locksmithlaw15.PayBack", spec := "payBack", recurses := true, apart := false, narrowed := true }
def PayBackUptoSaid : Prop := payBackUptoRow.holds Try.pinned (OpenSpec.upto payBackSpec)

/-- 'locksmithlaw15.PayKnown', WHERE WHAT IT READS IS OF BULK AT MOST 1048576: true; the input reads as it did. -/
def payKnownUptoRow : OpenClaim := { program := "ytpcbofgjnbdfhaa", sum := "0c894019c275a26921bab321e3eb0982e82514e641e8f6995b9295f0d08a5a6c", func := "locksmith/locksmithlaw15.PayKnown", spec := "payKnown", recurses := true, apart := false, narrowed := true }
def PayKnownUptoSaid : Prop := payKnownUptoRow.holds Try.pinned (OpenSpec.upto payKnownSpec)

end Rows
end Go.Proofs.Ytpcbofgjnbdfhaa

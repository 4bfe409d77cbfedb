/-
  NARROWER THAN 'FOR EVERY INPUT', by the rows' own cells (each row's printed sentence says how): ReqsReads: laid · ReqsLays: laid · ReqsBack: laid.
  DERIVED. THE GIVEN ROWS OF THIS SEAT. 3 by the template 'for every input the law returns true; each argument reads behind the call as it read before'; 0 by the template 'total and deterministic' (their statements: YtbnbofooofedkaaDoorTotals.lean).
  GIVEN WITH THE SEED: the statements are not yours to turn. If you find one false, say at which input.
  Laid BY PROGRAM, IN A SANDBOX (cutbox-rows.mjs): the forced cells as the released guide's own fill.sh prints them over the translation d789136e9d087349… (all of the seat's roots in one cut). By AI agents, Wed Nov 11 2026. No macro, syntax, notation, axiom, sorry.
-/
import Derived.Test.YtbnbofooofedkaaDoorChecked
import GoSem.Claim
import GoSem.ClaimJoined
import GoSem.ClaimMapViews
import Derived.JoinedTies
import Derived.KernelRfl
namespace Go.Proofs.YtbnbofooofedkaaDoor
/- THE CELL 'sum', in the pinned program and in every row, IS THE sha256 OF THE DUMP (.gsa) THAT YtbnbofooofedkaaDoorProg.lean LOADS. Nothing in Lean hashes anything: it is a label: what it is worth is what the hold of that sum in a sandbox is worth. -/
noncomputable def Tryd.pinned : Pinned := { name := "ytbnbofooofedkaadoor", sum := "d789136e9d08734934d0e17b35874995038819e222430254111aec0b4b6a4d73", checked := Tryd.checked }
namespace Rows
def none {H : Type} : Left H := { results := [], args := [] }

/- WHAT THE LISTED PACKAGE-LEVEL VARIABLES READ AS WHEN THE CALL BEGINS. Each datum BY PROGRAM (the guide's laid-datum.mjs) off the statement by which the dump's own 'gosem.cut.vars' lays the variable. In a bare row this is a premise. The card (YtbnbofooofedkaaDoorCards.lean) ties it to the program's text. -/
def laid_locksmith_locksmithhand_names {H : Type} : DataW H := .agg [.lit (.string [85, 110, 105, 113, 117, 101, 32, 73, 100, 101, 110, 116, 105, 102, 105, 101, 114]), .lit (.string [78, 97, 109, 101]), .lit (.string [79, 98, 106, 101, 99, 116, 32, 84, 121, 112, 101]), .lit (.string [67, 114, 121, 112, 116, 111, 103, 114, 97, 112, 104, 105, 99, 32, 65, 108, 103, 111, 114, 105, 116, 104, 109]), .lit (.string [67, 114, 121, 112, 116, 111, 103, 114, 97, 112, 104, 105, 99, 32, 76, 101, 110, 103, 116, 104]), .lit (.string [67, 114, 121, 112, 116, 111, 103, 114, 97, 112, 104, 105, 99, 32, 85, 115, 97, 103, 101, 32, 77, 97, 115, 107]), .lit (.string [83, 116, 97, 116, 101]), .lit (.string [73, 110, 105, 116, 105, 97, 108, 32, 68, 97, 116, 101]), .lit (.string [65, 99, 116, 105, 118, 97, 116, 105, 111, 110, 32, 68, 97, 116, 101]), .lit (.string [80, 114, 111, 99, 101, 115, 115, 32, 83, 116, 97, 114, 116, 32, 68, 97, 116, 101]), .lit (.string [80, 114, 111, 116, 101, 99, 116, 32, 83, 116, 111, 112, 32, 68, 97, 116, 101]), .lit (.string [68, 101, 97, 99, 116, 105, 118, 97, 116, 105, 111, 110, 32, 68, 97, 116, 101]), .lit (.string [68, 101, 115, 116, 114, 111, 121, 32, 68, 97, 116, 101]), .lit (.string [67, 111, 109, 112, 114, 111, 109, 105, 115, 101, 32, 79, 99, 99, 117, 114, 114, 101, 110, 99, 101, 32, 68, 97, 116, 101]), .lit (.string [67, 111, 109, 112, 114, 111, 109, 105, 115, 101, 32, 68, 97, 116, 101]), .lit (.string [65, 114, 99, 104, 105, 118, 101, 32, 68, 97, 116, 101]), .lit (.string [76, 97, 115, 116, 32, 67, 104, 97, 110, 103, 101, 32, 68, 97, 116, 101]), .lit (.string [82, 101, 118, 111, 99, 97, 116, 105, 111, 110, 32, 82, 101, 97, 115, 111, 110]), .lit (.string [76, 105, 110, 107]), .lit (.string [85, 115, 97, 103, 101, 32, 76, 105, 109, 105, 116, 115]), .lit (.string [120, 45, 97]), .lit (.string [120, 45, 98]), .lit (.string [120, 45]), .lit (.string [121])]
def laid_locksmith_locksmithhand_kinds {H : Type} : DataW H := .agg [.lit (.int .i64 1), .lit (.int .i64 1), .lit (.int .i64 1), .lit (.int .i64 2), .lit (.int .i64 3), .lit (.int .i64 3), .lit (.int .i64 4), .lit (.int .i64 8), .lit (.int .i64 9), .lit (.int .i64 10), .lit (.int .i64 11), .lit (.int .i64 12), .lit (.int .i64 13), .lit (.int .i64 14), .lit (.int .i64 15), .lit (.int .i64 17), .lit (.int .i64 18), .lit (.int .i64 18), .lit (.int .i64 19), .lit (.int .i64 20), .lit (.int .i64 21), .lit (.int .i64 22), .lit (.int .i64 24), .lit (.int .i64 30), .lit (.int .i64 31), .lit (.int .i64 32), .lit (.int .i64 35), .lit (.int .i64 36)]

/-- 'locksmithlaw16.ReqsReads': WHATEVER THE INPUT: true; the input reads as it did. -/
def reqsReadsSpec : ChangeSpec := { name := "reqsReads", fn := fun _ => fun
  | [d1, d2, d3, d4, d5, d6] => { results := [.lit (.bool true)], args := [d1, d2, d3, d4, d5, d6] }
  | _ => none }
def reqsReadsRow : OpenClaim := { program := "ytbnbofooofedkaadoor", sum := "d789136e9d08734934d0e17b35874995038819e222430254111aec0b4b6a4d73", func := "locksmith/locksmithlaw16.ReqsReads", spec := "reqsReads", unfollowed := true, recurses := true, named := ["locksmith/locksmithhand.kinds", "locksmith/locksmithhand.names"], apart := false, laid := [("locksmith/locksmithhand.names", laid_locksmith_locksmithhand_names), ("locksmith/locksmithhand.kinds", laid_locksmith_locksmithhand_kinds)] }
def ReqsReadsSaid : Prop := reqsReadsRow.holds Tryd.pinned (OpenSpec.ofChange reqsReadsSpec)

/-- ITS FALSE NEIGHBOUR: 'it returns false'. Refute it at one input. -/
def reqsReadsWrong : ChangeSpec := { name := "reqsReads", fn := fun _ => fun
  | [d1, d2, d3, d4, d5, d6] => { results := [.lit (.bool false)], args := [d1, d2, d3, d4, d5, d6] }
  | _ => none }
def ReqsReadsWrongFalsely : Prop := reqsReadsRow.holds Tryd.pinned (OpenSpec.ofChange reqsReadsWrong)

/-- 'locksmithlaw16.ReqsLays': WHATEVER THE INPUT: true; the input reads as it did. -/
def reqsLaysSpec : ChangeSpec := { name := "reqsLays", fn := fun _ => fun
  | [d1, d2, d3, d4, d5] => { results := [.lit (.bool true)], args := [d1, d2, d3, d4, d5] }
  | _ => none }
def reqsLaysRow : OpenClaim := { program := "ytbnbofooofedkaadoor", sum := "d789136e9d08734934d0e17b35874995038819e222430254111aec0b4b6a4d73", func := "locksmith/locksmithlaw16.ReqsLays", spec := "reqsLays", unfollowed := true, recurses := true, named := ["locksmith/locksmithhand.kinds", "locksmith/locksmithhand.names"], apart := false, laid := [("locksmith/locksmithhand.names", laid_locksmith_locksmithhand_names), ("locksmith/locksmithhand.kinds", laid_locksmith_locksmithhand_kinds)] }
def ReqsLaysSaid : Prop := reqsLaysRow.holds Tryd.pinned (OpenSpec.ofChange reqsLaysSpec)

/-- ITS FALSE NEIGHBOUR: 'it returns false'. Refute it at one input. -/
def reqsLaysWrong : ChangeSpec := { name := "reqsLays", fn := fun _ => fun
  | [d1, d2, d3, d4, d5] => { results := [.lit (.bool false)], args := [d1, d2, d3, d4, d5] }
  | _ => none }
def ReqsLaysWrongFalsely : Prop := reqsLaysRow.holds Tryd.pinned (OpenSpec.ofChange reqsLaysWrong)

/-- 'locksmithlaw16.ReqsBack': WHATEVER THE INPUT: true; the input reads as it did. -/
def reqsBackSpec : ChangeSpec := { name := "reqsBack", fn := fun _ => fun
  | [d1, d2, d3] => { results := [.lit (.bool true)], args := [d1, d2, d3] }
  | _ => none }
def reqsBackRow : OpenClaim := { program := "ytbnbofooofedkaadoor", sum := "d789136e9d08734934d0e17b35874995038819e222430254111aec0b4b6a4d73", func := "locksmith/locksmithlaw16.ReqsBack", spec := "reqsBack", unfollowed := true, recurses := true, named := ["locksmith/locksmithhand.kinds", "locksmith/locksmithhand.names"], apart := false, laid := [("locksmith/locksmithhand.names", laid_locksmith_locksmithhand_names), ("locksmith/locksmithhand.kinds", laid_locksmith_locksmithhand_kinds)] }
def ReqsBackSaid : Prop := reqsBackRow.holds Tryd.pinned (OpenSpec.ofChange reqsBackSpec)

/-- ITS FALSE NEIGHBOUR: 'it returns false'. Refute it at one input. -/
def reqsBackWrong : ChangeSpec := { name := "reqsBack", fn := fun _ => fun
  | [d1, d2, d3] => { results := [.lit (.bool false)], args := [d1, d2, d3] }
  | _ => none }
def ReqsBackWrongFalsely : Prop := reqsBackRow.holds Tryd.pinned (OpenSpec.ofChange reqsBackWrong)

/- THE SECOND FORM. 'bulk': how many values and letters a reading holds, each counted each time it is reached (what is shared counts as often as it is met; a slice's spare places count too). A statement '..UptoSaid' is the law's where the arguments, and the package variables that the reading takes, are together of bulk at most 1048576: NARROWER than '..Said'. Prove '..Said' where nothing that the law and all that it calls make is longer than what came in: it says more and counts as full. Else prove '..UptoSaid'. A law counts once. -/
mutual
def uptoBulk {H : Type} : DataW H → Nat
  | .lit (.string bytes) => bytes.length + 1
  | .lit _ => 1
  | .nil => 1
  | .ptr d => uptoBulk d + 1
  | .slice elems spare => uptoBulkAll elems + uptoBulkAll spare + 1
  | .agg parts => uptoBulkAll parts + 1
  | .iface _ d => uptoBulk d + 1
  | .map entries => uptoBulkEntries entries + 1
  | .held _ => 1
def uptoBulkAll {H : Type} : List (DataW H) → Nat
  | [] => 0
  | d :: r => uptoBulk d + uptoBulkAll r
def uptoBulkEntries {H : Type} : List (Lit × DataW H) → Nat
  | [] => 0
  | x :: r => uptoBulkEntry x + uptoBulkEntries r
def uptoBulkEntry {H : Type} : Lit × DataW H → Nat
  | (.string bytes, d) => bytes.length + uptoBulk d + 1
  | (_, d) => uptoBulk d + 1
 end
def uptoSmall : (H : Type) → List (DataW H) → Bool := fun _ ds => decide (uptoBulkAll ds ≤ 1048576)
def OpenSpec.upto (s : _root_.Go.ChangeSpec) : _root_.Go.OpenSpec := { _root_.Go.OpenSpec.ofChange s with cond := some uptoSmall }

/-- 'locksmithlaw16.ReqsReads', WHERE WHAT IT READS IS OF BULK AT MOST 1048576: true; the input reads as it did. -/
def reqsReadsUptoRow : OpenClaim := { program := "ytbnbofooofedkaadoor", sum := "d789136e9d08734934d0e17b35874995038819e222430254111aec0b4b6a4d73", func := "locksmith/locksmithlaw16.ReqsReads", spec := "reqsReads", unfollowed := true, recurses := true, named := ["locksmith/locksmithhand.kinds", "locksmith/locksmithhand.names"], apart := false, laid := [("locksmith/locksmithhand.names", laid_locksmith_locksmithhand_names), ("locksmith/locksmithhand.kinds", laid_locksmith_locksmithhand_kinds)], narrowed := true }
def ReqsReadsUptoSaid : Prop := reqsReadsUptoRow.holds Tryd.pinned (OpenSpec.upto reqsReadsSpec)

/-- 'locksmithlaw16.ReqsLays', WHERE WHAT IT READS IS OF BULK AT MOST 1048576: true; the input reads as it did. -/
def reqsLaysUptoRow : OpenClaim := { program := "ytbnbofooofedkaadoor", sum := "d789136e9d08734934d0e17b35874995038819e222430254111aec0b4b6a4d73", func := "locksmith/locksmithlaw16.ReqsLays", spec := "reqsLays", unfollowed := true, recurses := true, named := ["locksmith/locksmithhand.kinds", "locksmith/locksmithhand.names"], apart := false, laid := [("locksmith/locksmithhand.names", laid_locksmith_locksmithhand_names), ("locksmith/locksmithhand.kinds", laid_locksmith_locksmithhand_kinds)], narrowed := true }
def ReqsLaysUptoSaid : Prop := reqsLaysUptoRow.holds Tryd.pinned (OpenSpec.upto reqsLaysSpec)

/-- 'locksmithlaw16.ReqsBack', WHERE WHAT IT READS IS OF BULK AT MOST 1048576: true; the input reads as it did. -/
def reqsBackUptoRow : OpenClaim := { program := "ytbnbofooofedkaadoor", sum := "d789136e9d08734934d0e17b35874995038819e222430254111aec0b4b6a4d73", func := "locksmith/locksmithlaw16.ReqsBack", spec := "reqsBack", unfollowed := true, recurses := true, named := ["locksmith/locksmithhand.kinds", "locksmith/locksmithhand.names"], apart := false, laid := [("locksmith/locksmithhand.names", laid_locksmith_locksmithhand_names), ("locksmith/locksmithhand.kinds", laid_locksmith_locksmithhand_kinds)], narrowed := true }
def ReqsBackUptoSaid : Prop := reqsBackUptoRow.holds Tryd.pinned (OpenSpec.upto reqsBackSpec)

end Rows
end Go.Proofs.YtbnbofooofedkaaDoor

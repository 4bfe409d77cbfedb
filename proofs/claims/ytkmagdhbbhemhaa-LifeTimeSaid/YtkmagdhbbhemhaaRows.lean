/-
  No cell of these rows narrows 'for every input' (looked for: loops, veiled, ifaces, maps, wideKeys, modest, calm, conditions, laid).
  DERIVED. THE GIVEN ROWS OF THIS SEAT. 3 by the template 'for every input the law returns true; each argument reads behind the call as it read before'; 0 by the template 'total and deterministic' (their statements: YtkmagdhbbhemhaaTotals.lean).
  GIVEN WITH THE SEED: the statements are not yours to turn. If you find one false, say at which input.
  Laid BY PROGRAM, IN A SANDBOX (cutbox-rows.mjs): the forced cells as the released guide's own fill.sh prints them over the translation b5433e483112313c… (all of the seat's roots in one cut). By AI agents, Wed Nov 11 2026. No macro, syntax, notation, axiom, sorry.
-/
import Derived.Test.YtkmagdhbbhemhaaChecked
import GoSem.Claim
import GoSem.ClaimJoined
import GoSem.ClaimMapViews
import Derived.JoinedTies
import Derived.KernelRfl
namespace Go.Proofs.Ytkmagdhbbhemhaa
/- THE CELL 'sum', in the pinned program and in every row, IS THE sha256 OF THE DUMP (.gsa) THAT YtkmagdhbbhemhaaProg.lean LOADS. Nothing in Lean hashes anything: it is a label: what it is worth is what the hold of that sum in a sandbox is worth. -/
noncomputable def Try.pinned : Pinned := { name := "ytkmagdhbbhemhaa", sum := "b5433e483112313c20e34372ea012df03c21b2352cc143c589d4b1989a9a33fa", checked := Try.checked }
namespace Rows
def none {H : Type} : Left H := { results := [], args := [] }

/-- 'locksmithlaw11.LifeEdges': WHATEVER THE INPUT: true; the input reads as it did. -/
def lifeEdgesSpec : ChangeSpec := { name := "lifeEdges", fn := fun _ => fun
  | [d1, d2, d3] => { results := [.lit (.bool true)], args := [d1, d2, d3] }
  | _ => none }
def lifeEdgesRow : OpenClaim := { program := "ytkmagdhbbhemhaa", sum := "b5433e483112313c20e34372ea012df03c21b2352cc143c589d4b1989a9a33fa", func := "locksmith/locksmithlaw11.LifeEdges", spec := "lifeEdges", apart := false }
def LifeEdgesSaid : Prop := lifeEdgesRow.holds Try.pinned (OpenSpec.ofChange lifeEdgesSpec)

/-- ITS FALSE NEIGHBOUR: 'it returns false'. Refute it at one input. -/
def lifeEdgesWrong : ChangeSpec := { name := "lifeEdges", fn := fun _ => fun
  | [d1, d2, d3] => { results := [.lit (.bool false)], args := [d1, d2, d3] }
  | _ => none }
def LifeEdgesWrongFalsely : Prop := lifeEdgesRow.holds Try.pinned (OpenSpec.ofChange lifeEdgesWrong)

/-- 'locksmithlaw11.LifeMoves': WHATEVER THE INPUT: true; the input reads as it did. -/
def lifeMovesSpec : ChangeSpec := { name := "lifeMoves", fn := fun _ => fun
  | [d1, d2, d3] => { results := [.lit (.bool true)], args := [d1, d2, d3] }
  | _ => none }
def lifeMovesRow : OpenClaim := { program := "ytkmagdhbbhemhaa", sum := "b5433e483112313c20e34372ea012df03c21b2352cc143c589d4b1989a9a33fa", func := "locksmith/locksmithlaw11.LifeMoves", spec := "lifeMoves", apart := false }
def LifeMovesSaid : Prop := lifeMovesRow.holds Try.pinned (OpenSpec.ofChange lifeMovesSpec)

/-- ITS FALSE NEIGHBOUR: 'it returns false'. Refute it at one input. -/
def lifeMovesWrong : ChangeSpec := { name := "lifeMoves", fn := fun _ => fun
  | [d1, d2, d3] => { results := [.lit (.bool false)], args := [d1, d2, d3] }
  | _ => none }
def LifeMovesWrongFalsely : Prop := lifeMovesRow.holds Try.pinned (OpenSpec.ofChange lifeMovesWrong)

/-- 'locksmithlaw11.LifeTime': WHATEVER THE INPUT: true; the input reads as it did. -/
def lifeTimeSpec : ChangeSpec := { name := "lifeTime", fn := fun _ => fun
  | [d1, d2, d3] => { results := [.lit (.bool true)], args := [d1, d2, d3] }
  | _ => none }
def lifeTimeRow : OpenClaim := { program := "ytkmagdhbbhemhaa", sum := "b5433e483112313c20e34372ea012df03c21b2352cc143c589d4b1989a9a33fa", func := "locksmith/locksmithlaw11.LifeTime", spec := "lifeTime", apart := false }
def LifeTimeSaid : Prop := lifeTimeRow.holds Try.pinned (OpenSpec.ofChange lifeTimeSpec)

/-- ITS FALSE NEIGHBOUR: 'it returns false'. Refute it at one input. -/
def lifeTimeWrong : ChangeSpec := { name := "lifeTime", fn := fun _ => fun
  | [d1, d2, d3] => { results := [.lit (.bool false)], args := [d1, d2, d3] }
  | _ => none }
def LifeTimeWrongFalsely : Prop := lifeTimeRow.holds Try.pinned (OpenSpec.ofChange lifeTimeWrong)

/- THE SECOND FORM. 'bulk': how many values and letters a reading holds, each counted each time it is reached (what is shared counts as often as it is met; a slice's spare places count too). A statement '..UptoSaid' is the law's where the arguments, and the package variables that the reading takes, are together of bulk at most 1048576: NARROWER than '..Said'. Prove '..Said' where nothing that the law and all that it calls make is longer than what came in: it says more and counts as full. Else prove '..UptoSaid'. A law counts once. -/
mutual
def uptoBulk {H : Type} : DataW H → Nat
  | .lit (.string bytes) => bytes.length + 1
  | .lit _ => 1
  | .nil => 1
  | .ptr d => uptoBulk d + 1
  | .slice elems spare => uptoBulkAll elems + uptoBulkAll spare + 1
  | .agg parts => uptoBulkAll parts + 1
  | .iface _ d => uptoBulk d + 1
  | .map entries => uptoBulkEntries entries + 1
  | .held _ => 1
def uptoBulkAll {H : Type} : List (DataW H) → Nat
  | [] => 0
  | d :: r => uptoBulk d + uptoBulkAll r
def uptoBulkEntries {H : Type} : List (Lit × DataW H) → Nat
  | [] => 0
  | x :: r => uptoBulkEntry x + uptoBulkEntries r
def uptoBulkEntry {H : Type} : Lit × DataW H → Nat
  | (.string bytes, d) => bytes.length + uptoBulk d + 1
  | (_, d) => uptoBulk d + 1
 end
def uptoSmall : (H : Type) → List (DataW H) → Bool := fun _ ds => decide (uptoBulkAll ds ≤ 1048576)
def OpenSpec.upto (s : _root_.Go.ChangeSpec) : _root_.Go.OpenSpec := { _root_.Go.OpenSpec.ofChange s with cond := some uptoSmall }

/-- 'locksmithlaw11.LifeEdges', WHERE WHAT IT READS IS OF BULK AT MOST 1048576: true; the input reads as it did. -/
def lifeEdgesUptoRow : OpenClaim := { program := "ytkmagdhbbhemhaa", sum := "b5433e483112313c20e34372ea012df03c21b2352cc143c589d4b1989a9a33fa", func := "locksmith/locksmithlaw11.LifeEdges", spec := "lifeEdges", apart := false, narrowed := true }
def LifeEdgesUptoSaid : Prop := lifeEdgesUptoRow.holds Try.pinned (OpenSpec.upto lifeEdgesSpec)

/-- 'locksmithlaw11.LifeMoves', WHERE WHAT IT READS IS OF BULK AT MOST 1048576: true; the input reads as it did. -/
def lifeMovesUptoRow : OpenClaim := { program := "ytkmagdhbbhemhaa", sum := "b5433e483112313c20e34372ea012df03c21b2352cc143c589d4b1989a9a33fa", func := "locksmith/locksmithlaw11.LifeMoves", spec := "lifeMoves", apart := false, narrowed := true }
def LifeMovesUptoSaid : Prop := lifeMovesUptoRow.holds Try.pinned (OpenSpec.upto lifeMovesSpec)

/-- 'locksmithlaw11.LifeTime', WHERE WHAT IT READS IS OF BULK AT MOST 1048576: true; the input reads as it did. -/
def lifeTimeUptoRow : OpenClaim := { program := "ytkmagdhbbhemhaa", sum := "b5433e483112313c20e34372ea012df03c21b2352cc143c589d4b1989a9a33fa", func := "locksmith/locksmithlaw11.LifeTime", spec := "lifeTime", apart := false, narrowed := true }
def LifeTimeUptoSaid : Prop := lifeTimeUptoRow.holds Try.pinned (OpenSpec.upto lifeTimeSpec)

end Rows
end Go.Proofs.Ytkmagdhbbhemhaa

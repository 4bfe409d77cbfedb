/-
  DERIVED. GIVEN WITH THE SEED: THE CARDS: each row of YteenglgnakenmaaDoorRows.lean that lists a variable, with what it lists TIED to the program's text (the seventh form; the later family's looks); each row that meets fmt, with fmt's text TOLD by the authors' own Lean function (tested against real Go, not proved from fmt's source: count such statements apart). THE CARD IS WHAT COUNTS. Prove the row's statement (the work); the ties are given (YteenglgnakenmaaDoorTie.lean); close each card by the builder's one call (the guide's Derived/Test/ToyasCard.lean, 'card_holds'). Laid BY PROGRAM, IN A SANDBOX (cutbox-door.mjs). By AI agents, Wed Nov 11 2026. No macro, syntax, notation, axiom, sorry.
-/
import Derived.Test.YteenglgnakenmaaDoorRows
import GoSem.ClaimSeven
namespace Go.Proofs.YteenglgnakenmaaDoor
namespace Rows

/-- THE TIED CARD OF 'locksmithlaw17.RespsBack'. -/
def respsBackCard : Claim7 := { stood := { row := respsBackRow, standIns := [], harness := (true, "001ff47db798b3163cc23c533f8a6c7f1719b6c158739a2d1e37a4ad112b9ddf"), looks := false }, kinds := [], alts := [], laidByText := true, laidKinds := [.data, .pinned], laidTests := true, laidLooks := .later }
def RespsBackCardSaid : Prop := Claim7.holds Tryd.pinned (.plain (OpenSpec.ofChange respsBackSpec)) respsBackCard

/-- THE SECOND FORM's CARD OF 'locksmithlaw17.RespsBack'. -/
def respsBackUptoCard : Claim7 := { stood := { row := respsBackUptoRow, standIns := [], harness := (true, "001ff47db798b3163cc23c533f8a6c7f1719b6c158739a2d1e37a4ad112b9ddf"), looks := false }, kinds := [], alts := [], laidByText := true, laidKinds := [.data, .pinned], laidTests := true, laidLooks := .later }
def RespsBackUptoCardSaid : Prop := Claim7.holds Tryd.pinned (.plain (OpenSpec.upto respsBackSpec)) respsBackUptoCard
end Rows
end Go.Proofs.YteenglgnakenmaaDoor

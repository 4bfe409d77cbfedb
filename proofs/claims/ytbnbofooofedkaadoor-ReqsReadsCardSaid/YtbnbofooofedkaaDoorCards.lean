/-
  DERIVED. GIVEN WITH THE SEED: THE CARDS: each row of YtbnbofooofedkaaDoorRows.lean that lists a variable, with what it lists TIED to the program's text (the seventh form; the later family's looks); each row that meets fmt, with fmt's text TOLD by the authors' own Lean function (tested against real Go, not proved from fmt's source: count such statements apart). THE CARD IS WHAT COUNTS. Prove the row's statement (the work); the ties are given (YtbnbofooofedkaaDoorTie.lean); close each card by the builder's one call (the guide's Derived/Test/ToyasCard.lean, 'card_holds'). Laid BY PROGRAM, IN A SANDBOX (cutbox-door.mjs). By AI agents, Wed Nov 11 2026. No macro, syntax, notation, axiom, sorry.
-/
import Derived.Test.YtbnbofooofedkaaDoorRows
import GoSem.ClaimSeven
namespace Go.Proofs.YtbnbofooofedkaaDoor
namespace Rows

/-- THE TIED CARD OF 'locksmithlaw16.ReqsReads'. -/
def reqsReadsCard : Claim7 := { stood := { row := reqsReadsRow, standIns := [], harness := (true, "5dc586615fcc6d8843a78dbbf9786f1278a526099bb63560bcb02e2d5b9ef1d6"), looks := false }, kinds := [], alts := [], laidByText := true, laidKinds := [.data, .data], laidTests := true, laidLooks := .later }
def ReqsReadsCardSaid : Prop := Claim7.holds Tryd.pinned (.plain (OpenSpec.ofChange reqsReadsSpec)) reqsReadsCard

/-- THE TIED CARD OF 'locksmithlaw16.ReqsLays'. -/
def reqsLaysCard : Claim7 := { stood := { row := reqsLaysRow, standIns := [], harness := (true, "5dc586615fcc6d8843a78dbbf9786f1278a526099bb63560bcb02e2d5b9ef1d6"), looks := false }, kinds := [], alts := [], laidByText := true, laidKinds := [.data, .data], laidTests := true, laidLooks := .later }
def ReqsLaysCardSaid : Prop := Claim7.holds Tryd.pinned (.plain (OpenSpec.ofChange reqsLaysSpec)) reqsLaysCard

/-- THE TIED CARD OF 'locksmithlaw16.ReqsBack'. -/
def reqsBackCard : Claim7 := { stood := { row := reqsBackRow, standIns := [], harness := (true, "5dc586615fcc6d8843a78dbbf9786f1278a526099bb63560bcb02e2d5b9ef1d6"), looks := false }, kinds := [], alts := [], laidByText := true, laidKinds := [.data, .data], laidTests := true, laidLooks := .later }
def ReqsBackCardSaid : Prop := Claim7.holds Tryd.pinned (.plain (OpenSpec.ofChange reqsBackSpec)) reqsBackCard

/-- THE SECOND FORM's CARD OF 'locksmithlaw16.ReqsReads'. -/
def reqsReadsUptoCard : Claim7 := { stood := { row := reqsReadsUptoRow, standIns := [], harness := (true, "5dc586615fcc6d8843a78dbbf9786f1278a526099bb63560bcb02e2d5b9ef1d6"), looks := false }, kinds := [], alts := [], laidByText := true, laidKinds := [.data, .data], laidTests := true, laidLooks := .later }
def ReqsReadsUptoCardSaid : Prop := Claim7.holds Tryd.pinned (.plain (OpenSpec.upto reqsReadsSpec)) reqsReadsUptoCard

/-- THE SECOND FORM's CARD OF 'locksmithlaw16.ReqsLays'. -/
def reqsLaysUptoCard : Claim7 := { stood := { row := reqsLaysUptoRow, standIns := [], harness := (true, "5dc586615fcc6d8843a78dbbf9786f1278a526099bb63560bcb02e2d5b9ef1d6"), looks := false }, kinds := [], alts := [], laidByText := true, laidKinds := [.data, .data], laidTests := true, laidLooks := .later }
def ReqsLaysUptoCardSaid : Prop := Claim7.holds Tryd.pinned (.plain (OpenSpec.upto reqsLaysSpec)) reqsLaysUptoCard

/-- THE SECOND FORM's CARD OF 'locksmithlaw16.ReqsBack'. -/
def reqsBackUptoCard : Claim7 := { stood := { row := reqsBackUptoRow, standIns := [], harness := (true, "5dc586615fcc6d8843a78dbbf9786f1278a526099bb63560bcb02e2d5b9ef1d6"), looks := false }, kinds := [], alts := [], laidByText := true, laidKinds := [.data, .data], laidTests := true, laidLooks := .later }
def ReqsBackUptoCardSaid : Prop := Claim7.holds Tryd.pinned (.plain (OpenSpec.upto reqsBackSpec)) reqsBackUptoCard
end Rows
end Go.Proofs.YtbnbofooofedkaaDoor

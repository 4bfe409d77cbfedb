/-
  DERIVED. GIVEN WITH THE SEED: THE CARDS: each row of YtgenbpndphdgnaaDoorRows.lean that lists a variable, with what it lists TIED to the program's text (the seventh form; the later family's looks); each row that meets fmt, with fmt's text TOLD by the authors' own Lean function (tested against real Go, not proved from fmt's source: count such statements apart). THE CARD IS WHAT COUNTS. Prove the row's statement (the work); the ties are given (YtgenbpndphdgnaaDoorTie.lean); close each card by the builder's one call (the guide's Derived/Test/ToyasCard.lean, 'card_holds'). Laid BY PROGRAM, IN A SANDBOX (cutbox-door.mjs). By AI agents, Wed Nov 11 2026. No macro, syntax, notation, axiom, sorry.
-/
import Derived.Test.YtgenbpndphdgnaaDoorRows
import GoSem.ClaimSeven
namespace Go.Proofs.YtgenbpndphdgnaaDoor
namespace Rows

/-- THE TIED CARD OF 'locksmithlaw11.LifePaths'. -/
def lifePathsCard : Claim7 := { stood := { row := lifePathsRow, standIns := [], harness := (true, "74abdadfc1cd0f05d99f5fef0d89f8035f498a66e01eed3ea29b1eba8c8552d0"), looks := false }, kinds := [], alts := [], laidByText := true, laidKinds := [.data, .pinned], laidTests := true, laidLooks := .later }
def LifePathsCardSaid : Prop := Claim7.holds Tryd.pinned (.plain (OpenSpec.ofChange lifePathsSpec)) lifePathsCard

/-- THE TIED CARD OF 'locksmithlaw11.LifeArchives'. -/
def lifeArchivesCard : Claim7 := { stood := { row := lifeArchivesRow, standIns := [], harness := (true, "74abdadfc1cd0f05d99f5fef0d89f8035f498a66e01eed3ea29b1eba8c8552d0"), looks := false }, kinds := [], alts := [], laidByText := true, laidKinds := [.data, .pinned], laidTests := true, laidLooks := .later }
def LifeArchivesCardSaid : Prop := Claim7.holds Tryd.pinned (.plain (OpenSpec.ofChange lifeArchivesSpec)) lifeArchivesCard

/-- THE TIED CARD OF 'locksmithlaw11.LifeKnown'. -/
def lifeKnownCard : Claim7 := { stood := { row := lifeKnownRow, standIns := [], harness := (true, "74abdadfc1cd0f05d99f5fef0d89f8035f498a66e01eed3ea29b1eba8c8552d0"), looks := false }, kinds := [], alts := [], laidByText := true, laidKinds := [.data, .pinned], laidTests := true, laidLooks := .later }
def LifeKnownCardSaid : Prop := Claim7.holds Tryd.pinned (.plain (OpenSpec.ofChange lifeKnownSpec)) lifeKnownCard

/-- THE SECOND FORM's CARD OF 'locksmithlaw11.LifePaths'. -/
def lifePathsUptoCard : Claim7 := { stood := { row := lifePathsUptoRow, standIns := [], harness := (true, "74abdadfc1cd0f05d99f5fef0d89f8035f498a66e01eed3ea29b1eba8c8552d0"), looks := false }, kinds := [], alts := [], laidByText := true, laidKinds := [.data, .pinned], laidTests := true, laidLooks := .later }
def LifePathsUptoCardSaid : Prop := Claim7.holds Tryd.pinned (.plain (OpenSpec.upto lifePathsSpec)) lifePathsUptoCard

/-- THE SECOND FORM's CARD OF 'locksmithlaw11.LifeArchives'. -/
def lifeArchivesUptoCard : Claim7 := { stood := { row := lifeArchivesUptoRow, standIns := [], harness := (true, "74abdadfc1cd0f05d99f5fef0d89f8035f498a66e01eed3ea29b1eba8c8552d0"), looks := false }, kinds := [], alts := [], laidByText := true, laidKinds := [.data, .pinned], laidTests := true, laidLooks := .later }
def LifeArchivesUptoCardSaid : Prop := Claim7.holds Tryd.pinned (.plain (OpenSpec.upto lifeArchivesSpec)) lifeArchivesUptoCard

/-- THE SECOND FORM's CARD OF 'locksmithlaw11.LifeKnown'. -/
def lifeKnownUptoCard : Claim7 := { stood := { row := lifeKnownUptoRow, standIns := [], harness := (true, "74abdadfc1cd0f05d99f5fef0d89f8035f498a66e01eed3ea29b1eba8c8552d0"), looks := false }, kinds := [], alts := [], laidByText := true, laidKinds := [.data, .pinned], laidTests := true, laidLooks := .later }
def LifeKnownUptoCardSaid : Prop := Claim7.holds Tryd.pinned (.plain (OpenSpec.upto lifeKnownSpec)) lifeKnownUptoCard
end Rows
end Go.Proofs.YtgenbpndphdgnaaDoor

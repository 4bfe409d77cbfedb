/-
  DERIVED. GIVEN WITH THE SEED: THE CARDS: each row of YtdlkobmlnpijgaaDoorRows.lean that lists a variable, with what it lists TIED to the program's text (the seventh form; the later family's looks); each row that meets fmt, with fmt's text TOLD by the authors' own Lean function (tested against real Go, not proved from fmt's source: count such statements apart). THE CARD IS WHAT COUNTS. Prove the row's statement (the work); the ties are given (YtdlkobmlnpijgaaDoorTie.lean); close each card by the builder's one call (the guide's Derived/Test/ToyasCard.lean, 'card_holds'). Laid BY PROGRAM, IN A SANDBOX (cutbox-door.mjs). By AI agents, Wed Nov 11 2026. No macro, syntax, notation, axiom, sorry.
-/
import Derived.Test.YtdlkobmlnpijgaaDoorRows
import GoSem.ClaimSeven
namespace Go.Proofs.YtdlkobmlnpijgaaDoor
namespace Rows

/-- THE TIED CARD OF 'locksmithlaw10.ObjectKnown'. -/
def objectKnownCard : Claim7 := { stood := { row := objectKnownRow, standIns := [], harness := (true, "e4cf8a6438f80f82051b2e546320cbc3236efab90ecc4cec1f53ad5054f27899"), looks := false }, kinds := [], alts := [], laidByText := true, laidKinds := [.data, .pinned], laidTests := true, laidLooks := .later }
def ObjectKnownCardSaid : Prop := Claim7.holds Tryd.pinned (.plain (OpenSpec.ofChange objectKnownSpec)) objectKnownCard

/-- THE TIED CARD OF 'locksmithlaw10.ObjectLays'. -/
def objectLaysCard : Claim7 := { stood := { row := objectLaysRow, standIns := [], harness := (true, "e4cf8a6438f80f82051b2e546320cbc3236efab90ecc4cec1f53ad5054f27899"), looks := false }, kinds := [], alts := [], laidByText := true, laidKinds := [.data, .pinned], laidTests := true, laidLooks := .later }
def ObjectLaysCardSaid : Prop := Claim7.holds Tryd.pinned (.plain (OpenSpec.ofChange objectLaysSpec)) objectLaysCard

/-- THE TIED CARD OF 'locksmithlaw10.ObjectReads'. -/
def objectReadsCard : Claim7 := { stood := { row := objectReadsRow, standIns := [], harness := (true, "e4cf8a6438f80f82051b2e546320cbc3236efab90ecc4cec1f53ad5054f27899"), looks := false }, kinds := [], alts := [], laidByText := true, laidKinds := [.data, .pinned], laidTests := true, laidLooks := .later }
def ObjectReadsCardSaid : Prop := Claim7.holds Tryd.pinned (.plain (OpenSpec.ofChange objectReadsSpec)) objectReadsCard

/-- THE TIED CARD OF 'locksmithlaw10.ObjectBack'. -/
def objectBackCard : Claim7 := { stood := { row := objectBackRow, standIns := [], harness := (true, "e4cf8a6438f80f82051b2e546320cbc3236efab90ecc4cec1f53ad5054f27899"), looks := false }, kinds := [], alts := [], laidByText := true, laidKinds := [.data, .pinned], laidTests := true, laidLooks := .later }
def ObjectBackCardSaid : Prop := Claim7.holds Tryd.pinned (.plain (OpenSpec.ofChange objectBackSpec)) objectBackCard

/-- THE TIED CARD OF 'locksmithlaw10.ObjectTexts'. -/
def objectTextsCard : Claim7 := { stood := { row := objectTextsRow, standIns := [], harness := (true, "e4cf8a6438f80f82051b2e546320cbc3236efab90ecc4cec1f53ad5054f27899"), looks := false }, kinds := [], alts := [], laidByText := true, laidKinds := [.data, .pinned], laidTests := true, laidLooks := .later }
def ObjectTextsCardSaid : Prop := Claim7.holds Tryd.pinned (.plain (OpenSpec.ofChange objectTextsSpec)) objectTextsCard

/-- THE TIED CARD OF 'locksmithlaw10.ObjectApart'. -/
def objectApartCard : Claim7 := { stood := { row := objectApartRow, standIns := [], harness := (true, "e4cf8a6438f80f82051b2e546320cbc3236efab90ecc4cec1f53ad5054f27899"), looks := false }, kinds := [], alts := [], laidByText := true, laidKinds := [.data, .pinned], laidTests := true, laidLooks := .later }
def ObjectApartCardSaid : Prop := Claim7.holds Tryd.pinned (.plain (OpenSpec.ofChange objectApartSpec)) objectApartCard

/-- THE TIED CARD OF 'locksmithlaw10.ObjectSame'. -/
def objectSameCard : Claim7 := { stood := { row := objectSameRow, standIns := [], harness := (true, "e4cf8a6438f80f82051b2e546320cbc3236efab90ecc4cec1f53ad5054f27899"), looks := false }, kinds := [], alts := [], laidByText := true, laidKinds := [.data, .pinned], laidTests := true, laidLooks := .later }
def ObjectSameCardSaid : Prop := Claim7.holds Tryd.pinned (.plain (OpenSpec.ofChange objectSameSpec)) objectSameCard

/-- THE SECOND FORM's CARD OF 'locksmithlaw10.ObjectKnown'. -/
def objectKnownUptoCard : Claim7 := { stood := { row := objectKnownUptoRow, standIns := [], harness := (true, "e4cf8a6438f80f82051b2e546320cbc3236efab90ecc4cec1f53ad5054f27899"), looks := false }, kinds := [], alts := [], laidByText := true, laidKinds := [.data, .pinned], laidTests := true, laidLooks := .later }
def ObjectKnownUptoCardSaid : Prop := Claim7.holds Tryd.pinned (.plain (OpenSpec.upto objectKnownSpec)) objectKnownUptoCard

/-- THE SECOND FORM's CARD OF 'locksmithlaw10.ObjectLays'. -/
def objectLaysUptoCard : Claim7 := { stood := { row := objectLaysUptoRow, standIns := [], harness := (true, "e4cf8a6438f80f82051b2e546320cbc3236efab90ecc4cec1f53ad5054f27899"), looks := false }, kinds := [], alts := [], laidByText := true, laidKinds := [.data, .pinned], laidTests := true, laidLooks := .later }
def ObjectLaysUptoCardSaid : Prop := Claim7.holds Tryd.pinned (.plain (OpenSpec.upto objectLaysSpec)) objectLaysUptoCard

/-- THE SECOND FORM's CARD OF 'locksmithlaw10.ObjectReads'. -/
def objectReadsUptoCard : Claim7 := { stood := { row := objectReadsUptoRow, standIns := [], harness := (true, "e4cf8a6438f80f82051b2e546320cbc3236efab90ecc4cec1f53ad5054f27899"), looks := false }, kinds := [], alts := [], laidByText := true, laidKinds := [.data, .pinned], laidTests := true, laidLooks := .later }
def ObjectReadsUptoCardSaid : Prop := Claim7.holds Tryd.pinned (.plain (OpenSpec.upto objectReadsSpec)) objectReadsUptoCard

/-- THE SECOND FORM's CARD OF 'locksmithlaw10.ObjectBack'. -/
def objectBackUptoCard : Claim7 := { stood := { row := objectBackUptoRow, standIns := [], harness := (true, "e4cf8a6438f80f82051b2e546320cbc3236efab90ecc4cec1f53ad5054f27899"), looks := false }, kinds := [], alts := [], laidByText := true, laidKinds := [.data, .pinned], laidTests := true, laidLooks := .later }
def ObjectBackUptoCardSaid : Prop := Claim7.holds Tryd.pinned (.plain (OpenSpec.upto objectBackSpec)) objectBackUptoCard

/-- THE SECOND FORM's CARD OF 'locksmithlaw10.ObjectTexts'. -/
def objectTextsUptoCard : Claim7 := { stood := { row := objectTextsUptoRow, standIns := [], harness := (true, "e4cf8a6438f80f82051b2e546320cbc3236efab90ecc4cec1f53ad5054f27899"), looks := false }, kinds := [], alts := [], laidByText := true, laidKinds := [.data, .pinned], laidTests := true, laidLooks := .later }
def ObjectTextsUptoCardSaid : Prop := Claim7.holds Tryd.pinned (.plain (OpenSpec.upto objectTextsSpec)) objectTextsUptoCard

/-- THE SECOND FORM's CARD OF 'locksmithlaw10.ObjectApart'. -/
def objectApartUptoCard : Claim7 := { stood := { row := objectApartUptoRow, standIns := [], harness := (true, "e4cf8a6438f80f82051b2e546320cbc3236efab90ecc4cec1f53ad5054f27899"), looks := false }, kinds := [], alts := [], laidByText := true, laidKinds := [.data, .pinned], laidTests := true, laidLooks := .later }
def ObjectApartUptoCardSaid : Prop := Claim7.holds Tryd.pinned (.plain (OpenSpec.upto objectApartSpec)) objectApartUptoCard

/-- THE SECOND FORM's CARD OF 'locksmithlaw10.ObjectSame'. -/
def objectSameUptoCard : Claim7 := { stood := { row := objectSameUptoRow, standIns := [], harness := (true, "e4cf8a6438f80f82051b2e546320cbc3236efab90ecc4cec1f53ad5054f27899"), looks := false }, kinds := [], alts := [], laidByText := true, laidKinds := [.data, .pinned], laidTests := true, laidLooks := .later }
def ObjectSameUptoCardSaid : Prop := Claim7.holds Tryd.pinned (.plain (OpenSpec.upto objectSameSpec)) objectSameUptoCard
end Rows
end Go.Proofs.YtdlkobmlnpijgaaDoor

/-
  DERIVED. GIVEN WITH THE SEED: THE CARDS: each row of YtmpajhacigjloaaDoorRows.lean that lists a variable, with what it lists TIED to the program's text (the seventh form; the later family's looks); each row that meets fmt, with fmt's text TOLD by the authors' own Lean function (tested against real Go, not proved from fmt's source: count such statements apart). THE CARD IS WHAT COUNTS. Prove the row's statement (the work); the ties are given (YtmpajhacigjloaaDoorTie.lean); close each card by the builder's one call (the guide's Derived/Test/ToyasCard.lean, 'card_holds'). Laid BY PROGRAM, IN A SANDBOX (cutbox-door.mjs). By AI agents, Wed Nov 11 2026. No macro, syntax, notation, axiom, sorry.
-/
import Derived.Test.YtmpajhacigjloaaDoorRows
import GoSem.ClaimSeven
namespace Go.Proofs.YtmpajhacigjloaaDoor
namespace Rows

/-- THE TIED CARD OF 'locksmithlaw6.TtlvCuts'. -/
def ttlvCutsCard : Claim7 := { stood := { row := ttlvCutsRow, standIns := [], harness := (true, "3f47d4e0c2ff7f9d8c9bbc066512cecb65a7bc3857de031e6bd32d517867fb66"), looks := false }, kinds := [], alts := [], laidByText := true, laidKinds := [.data, .pinned], laidTests := true, laidLooks := .later }
def TtlvCutsCardSaid : Prop := Claim7.holds Tryd.pinned (.plain (OpenSpec.ofChange ttlvCutsSpec)) ttlvCutsCard

/-- THE TIED CARD OF 'locksmithlaw6.TtlvSizes'. -/
def ttlvSizesCard : Claim7 := { stood := { row := ttlvSizesRow, standIns := [], harness := (true, "3f47d4e0c2ff7f9d8c9bbc066512cecb65a7bc3857de031e6bd32d517867fb66"), looks := false }, kinds := [], alts := [], laidByText := true, laidKinds := [.data, .pinned], laidTests := true, laidLooks := .later }
def TtlvSizesCardSaid : Prop := Claim7.holds Tryd.pinned (.plain (OpenSpec.ofChange ttlvSizesSpec)) ttlvSizesCard

/-- THE TIED CARD OF 'locksmithlaw6.TtlvKids'. -/
def ttlvKidsCard : Claim7 := { stood := { row := ttlvKidsRow, standIns := [], harness := (true, "3f47d4e0c2ff7f9d8c9bbc066512cecb65a7bc3857de031e6bd32d517867fb66"), looks := false }, kinds := [], alts := [], laidByText := true, laidKinds := [.data, .pinned], laidTests := true, laidLooks := .later }
def TtlvKidsCardSaid : Prop := Claim7.holds Tryd.pinned (.plain (OpenSpec.ofChange ttlvKidsSpec)) ttlvKidsCard

/-- THE TIED CARD OF 'locksmithlaw6.TtlvKnown'. -/
def ttlvKnownCard : Claim7 := { stood := { row := ttlvKnownRow, standIns := [], harness := (true, "3f47d4e0c2ff7f9d8c9bbc066512cecb65a7bc3857de031e6bd32d517867fb66"), looks := false }, kinds := [], alts := [], laidByText := true, laidKinds := [.data, .pinned], laidTests := true, laidLooks := .later }
def TtlvKnownCardSaid : Prop := Claim7.holds Tryd.pinned (.plain (OpenSpec.ofChange ttlvKnownSpec)) ttlvKnownCard

/-- THE TIED CARD OF 'locksmithlaw6.TtlvBack'. -/
def ttlvBackCard : Claim7 := { stood := { row := ttlvBackRow, standIns := [], harness := (true, "3f47d4e0c2ff7f9d8c9bbc066512cecb65a7bc3857de031e6bd32d517867fb66"), looks := false }, kinds := [], alts := [], laidByText := true, laidKinds := [.data, .pinned], laidTests := true, laidLooks := .later }
def TtlvBackCardSaid : Prop := Claim7.holds Tryd.pinned (.plain (OpenSpec.ofChange ttlvBackSpec)) ttlvBackCard

/-- THE TIED CARD OF 'locksmithlaw6.TtlvSame'. -/
def ttlvSameCard : Claim7 := { stood := { row := ttlvSameRow, standIns := [], harness := (true, "3f47d4e0c2ff7f9d8c9bbc066512cecb65a7bc3857de031e6bd32d517867fb66"), looks := false }, kinds := [], alts := [], laidByText := true, laidKinds := [.data, .pinned], laidTests := true, laidLooks := .later }
def TtlvSameCardSaid : Prop := Claim7.holds Tryd.pinned (.plain (OpenSpec.ofChange ttlvSameSpec)) ttlvSameCard

/-- THE TIED CARD OF 'locksmithlaw6.TtlvEncodes'. -/
def ttlvEncodesCard : Claim7 := { stood := { row := ttlvEncodesRow, standIns := [], harness := (true, "3f47d4e0c2ff7f9d8c9bbc066512cecb65a7bc3857de031e6bd32d517867fb66"), looks := false }, kinds := [], alts := [], laidByText := true, laidKinds := [.data, .pinned], laidTests := true, laidLooks := .later }
def TtlvEncodesCardSaid : Prop := Claim7.holds Tryd.pinned (.plain (OpenSpec.ofChange ttlvEncodesSpec)) ttlvEncodesCard

/-- THE TIED CARD OF 'locksmithlaw6.TtlvDecodes'. -/
def ttlvDecodesCard : Claim7 := { stood := { row := ttlvDecodesRow, standIns := [], harness := (true, "3f47d4e0c2ff7f9d8c9bbc066512cecb65a7bc3857de031e6bd32d517867fb66"), looks := false }, kinds := [], alts := [], laidByText := true, laidKinds := [.data, .pinned], laidTests := true, laidLooks := .later }
def TtlvDecodesCardSaid : Prop := Claim7.holds Tryd.pinned (.plain (OpenSpec.ofChange ttlvDecodesSpec)) ttlvDecodesCard

/-- THE SECOND FORM's CARD OF 'locksmithlaw6.TtlvCuts'. -/
def ttlvCutsUptoCard : Claim7 := { stood := { row := ttlvCutsUptoRow, standIns := [], harness := (true, "3f47d4e0c2ff7f9d8c9bbc066512cecb65a7bc3857de031e6bd32d517867fb66"), looks := false }, kinds := [], alts := [], laidByText := true, laidKinds := [.data, .pinned], laidTests := true, laidLooks := .later }
def TtlvCutsUptoCardSaid : Prop := Claim7.holds Tryd.pinned (.plain (OpenSpec.upto ttlvCutsSpec)) ttlvCutsUptoCard

/-- THE SECOND FORM's CARD OF 'locksmithlaw6.TtlvSizes'. -/
def ttlvSizesUptoCard : Claim7 := { stood := { row := ttlvSizesUptoRow, standIns := [], harness := (true, "3f47d4e0c2ff7f9d8c9bbc066512cecb65a7bc3857de031e6bd32d517867fb66"), looks := false }, kinds := [], alts := [], laidByText := true, laidKinds := [.data, .pinned], laidTests := true, laidLooks := .later }
def TtlvSizesUptoCardSaid : Prop := Claim7.holds Tryd.pinned (.plain (OpenSpec.upto ttlvSizesSpec)) ttlvSizesUptoCard

/-- THE SECOND FORM's CARD OF 'locksmithlaw6.TtlvKids'. -/
def ttlvKidsUptoCard : Claim7 := { stood := { row := ttlvKidsUptoRow, standIns := [], harness := (true, "3f47d4e0c2ff7f9d8c9bbc066512cecb65a7bc3857de031e6bd32d517867fb66"), looks := false }, kinds := [], alts := [], laidByText := true, laidKinds := [.data, .pinned], laidTests := true, laidLooks := .later }
def TtlvKidsUptoCardSaid : Prop := Claim7.holds Tryd.pinned (.plain (OpenSpec.upto ttlvKidsSpec)) ttlvKidsUptoCard

/-- THE SECOND FORM's CARD OF 'locksmithlaw6.TtlvKnown'. -/
def ttlvKnownUptoCard : Claim7 := { stood := { row := ttlvKnownUptoRow, standIns := [], harness := (true, "3f47d4e0c2ff7f9d8c9bbc066512cecb65a7bc3857de031e6bd32d517867fb66"), looks := false }, kinds := [], alts := [], laidByText := true, laidKinds := [.data, .pinned], laidTests := true, laidLooks := .later }
def TtlvKnownUptoCardSaid : Prop := Claim7.holds Tryd.pinned (.plain (OpenSpec.upto ttlvKnownSpec)) ttlvKnownUptoCard

/-- THE SECOND FORM's CARD OF 'locksmithlaw6.TtlvBack'. -/
def ttlvBackUptoCard : Claim7 := { stood := { row := ttlvBackUptoRow, standIns := [], harness := (true, "3f47d4e0c2ff7f9d8c9bbc066512cecb65a7bc3857de031e6bd32d517867fb66"), looks := false }, kinds := [], alts := [], laidByText := true, laidKinds := [.data, .pinned], laidTests := true, laidLooks := .later }
def TtlvBackUptoCardSaid : Prop := Claim7.holds Tryd.pinned (.plain (OpenSpec.upto ttlvBackSpec)) ttlvBackUptoCard

/-- THE SECOND FORM's CARD OF 'locksmithlaw6.TtlvSame'. -/
def ttlvSameUptoCard : Claim7 := { stood := { row := ttlvSameUptoRow, standIns := [], harness := (true, "3f47d4e0c2ff7f9d8c9bbc066512cecb65a7bc3857de031e6bd32d517867fb66"), looks := false }, kinds := [], alts := [], laidByText := true, laidKinds := [.data, .pinned], laidTests := true, laidLooks := .later }
def TtlvSameUptoCardSaid : Prop := Claim7.holds Tryd.pinned (.plain (OpenSpec.upto ttlvSameSpec)) ttlvSameUptoCard

/-- THE SECOND FORM's CARD OF 'locksmithlaw6.TtlvEncodes'. -/
def ttlvEncodesUptoCard : Claim7 := { stood := { row := ttlvEncodesUptoRow, standIns := [], harness := (true, "3f47d4e0c2ff7f9d8c9bbc066512cecb65a7bc3857de031e6bd32d517867fb66"), looks := false }, kinds := [], alts := [], laidByText := true, laidKinds := [.data, .pinned], laidTests := true, laidLooks := .later }
def TtlvEncodesUptoCardSaid : Prop := Claim7.holds Tryd.pinned (.plain (OpenSpec.upto ttlvEncodesSpec)) ttlvEncodesUptoCard

/-- THE SECOND FORM's CARD OF 'locksmithlaw6.TtlvDecodes'. -/
def ttlvDecodesUptoCard : Claim7 := { stood := { row := ttlvDecodesUptoRow, standIns := [], harness := (true, "3f47d4e0c2ff7f9d8c9bbc066512cecb65a7bc3857de031e6bd32d517867fb66"), looks := false }, kinds := [], alts := [], laidByText := true, laidKinds := [.data, .pinned], laidTests := true, laidLooks := .later }
def TtlvDecodesUptoCardSaid : Prop := Claim7.holds Tryd.pinned (.plain (OpenSpec.upto ttlvDecodesSpec)) ttlvDecodesUptoCard
end Rows
end Go.Proofs.YtmpajhacigjloaaDoor

/-
  DERIVED. GIVEN WITH THE SEED: THE CARDS: each row of YtmmlbepfonndaaaGreatDoorRows.lean that lists a variable, with what it lists TIED to the program's text (the seventh form; the later family's looks); each row that meets fmt, with fmt's text TOLD by the authors' own Lean function (tested against real Go, not proved from fmt's source: count such statements apart). THE CARD IS WHAT COUNTS. Prove the row's statement (the work); the ties are given (YtmmlbepfonndaaaGreatDoorTie.lean); close each card by the builder's one call (the guide's Derived/Test/ToyasCard.lean, 'card_holds'). Laid BY PROGRAM, IN A SANDBOX (cutbox-door.mjs). By AI agents, Wed Nov 11 2026. No macro, syntax, notation, axiom, sorry.
-/
import Derived.Test.YtmmlbepfonndaaaGreatDoorRows
import GoSem.ClaimSeven
namespace Go.Proofs.YtmmlbepfonndaaaGreatDoor
namespace Rows

/-- THE TIED CARD OF 'bollardlaw16.ProducersKept'. -/
def producersKeptCard : Claim7 := { stood := { row := producersKeptRow, standIns := [], harness := (true, "4de4ba1820c34199d127d76c2a3875d9e4b51b68253d3d7681bee89874abfb43"), looks := true }, kinds := [], alts := [], laidByText := true, laidKinds := [.data, .pinned], laidTests := true, laidLooks := .later }
def ProducersKeptCardSaid : Prop := Claim7.holds Tryz.pinned (.plain (OpenSpec.ofChange producersKeptSpec)) producersKeptCard

/-- THE TIED CARD OF 'bollardlaw16.ProducersMany'. -/
def producersManyCard : Claim7 := { stood := { row := producersManyRow, standIns := [], harness := (true, "4de4ba1820c34199d127d76c2a3875d9e4b51b68253d3d7681bee89874abfb43"), looks := true }, kinds := [], alts := [], laidByText := true, laidKinds := [.data, .pinned], laidTests := true, laidLooks := .later }
def ProducersManyCardSaid : Prop := Claim7.holds Tryz.pinned (.plain (OpenSpec.ofChange producersManySpec)) producersManyCard

/-- THE TIED CARD OF 'bollardlaw16.ProducersRows'. -/
def producersRowsCard : Claim7 := { stood := { row := producersRowsRow, standIns := [], harness := (true, "4de4ba1820c34199d127d76c2a3875d9e4b51b68253d3d7681bee89874abfb43"), looks := true }, kinds := [], alts := [], laidByText := true, laidKinds := [.data, .pinned], laidTests := true, laidLooks := .later }
def ProducersRowsCardSaid : Prop := Claim7.holds Tryz.pinned (.plain (OpenSpec.ofChange producersRowsSpec)) producersRowsCard

/-- THE TIED CARD OF 'bollardlaw16.ProducersNothing'. -/
def producersNothingCard : Claim7 := { stood := { row := producersNothingRow, standIns := [], harness := (true, "4de4ba1820c34199d127d76c2a3875d9e4b51b68253d3d7681bee89874abfb43"), looks := true }, kinds := [], alts := [], laidByText := true, laidKinds := [.data, .pinned], laidTests := true, laidLooks := .later }
def ProducersNothingCardSaid : Prop := Claim7.holds Tryz.pinned (.plain (OpenSpec.ofChange producersNothingSpec)) producersNothingCard

/-- THE TIED CARD OF 'bollardlaw16.ProducersPlay'. -/
def producersPlayCard : Claim7 := { stood := { row := producersPlayRow, standIns := [], harness := (true, "4de4ba1820c34199d127d76c2a3875d9e4b51b68253d3d7681bee89874abfb43"), looks := true }, kinds := [], alts := [], laidByText := true, laidKinds := [.data, .pinned], laidTests := true, laidLooks := .later }
def ProducersPlayCardSaid : Prop := Claim7.holds Tryz.pinned (.plain (OpenSpec.ofChange producersPlaySpec)) producersPlayCard

/-- THE TIED CARD OF 'bollardlaw11.FilesMany'. -/
def filesManyCard : Claim7 := { stood := { row := filesManyRow, standIns := [], harness := (true, "4de4ba1820c34199d127d76c2a3875d9e4b51b68253d3d7681bee89874abfb43"), looks := true }, kinds := [], alts := [], laidByText := true, laidKinds := [.data, .pinned], laidTests := true, laidLooks := .later }
def FilesManyCardSaid : Prop := Claim7.holds Tryz.pinned (.plain (OpenSpec.ofChange filesManySpec)) filesManyCard

/-- THE TIED CARD OF 'bollardlaw11.FilesNothing'. -/
def filesNothingCard : Claim7 := { stood := { row := filesNothingRow, standIns := [], harness := (true, "4de4ba1820c34199d127d76c2a3875d9e4b51b68253d3d7681bee89874abfb43"), looks := true }, kinds := [], alts := [], laidByText := true, laidKinds := [.data, .pinned], laidTests := true, laidLooks := .later }
def FilesNothingCardSaid : Prop := Claim7.holds Tryz.pinned (.plain (OpenSpec.ofChange filesNothingSpec)) filesNothingCard

/-- THE TIED CARD OF 'bollardlaw11.FilesKinds'. -/
def filesKindsCard : Claim7 := { stood := { row := filesKindsRow, standIns := [], harness := (true, "4de4ba1820c34199d127d76c2a3875d9e4b51b68253d3d7681bee89874abfb43"), looks := true }, kinds := [], alts := [], laidByText := true, laidKinds := [.data, .pinned], laidTests := true, laidLooks := .later }
def FilesKindsCardSaid : Prop := Claim7.holds Tryz.pinned (.plain (OpenSpec.ofChange filesKindsSpec)) filesKindsCard

/-- THE TIED CARD OF 'bollardlaw11.FilesShare'. -/
def filesShareCard : Claim7 := { stood := { row := filesShareRow, standIns := [], harness := (true, "4de4ba1820c34199d127d76c2a3875d9e4b51b68253d3d7681bee89874abfb43"), looks := true }, kinds := [], alts := [], laidByText := true, laidKinds := [.data, .pinned], laidTests := true, laidLooks := .later }
def FilesShareCardSaid : Prop := Claim7.holds Tryz.pinned (.plain (OpenSpec.ofChange filesShareSpec)) filesShareCard

/-- THE TIED CARD OF 'bollardlaw11.FilesPlaces'. -/
def filesPlacesCard : Claim7 := { stood := { row := filesPlacesRow, standIns := [], harness := (true, "4de4ba1820c34199d127d76c2a3875d9e4b51b68253d3d7681bee89874abfb43"), looks := true }, kinds := [], alts := [], laidByText := true, laidKinds := [.data, .pinned], laidTests := true, laidLooks := .later }
def FilesPlacesCardSaid : Prop := Claim7.holds Tryz.pinned (.plain (OpenSpec.ofChange filesPlacesSpec)) filesPlacesCard

/-- THE TIED CARD OF 'bollardlaw10.FsMakes'. -/
def fsMakesCard : Claim7 := { stood := { row := fsMakesRow, standIns := [], harness := (true, "4de4ba1820c34199d127d76c2a3875d9e4b51b68253d3d7681bee89874abfb43"), looks := true }, kinds := [], alts := [], laidByText := true, laidKinds := [.data, .pinned], laidTests := true, laidLooks := .later }
def FsMakesCardSaid : Prop := Claim7.holds Tryz.pinned (.plain (OpenSpec.ofChange fsMakesSpec)) fsMakesCard

/-- THE TIED CARD OF 'bollardlaw11.FilesGone'. -/
def filesGoneCard : Claim7 := { stood := { row := filesGoneRow, standIns := [], harness := (true, "4de4ba1820c34199d127d76c2a3875d9e4b51b68253d3d7681bee89874abfb43"), looks := true }, kinds := [], alts := [], laidByText := true, laidKinds := [.data, .pinned], laidTests := true, laidLooks := .later }
def FilesGoneCardSaid : Prop := Claim7.holds Tryz.pinned (.plain (OpenSpec.ofChange filesGoneSpec)) filesGoneCard

/-- THE SECOND FORM's CARD OF 'bollardlaw16.ProducersKept'. -/
def producersKeptUptoCard : Claim7 := { stood := { row := producersKeptUptoRow, standIns := [], harness := (true, "4de4ba1820c34199d127d76c2a3875d9e4b51b68253d3d7681bee89874abfb43"), looks := true }, kinds := [], alts := [], laidByText := true, laidKinds := [.data, .pinned], laidTests := true, laidLooks := .later }
def ProducersKeptUptoCardSaid : Prop := Claim7.holds Tryz.pinned (.plain (OpenSpec.upto producersKeptSpec)) producersKeptUptoCard

/-- THE SECOND FORM's CARD OF 'bollardlaw16.ProducersMany'. -/
def producersManyUptoCard : Claim7 := { stood := { row := producersManyUptoRow, standIns := [], harness := (true, "4de4ba1820c34199d127d76c2a3875d9e4b51b68253d3d7681bee89874abfb43"), looks := true }, kinds := [], alts := [], laidByText := true, laidKinds := [.data, .pinned], laidTests := true, laidLooks := .later }
def ProducersManyUptoCardSaid : Prop := Claim7.holds Tryz.pinned (.plain (OpenSpec.upto producersManySpec)) producersManyUptoCard

/-- THE SECOND FORM's CARD OF 'bollardlaw16.ProducersRows'. -/
def producersRowsUptoCard : Claim7 := { stood := { row := producersRowsUptoRow, standIns := [], harness := (true, "4de4ba1820c34199d127d76c2a3875d9e4b51b68253d3d7681bee89874abfb43"), looks := true }, kinds := [], alts := [], laidByText := true, laidKinds := [.data, .pinned], laidTests := true, laidLooks := .later }
def ProducersRowsUptoCardSaid : Prop := Claim7.holds Tryz.pinned (.plain (OpenSpec.upto producersRowsSpec)) producersRowsUptoCard

/-- THE SECOND FORM's CARD OF 'bollardlaw16.ProducersNothing'. -/
def producersNothingUptoCard : Claim7 := { stood := { row := producersNothingUptoRow, standIns := [], harness := (true, "4de4ba1820c34199d127d76c2a3875d9e4b51b68253d3d7681bee89874abfb43"), looks := true }, kinds := [], alts := [], laidByText := true, laidKinds := [.data, .pinned], laidTests := true, laidLooks := .later }
def ProducersNothingUptoCardSaid : Prop := Claim7.holds Tryz.pinned (.plain (OpenSpec.upto producersNothingSpec)) producersNothingUptoCard

/-- THE SECOND FORM's CARD OF 'bollardlaw16.ProducersPlay'. -/
def producersPlayUptoCard : Claim7 := { stood := { row := producersPlayUptoRow, standIns := [], harness := (true, "4de4ba1820c34199d127d76c2a3875d9e4b51b68253d3d7681bee89874abfb43"), looks := true }, kinds := [], alts := [], laidByText := true, laidKinds := [.data, .pinned], laidTests := true, laidLooks := .later }
def ProducersPlayUptoCardSaid : Prop := Claim7.holds Tryz.pinned (.plain (OpenSpec.upto producersPlaySpec)) producersPlayUptoCard

/-- THE SECOND FORM's CARD OF 'bollardlaw11.FilesMany'. -/
def filesManyUptoCard : Claim7 := { stood := { row := filesManyUptoRow, standIns := [], harness := (true, "4de4ba1820c34199d127d76c2a3875d9e4b51b68253d3d7681bee89874abfb43"), looks := true }, kinds := [], alts := [], laidByText := true, laidKinds := [.data, .pinned], laidTests := true, laidLooks := .later }
def FilesManyUptoCardSaid : Prop := Claim7.holds Tryz.pinned (.plain (OpenSpec.upto filesManySpec)) filesManyUptoCard

/-- THE SECOND FORM's CARD OF 'bollardlaw11.FilesNothing'. -/
def filesNothingUptoCard : Claim7 := { stood := { row := filesNothingUptoRow, standIns := [], harness := (true, "4de4ba1820c34199d127d76c2a3875d9e4b51b68253d3d7681bee89874abfb43"), looks := true }, kinds := [], alts := [], laidByText := true, laidKinds := [.data, .pinned], laidTests := true, laidLooks := .later }
def FilesNothingUptoCardSaid : Prop := Claim7.holds Tryz.pinned (.plain (OpenSpec.upto filesNothingSpec)) filesNothingUptoCard

/-- THE SECOND FORM's CARD OF 'bollardlaw11.FilesKinds'. -/
def filesKindsUptoCard : Claim7 := { stood := { row := filesKindsUptoRow, standIns := [], harness := (true, "4de4ba1820c34199d127d76c2a3875d9e4b51b68253d3d7681bee89874abfb43"), looks := true }, kinds := [], alts := [], laidByText := true, laidKinds := [.data, .pinned], laidTests := true, laidLooks := .later }
def FilesKindsUptoCardSaid : Prop := Claim7.holds Tryz.pinned (.plain (OpenSpec.upto filesKindsSpec)) filesKindsUptoCard

/-- THE SECOND FORM's CARD OF 'bollardlaw11.FilesShare'. -/
def filesShareUptoCard : Claim7 := { stood := { row := filesShareUptoRow, standIns := [], harness := (true, "4de4ba1820c34199d127d76c2a3875d9e4b51b68253d3d7681bee89874abfb43"), looks := true }, kinds := [], alts := [], laidByText := true, laidKinds := [.data, .pinned], laidTests := true, laidLooks := .later }
def FilesShareUptoCardSaid : Prop := Claim7.holds Tryz.pinned (.plain (OpenSpec.upto filesShareSpec)) filesShareUptoCard

/-- THE SECOND FORM's CARD OF 'bollardlaw11.FilesPlaces'. -/
def filesPlacesUptoCard : Claim7 := { stood := { row := filesPlacesUptoRow, standIns := [], harness := (true, "4de4ba1820c34199d127d76c2a3875d9e4b51b68253d3d7681bee89874abfb43"), looks := true }, kinds := [], alts := [], laidByText := true, laidKinds := [.data, .pinned], laidTests := true, laidLooks := .later }
def FilesPlacesUptoCardSaid : Prop := Claim7.holds Tryz.pinned (.plain (OpenSpec.upto filesPlacesSpec)) filesPlacesUptoCard

/-- THE SECOND FORM's CARD OF 'bollardlaw10.FsMakes'. -/
def fsMakesUptoCard : Claim7 := { stood := { row := fsMakesUptoRow, standIns := [], harness := (true, "4de4ba1820c34199d127d76c2a3875d9e4b51b68253d3d7681bee89874abfb43"), looks := true }, kinds := [], alts := [], laidByText := true, laidKinds := [.data, .pinned], laidTests := true, laidLooks := .later }
def FsMakesUptoCardSaid : Prop := Claim7.holds Tryz.pinned (.plain (OpenSpec.upto fsMakesSpec)) fsMakesUptoCard

/-- THE SECOND FORM's CARD OF 'bollardlaw11.FilesGone'. -/
def filesGoneUptoCard : Claim7 := { stood := { row := filesGoneUptoRow, standIns := [], harness := (true, "4de4ba1820c34199d127d76c2a3875d9e4b51b68253d3d7681bee89874abfb43"), looks := true }, kinds := [], alts := [], laidByText := true, laidKinds := [.data, .pinned], laidTests := true, laidLooks := .later }
def FilesGoneUptoCardSaid : Prop := Claim7.holds Tryz.pinned (.plain (OpenSpec.upto filesGoneSpec)) filesGoneUptoCard
end Rows
end Go.Proofs.YtmmlbepfonndaaaGreatDoor

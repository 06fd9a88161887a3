/-
  DERIVED. GIVEN WITH THE SEED: THE CARDS: each row of YtddpknegneihbaaGreatDoorRows.lean that lists a variable, with what it lists TIED to the program's text (the seventh form; the later family's looks); each row that meets fmt, with fmt's text TOLD by the authors' own Lean function (tested against real Go, not proved from fmt's source: count such statements apart). THE CARD IS WHAT COUNTS. Prove the row's statement (the work); the ties are given (YtddpknegneihbaaGreatDoorTie.lean); close each card by the builder's one call (the guide's Derived/Test/ToyasCard.lean, 'card_holds'). Laid BY PROGRAM, IN A SANDBOX (cutbox-door.mjs). By AI agents, Wed Nov 11 2026. No macro, syntax, notation, axiom, sorry.
-/
import Derived.Test.YtddpknegneihbaaGreatDoorRows
import GoSem.ClaimSeven
namespace Go.Proofs.YtddpknegneihbaaGreatDoor
namespace Rows

/-- THE TIED CARD OF 'bollardlaw15.PartSettings'. -/
def partSettingsCard : Claim7 := { stood := { row := partSettingsRow, standIns := [], harness := (true, "581a0369deb1541038d8e3d54db7e365c8b0c1a9d8316e9a25f86cfe5fab47c5"), looks := true }, kinds := [], alts := [], laidByText := true, laidKinds := [.data, .pinned], laidTests := true, laidLooks := .later }
def PartSettingsCardSaid : Prop := Claim7.holds Tryz.pinned (.plain (OpenSpec.ofChange partSettingsSpec)) partSettingsCard

/-- THE TIED CARD OF 'bollardlaw15.PartAges'. -/
def partAgesCard : Claim7 := { stood := { row := partAgesRow, standIns := [], harness := (true, "581a0369deb1541038d8e3d54db7e365c8b0c1a9d8316e9a25f86cfe5fab47c5"), looks := true }, kinds := [], alts := [], laidByText := true, laidKinds := [.data, .pinned], laidTests := true, laidLooks := .later }
def PartAgesCardSaid : Prop := Claim7.holds Tryz.pinned (.plain (OpenSpec.ofChange partAgesSpec)) partAgesCard

/-- THE TIED CARD OF 'bollardlaw15.PartOffsets'. -/
def partOffsetsCard : Claim7 := { stood := { row := partOffsetsRow, standIns := [], harness := (true, "581a0369deb1541038d8e3d54db7e365c8b0c1a9d8316e9a25f86cfe5fab47c5"), looks := true }, kinds := [], alts := [], laidByText := true, laidKinds := [.data, .pinned], laidTests := true, laidLooks := .later }
def PartOffsetsCardSaid : Prop := Claim7.holds Tryz.pinned (.plain (OpenSpec.ofChange partOffsetsSpec)) partOffsetsCard

/-- THE TIED CARD OF 'bollardlaw15.PartReads'. -/
def partReadsCard : Claim7 := { stood := { row := partReadsRow, standIns := [], harness := (true, "581a0369deb1541038d8e3d54db7e365c8b0c1a9d8316e9a25f86cfe5fab47c5"), looks := true }, kinds := [], alts := [], laidByText := true, laidKinds := [.data, .pinned], laidTests := true, laidLooks := .later }
def PartReadsCardSaid : Prop := Claim7.holds Tryz.pinned (.plain (OpenSpec.ofChange partReadsSpec)) partReadsCard

/-- THE TIED CARD OF 'bollardlaw18.GroupsMany'. -/
def groupsManyCard : Claim7 := { stood := { row := groupsManyRow, standIns := [], harness := (true, "581a0369deb1541038d8e3d54db7e365c8b0c1a9d8316e9a25f86cfe5fab47c5"), looks := true }, kinds := [], alts := [], laidByText := true, laidKinds := [.data, .pinned], laidTests := true, laidLooks := .later }
def GroupsManyCardSaid : Prop := Claim7.holds Tryz.pinned (.plain (OpenSpec.ofChange groupsManySpec)) groupsManyCard

/-- THE TIED CARD OF 'bollardlaw18.GroupsApart'. -/
def groupsApartCard : Claim7 := { stood := { row := groupsApartRow, standIns := [], harness := (true, "581a0369deb1541038d8e3d54db7e365c8b0c1a9d8316e9a25f86cfe5fab47c5"), looks := true }, kinds := [], alts := [], laidByText := true, laidKinds := [.data, .pinned], laidTests := true, laidLooks := .later }
def GroupsApartCardSaid : Prop := Claim7.holds Tryz.pinned (.plain (OpenSpec.ofChange groupsApartSpec)) groupsApartCard

/-- THE TIED CARD OF 'bollardlaw15.PartRefuses'. -/
def partRefusesCard : Claim7 := { stood := { row := partRefusesRow, standIns := [], harness := (true, "581a0369deb1541038d8e3d54db7e365c8b0c1a9d8316e9a25f86cfe5fab47c5"), looks := true }, kinds := [], alts := [], laidByText := true, laidKinds := [.data, .pinned], laidTests := true, laidLooks := .later }
def PartRefusesCardSaid : Prop := Claim7.holds Tryz.pinned (.plain (OpenSpec.ofChange partRefusesSpec)) partRefusesCard

/-- THE TIED CARD OF 'bollardlaw15.PartKeys'. -/
def partKeysCard : Claim7 := { stood := { row := partKeysRow, standIns := [], harness := (true, "581a0369deb1541038d8e3d54db7e365c8b0c1a9d8316e9a25f86cfe5fab47c5"), looks := true }, kinds := [], alts := [], laidByText := true, laidKinds := [.data, .pinned], laidTests := true, laidLooks := .later }
def PartKeysCardSaid : Prop := Claim7.holds Tryz.pinned (.plain (OpenSpec.ofChange partKeysSpec)) partKeysCard

/-- THE TIED CARD OF 'bollardlaw15.PartTombs'. -/
def partTombsCard : Claim7 := { stood := { row := partTombsRow, standIns := [], harness := (true, "581a0369deb1541038d8e3d54db7e365c8b0c1a9d8316e9a25f86cfe5fab47c5"), looks := true }, kinds := [], alts := [], laidByText := true, laidKinds := [.data, .pinned], laidTests := true, laidLooks := .later }
def PartTombsCardSaid : Prop := Claim7.holds Tryz.pinned (.plain (OpenSpec.ofChange partTombsSpec)) partTombsCard

/-- THE TIED CARD OF 'bollardlaw18.GroupsPlay'. -/
def groupsPlayCard : Claim7 := { stood := { row := groupsPlayRow, standIns := [], harness := (true, "581a0369deb1541038d8e3d54db7e365c8b0c1a9d8316e9a25f86cfe5fab47c5"), looks := true }, kinds := [], alts := [], laidByText := true, laidKinds := [.data, .pinned], laidTests := true, laidLooks := .later }
def GroupsPlayCardSaid : Prop := Claim7.holds Tryz.pinned (.plain (OpenSpec.ofChange groupsPlaySpec)) groupsPlayCard

/-- THE TIED CARD OF 'bollardlaw18.GroupsNothing'. -/
def groupsNothingCard : Claim7 := { stood := { row := groupsNothingRow, standIns := [], harness := (true, "581a0369deb1541038d8e3d54db7e365c8b0c1a9d8316e9a25f86cfe5fab47c5"), looks := true }, kinds := [], alts := [], laidByText := true, laidKinds := [.data, .pinned], laidTests := true, laidLooks := .later }
def GroupsNothingCardSaid : Prop := Claim7.holds Tryz.pinned (.plain (OpenSpec.ofChange groupsNothingSpec)) groupsNothingCard

/-- THE TIED CARD OF 'bollardlaw18.GroupsRoom'. -/
def groupsRoomCard : Claim7 := { stood := { row := groupsRoomRow, standIns := [], harness := (true, "581a0369deb1541038d8e3d54db7e365c8b0c1a9d8316e9a25f86cfe5fab47c5"), looks := true }, kinds := [], alts := [], laidByText := true, laidKinds := [.data, .pinned], laidTests := true, laidLooks := .later }
def GroupsRoomCardSaid : Prop := Claim7.holds Tryz.pinned (.plain (OpenSpec.ofChange groupsRoomSpec)) groupsRoomCard

/-- THE SECOND FORM's CARD OF 'bollardlaw15.PartSettings'. -/
def partSettingsUptoCard : Claim7 := { stood := { row := partSettingsUptoRow, standIns := [], harness := (true, "581a0369deb1541038d8e3d54db7e365c8b0c1a9d8316e9a25f86cfe5fab47c5"), looks := true }, kinds := [], alts := [], laidByText := true, laidKinds := [.data, .pinned], laidTests := true, laidLooks := .later }
def PartSettingsUptoCardSaid : Prop := Claim7.holds Tryz.pinned (.plain (OpenSpec.upto partSettingsSpec)) partSettingsUptoCard

/-- THE SECOND FORM's CARD OF 'bollardlaw15.PartAges'. -/
def partAgesUptoCard : Claim7 := { stood := { row := partAgesUptoRow, standIns := [], harness := (true, "581a0369deb1541038d8e3d54db7e365c8b0c1a9d8316e9a25f86cfe5fab47c5"), looks := true }, kinds := [], alts := [], laidByText := true, laidKinds := [.data, .pinned], laidTests := true, laidLooks := .later }
def PartAgesUptoCardSaid : Prop := Claim7.holds Tryz.pinned (.plain (OpenSpec.upto partAgesSpec)) partAgesUptoCard

/-- THE SECOND FORM's CARD OF 'bollardlaw15.PartOffsets'. -/
def partOffsetsUptoCard : Claim7 := { stood := { row := partOffsetsUptoRow, standIns := [], harness := (true, "581a0369deb1541038d8e3d54db7e365c8b0c1a9d8316e9a25f86cfe5fab47c5"), looks := true }, kinds := [], alts := [], laidByText := true, laidKinds := [.data, .pinned], laidTests := true, laidLooks := .later }
def PartOffsetsUptoCardSaid : Prop := Claim7.holds Tryz.pinned (.plain (OpenSpec.upto partOffsetsSpec)) partOffsetsUptoCard

/-- THE SECOND FORM's CARD OF 'bollardlaw15.PartReads'. -/
def partReadsUptoCard : Claim7 := { stood := { row := partReadsUptoRow, standIns := [], harness := (true, "581a0369deb1541038d8e3d54db7e365c8b0c1a9d8316e9a25f86cfe5fab47c5"), looks := true }, kinds := [], alts := [], laidByText := true, laidKinds := [.data, .pinned], laidTests := true, laidLooks := .later }
def PartReadsUptoCardSaid : Prop := Claim7.holds Tryz.pinned (.plain (OpenSpec.upto partReadsSpec)) partReadsUptoCard

/-- THE SECOND FORM's CARD OF 'bollardlaw18.GroupsMany'. -/
def groupsManyUptoCard : Claim7 := { stood := { row := groupsManyUptoRow, standIns := [], harness := (true, "581a0369deb1541038d8e3d54db7e365c8b0c1a9d8316e9a25f86cfe5fab47c5"), looks := true }, kinds := [], alts := [], laidByText := true, laidKinds := [.data, .pinned], laidTests := true, laidLooks := .later }
def GroupsManyUptoCardSaid : Prop := Claim7.holds Tryz.pinned (.plain (OpenSpec.upto groupsManySpec)) groupsManyUptoCard

/-- THE SECOND FORM's CARD OF 'bollardlaw18.GroupsApart'. -/
def groupsApartUptoCard : Claim7 := { stood := { row := groupsApartUptoRow, standIns := [], harness := (true, "581a0369deb1541038d8e3d54db7e365c8b0c1a9d8316e9a25f86cfe5fab47c5"), looks := true }, kinds := [], alts := [], laidByText := true, laidKinds := [.data, .pinned], laidTests := true, laidLooks := .later }
def GroupsApartUptoCardSaid : Prop := Claim7.holds Tryz.pinned (.plain (OpenSpec.upto groupsApartSpec)) groupsApartUptoCard

/-- THE SECOND FORM's CARD OF 'bollardlaw15.PartRefuses'. -/
def partRefusesUptoCard : Claim7 := { stood := { row := partRefusesUptoRow, standIns := [], harness := (true, "581a0369deb1541038d8e3d54db7e365c8b0c1a9d8316e9a25f86cfe5fab47c5"), looks := true }, kinds := [], alts := [], laidByText := true, laidKinds := [.data, .pinned], laidTests := true, laidLooks := .later }
def PartRefusesUptoCardSaid : Prop := Claim7.holds Tryz.pinned (.plain (OpenSpec.upto partRefusesSpec)) partRefusesUptoCard

/-- THE SECOND FORM's CARD OF 'bollardlaw15.PartKeys'. -/
def partKeysUptoCard : Claim7 := { stood := { row := partKeysUptoRow, standIns := [], harness := (true, "581a0369deb1541038d8e3d54db7e365c8b0c1a9d8316e9a25f86cfe5fab47c5"), looks := true }, kinds := [], alts := [], laidByText := true, laidKinds := [.data, .pinned], laidTests := true, laidLooks := .later }
def PartKeysUptoCardSaid : Prop := Claim7.holds Tryz.pinned (.plain (OpenSpec.upto partKeysSpec)) partKeysUptoCard

/-- THE SECOND FORM's CARD OF 'bollardlaw15.PartTombs'. -/
def partTombsUptoCard : Claim7 := { stood := { row := partTombsUptoRow, standIns := [], harness := (true, "581a0369deb1541038d8e3d54db7e365c8b0c1a9d8316e9a25f86cfe5fab47c5"), looks := true }, kinds := [], alts := [], laidByText := true, laidKinds := [.data, .pinned], laidTests := true, laidLooks := .later }
def PartTombsUptoCardSaid : Prop := Claim7.holds Tryz.pinned (.plain (OpenSpec.upto partTombsSpec)) partTombsUptoCard

/-- THE SECOND FORM's CARD OF 'bollardlaw18.GroupsPlay'. -/
def groupsPlayUptoCard : Claim7 := { stood := { row := groupsPlayUptoRow, standIns := [], harness := (true, "581a0369deb1541038d8e3d54db7e365c8b0c1a9d8316e9a25f86cfe5fab47c5"), looks := true }, kinds := [], alts := [], laidByText := true, laidKinds := [.data, .pinned], laidTests := true, laidLooks := .later }
def GroupsPlayUptoCardSaid : Prop := Claim7.holds Tryz.pinned (.plain (OpenSpec.upto groupsPlaySpec)) groupsPlayUptoCard

/-- THE SECOND FORM's CARD OF 'bollardlaw18.GroupsNothing'. -/
def groupsNothingUptoCard : Claim7 := { stood := { row := groupsNothingUptoRow, standIns := [], harness := (true, "581a0369deb1541038d8e3d54db7e365c8b0c1a9d8316e9a25f86cfe5fab47c5"), looks := true }, kinds := [], alts := [], laidByText := true, laidKinds := [.data, .pinned], laidTests := true, laidLooks := .later }
def GroupsNothingUptoCardSaid : Prop := Claim7.holds Tryz.pinned (.plain (OpenSpec.upto groupsNothingSpec)) groupsNothingUptoCard

/-- THE SECOND FORM's CARD OF 'bollardlaw18.GroupsRoom'. -/
def groupsRoomUptoCard : Claim7 := { stood := { row := groupsRoomUptoRow, standIns := [], harness := (true, "581a0369deb1541038d8e3d54db7e365c8b0c1a9d8316e9a25f86cfe5fab47c5"), looks := true }, kinds := [], alts := [], laidByText := true, laidKinds := [.data, .pinned], laidTests := true, laidLooks := .later }
def GroupsRoomUptoCardSaid : Prop := Claim7.holds Tryz.pinned (.plain (OpenSpec.upto groupsRoomSpec)) groupsRoomUptoCard
end Rows
end Go.Proofs.YtddpknegneihbaaGreatDoor

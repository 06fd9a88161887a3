/-
  DERIVED. GIVEN WITH THE SEED: THE CARDS: each row of YtmihjfcbofejoaaGreatDoorRows.lean that lists a variable, with what it lists TIED to the program's text (the seventh form; the later family's looks); each row that meets fmt, with fmt's text TOLD by the authors' own Lean function (tested against real Go, not proved from fmt's source: count such statements apart). THE CARD IS WHAT COUNTS. Prove the row's statement (the work); the ties are given (YtmihjfcbofejoaaGreatDoorTie.lean); close each card by the builder's one call (the guide's Derived/Test/ToyasCard.lean, 'card_holds'). Laid BY PROGRAM, IN A SANDBOX (cutbox-door.mjs). By AI agents, Wed Nov 11 2026. No macro, syntax, notation, axiom, sorry.
-/
import Derived.Test.YtmihjfcbofejoaaGreatDoorRows
import GoSem.ClaimSeven
namespace Go.Proofs.YtmihjfcbofejoaaGreatDoor
namespace Rows

/-- THE TIED CARD OF 'bollardlaw15.PartSettings'. -/
def partSettingsCard : Claim7 := { stood := { row := partSettingsRow, standIns := [], harness := (true, "4ecc0b3588063a331043dc168a4ca2a715ca78ff88f9ed876aa77f3dba7e7324"), looks := true }, kinds := [], alts := [], laidByText := true, laidKinds := [.data, .pinned], laidTests := true, laidLooks := .later }
def PartSettingsCardSaid : Prop := Claim7.holds Tryz.pinned (.plain (OpenSpec.ofChange partSettingsSpec)) partSettingsCard

/-- THE TIED CARD OF 'bollardlaw15.PartOffsets'. -/
def partOffsetsCard : Claim7 := { stood := { row := partOffsetsRow, standIns := [], harness := (true, "4ecc0b3588063a331043dc168a4ca2a715ca78ff88f9ed876aa77f3dba7e7324"), looks := true }, kinds := [], alts := [], laidByText := true, laidKinds := [.data, .pinned], laidTests := true, laidLooks := .later }
def PartOffsetsCardSaid : Prop := Claim7.holds Tryz.pinned (.plain (OpenSpec.ofChange partOffsetsSpec)) partOffsetsCard

/-- THE TIED CARD OF 'bollardlaw15.PartReads'. -/
def partReadsCard : Claim7 := { stood := { row := partReadsRow, standIns := [], harness := (true, "4ecc0b3588063a331043dc168a4ca2a715ca78ff88f9ed876aa77f3dba7e7324"), looks := true }, kinds := [], alts := [], laidByText := true, laidKinds := [.data, .pinned], laidTests := true, laidLooks := .later }
def PartReadsCardSaid : Prop := Claim7.holds Tryz.pinned (.plain (OpenSpec.ofChange partReadsSpec)) partReadsCard

/-- THE TIED CARD OF 'bollardlaw18.GroupsMany'. -/
def groupsManyCard : Claim7 := { stood := { row := groupsManyRow, standIns := [], harness := (true, "4ecc0b3588063a331043dc168a4ca2a715ca78ff88f9ed876aa77f3dba7e7324"), looks := true }, kinds := [], alts := [], laidByText := true, laidKinds := [.data, .pinned], laidTests := true, laidLooks := .later }
def GroupsManyCardSaid : Prop := Claim7.holds Tryz.pinned (.plain (OpenSpec.ofChange groupsManySpec)) groupsManyCard

/-- THE TIED CARD OF 'bollardlaw18.GroupsApart'. -/
def groupsApartCard : Claim7 := { stood := { row := groupsApartRow, standIns := [], harness := (true, "4ecc0b3588063a331043dc168a4ca2a715ca78ff88f9ed876aa77f3dba7e7324"), looks := true }, kinds := [], alts := [], laidByText := true, laidKinds := [.data, .pinned], laidTests := true, laidLooks := .later }
def GroupsApartCardSaid : Prop := Claim7.holds Tryz.pinned (.plain (OpenSpec.ofChange groupsApartSpec)) groupsApartCard

/-- THE TIED CARD OF 'bollardlaw15.PartRefuses'. -/
def partRefusesCard : Claim7 := { stood := { row := partRefusesRow, standIns := [], harness := (true, "4ecc0b3588063a331043dc168a4ca2a715ca78ff88f9ed876aa77f3dba7e7324"), looks := true }, kinds := [], alts := [], laidByText := true, laidKinds := [.data, .pinned], laidTests := true, laidLooks := .later }
def PartRefusesCardSaid : Prop := Claim7.holds Tryz.pinned (.plain (OpenSpec.ofChange partRefusesSpec)) partRefusesCard

/-- THE TIED CARD OF 'bollardlaw18.GroupsNothing'. -/
def groupsNothingCard : Claim7 := { stood := { row := groupsNothingRow, standIns := [], harness := (true, "4ecc0b3588063a331043dc168a4ca2a715ca78ff88f9ed876aa77f3dba7e7324"), looks := true }, kinds := [], alts := [], laidByText := true, laidKinds := [.data, .pinned], laidTests := true, laidLooks := .later }
def GroupsNothingCardSaid : Prop := Claim7.holds Tryz.pinned (.plain (OpenSpec.ofChange groupsNothingSpec)) groupsNothingCard

/-- THE SECOND FORM's CARD OF 'bollardlaw15.PartSettings'. -/
def partSettingsUptoCard : Claim7 := { stood := { row := partSettingsUptoRow, standIns := [], harness := (true, "4ecc0b3588063a331043dc168a4ca2a715ca78ff88f9ed876aa77f3dba7e7324"), looks := true }, kinds := [], alts := [], laidByText := true, laidKinds := [.data, .pinned], laidTests := true, laidLooks := .later }
def PartSettingsUptoCardSaid : Prop := Claim7.holds Tryz.pinned (.plain (OpenSpec.upto partSettingsSpec)) partSettingsUptoCard

/-- THE SECOND FORM's CARD OF 'bollardlaw15.PartOffsets'. -/
def partOffsetsUptoCard : Claim7 := { stood := { row := partOffsetsUptoRow, standIns := [], harness := (true, "4ecc0b3588063a331043dc168a4ca2a715ca78ff88f9ed876aa77f3dba7e7324"), looks := true }, kinds := [], alts := [], laidByText := true, laidKinds := [.data, .pinned], laidTests := true, laidLooks := .later }
def PartOffsetsUptoCardSaid : Prop := Claim7.holds Tryz.pinned (.plain (OpenSpec.upto partOffsetsSpec)) partOffsetsUptoCard

/-- THE SECOND FORM's CARD OF 'bollardlaw15.PartReads'. -/
def partReadsUptoCard : Claim7 := { stood := { row := partReadsUptoRow, standIns := [], harness := (true, "4ecc0b3588063a331043dc168a4ca2a715ca78ff88f9ed876aa77f3dba7e7324"), looks := true }, kinds := [], alts := [], laidByText := true, laidKinds := [.data, .pinned], laidTests := true, laidLooks := .later }
def PartReadsUptoCardSaid : Prop := Claim7.holds Tryz.pinned (.plain (OpenSpec.upto partReadsSpec)) partReadsUptoCard

/-- THE SECOND FORM's CARD OF 'bollardlaw18.GroupsMany'. -/
def groupsManyUptoCard : Claim7 := { stood := { row := groupsManyUptoRow, standIns := [], harness := (true, "4ecc0b3588063a331043dc168a4ca2a715ca78ff88f9ed876aa77f3dba7e7324"), looks := true }, kinds := [], alts := [], laidByText := true, laidKinds := [.data, .pinned], laidTests := true, laidLooks := .later }
def GroupsManyUptoCardSaid : Prop := Claim7.holds Tryz.pinned (.plain (OpenSpec.upto groupsManySpec)) groupsManyUptoCard

/-- THE SECOND FORM's CARD OF 'bollardlaw18.GroupsApart'. -/
def groupsApartUptoCard : Claim7 := { stood := { row := groupsApartUptoRow, standIns := [], harness := (true, "4ecc0b3588063a331043dc168a4ca2a715ca78ff88f9ed876aa77f3dba7e7324"), looks := true }, kinds := [], alts := [], laidByText := true, laidKinds := [.data, .pinned], laidTests := true, laidLooks := .later }
def GroupsApartUptoCardSaid : Prop := Claim7.holds Tryz.pinned (.plain (OpenSpec.upto groupsApartSpec)) groupsApartUptoCard

/-- THE SECOND FORM's CARD OF 'bollardlaw15.PartRefuses'. -/
def partRefusesUptoCard : Claim7 := { stood := { row := partRefusesUptoRow, standIns := [], harness := (true, "4ecc0b3588063a331043dc168a4ca2a715ca78ff88f9ed876aa77f3dba7e7324"), looks := true }, kinds := [], alts := [], laidByText := true, laidKinds := [.data, .pinned], laidTests := true, laidLooks := .later }
def PartRefusesUptoCardSaid : Prop := Claim7.holds Tryz.pinned (.plain (OpenSpec.upto partRefusesSpec)) partRefusesUptoCard

/-- THE SECOND FORM's CARD OF 'bollardlaw18.GroupsNothing'. -/
def groupsNothingUptoCard : Claim7 := { stood := { row := groupsNothingUptoRow, standIns := [], harness := (true, "4ecc0b3588063a331043dc168a4ca2a715ca78ff88f9ed876aa77f3dba7e7324"), looks := true }, kinds := [], alts := [], laidByText := true, laidKinds := [.data, .pinned], laidTests := true, laidLooks := .later }
def GroupsNothingUptoCardSaid : Prop := Claim7.holds Tryz.pinned (.plain (OpenSpec.upto groupsNothingSpec)) groupsNothingUptoCard
end Rows
end Go.Proofs.YtmihjfcbofejoaaGreatDoor

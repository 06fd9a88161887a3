/-
  DERIVED. GIVEN WITH THE SEED: THE CARDS: each row of YthpdeihndjhjfaaGreatDoorRows.lean that lists a variable, with what it lists TIED to the program's text (the seventh form; the later family's looks); each row that meets fmt, with fmt's text TOLD by the authors' own Lean function (tested against real Go, not proved from fmt's source: count such statements apart). THE CARD IS WHAT COUNTS. Prove the row's statement (the work); the ties are given (YthpdeihndjhjfaaGreatDoorTie.lean); close each card by the builder's one call (the guide's Derived/Test/ToyasCard.lean, 'card_holds'). Laid BY PROGRAM, IN A SANDBOX (cutbox-door.mjs). By AI agents, Wed Nov 11 2026. No macro, syntax, notation, axiom, sorry.
-/
import Derived.Test.YthpdeihndjhjfaaGreatDoorRows
import GoSem.ClaimSeven
namespace Go.Proofs.YthpdeihndjhjfaaGreatDoor
namespace Rows

/-- THE TIED CARD OF 'bollardlaw14.SegmentReads'. -/
def segmentReadsCard : Claim7 := { stood := { row := segmentReadsRow, standIns := [], harness := (true, "d539aa4070c893e7a102b4a5cb9efa161ecd43ffbdec6a8e205f6217e90b0dba"), looks := true }, kinds := [], alts := [], laidByText := true, laidKinds := [.data, .pinned], laidTests := true, laidLooks := .later }
def SegmentReadsCardSaid : Prop := Claim7.holds Tryz.pinned (.plain (OpenSpec.ofChange segmentReadsSpec)) segmentReadsCard

/-- THE TIED CARD OF 'bollardlaw14.SegmentGaps'. -/
def segmentGapsCard : Claim7 := { stood := { row := segmentGapsRow, standIns := [], harness := (true, "d539aa4070c893e7a102b4a5cb9efa161ecd43ffbdec6a8e205f6217e90b0dba"), looks := true }, kinds := [], alts := [], laidByText := true, laidKinds := [.data, .pinned], laidTests := true, laidLooks := .later }
def SegmentGapsCardSaid : Prop := Claim7.holds Tryz.pinned (.plain (OpenSpec.ofChange segmentGapsSpec)) segmentGapsCard

/-- THE TIED CARD OF 'bollardlaw14.SegmentTimes'. -/
def segmentTimesCard : Claim7 := { stood := { row := segmentTimesRow, standIns := [], harness := (true, "d539aa4070c893e7a102b4a5cb9efa161ecd43ffbdec6a8e205f6217e90b0dba"), looks := true }, kinds := [], alts := [], laidByText := true, laidKinds := [.data, .pinned], laidTests := true, laidLooks := .later }
def SegmentTimesCardSaid : Prop := Claim7.holds Tryz.pinned (.plain (OpenSpec.ofChange segmentTimesSpec)) segmentTimesCard

/-- THE TIED CARD OF 'bollardlaw14.SegmentTorn'. -/
def segmentTornCard : Claim7 := { stood := { row := segmentTornRow, standIns := [], harness := (true, "d539aa4070c893e7a102b4a5cb9efa161ecd43ffbdec6a8e205f6217e90b0dba"), looks := true }, kinds := [], alts := [], laidByText := true, laidKinds := [.data, .pinned], laidTests := true, laidLooks := .later }
def SegmentTornCardSaid : Prop := Claim7.holds Tryz.pinned (.plain (OpenSpec.ofChange segmentTornSpec)) segmentTornCard

/-- THE TIED CARD OF 'bollardlaw14.SegmentNothing'. -/
def segmentNothingCard : Claim7 := { stood := { row := segmentNothingRow, standIns := [], harness := (true, "d539aa4070c893e7a102b4a5cb9efa161ecd43ffbdec6a8e205f6217e90b0dba"), looks := true }, kinds := [], alts := [], laidByText := true, laidKinds := [.data, .pinned], laidTests := true, laidLooks := .later }
def SegmentNothingCardSaid : Prop := Claim7.holds Tryz.pinned (.plain (OpenSpec.ofChange segmentNothingSpec)) segmentNothingCard

/-- THE SECOND FORM's CARD OF 'bollardlaw14.SegmentReads'. -/
def segmentReadsUptoCard : Claim7 := { stood := { row := segmentReadsUptoRow, standIns := [], harness := (true, "d539aa4070c893e7a102b4a5cb9efa161ecd43ffbdec6a8e205f6217e90b0dba"), looks := true }, kinds := [], alts := [], laidByText := true, laidKinds := [.data, .pinned], laidTests := true, laidLooks := .later }
def SegmentReadsUptoCardSaid : Prop := Claim7.holds Tryz.pinned (.plain (OpenSpec.upto segmentReadsSpec)) segmentReadsUptoCard

/-- THE SECOND FORM's CARD OF 'bollardlaw14.SegmentGaps'. -/
def segmentGapsUptoCard : Claim7 := { stood := { row := segmentGapsUptoRow, standIns := [], harness := (true, "d539aa4070c893e7a102b4a5cb9efa161ecd43ffbdec6a8e205f6217e90b0dba"), looks := true }, kinds := [], alts := [], laidByText := true, laidKinds := [.data, .pinned], laidTests := true, laidLooks := .later }
def SegmentGapsUptoCardSaid : Prop := Claim7.holds Tryz.pinned (.plain (OpenSpec.upto segmentGapsSpec)) segmentGapsUptoCard

/-- THE SECOND FORM's CARD OF 'bollardlaw14.SegmentTimes'. -/
def segmentTimesUptoCard : Claim7 := { stood := { row := segmentTimesUptoRow, standIns := [], harness := (true, "d539aa4070c893e7a102b4a5cb9efa161ecd43ffbdec6a8e205f6217e90b0dba"), looks := true }, kinds := [], alts := [], laidByText := true, laidKinds := [.data, .pinned], laidTests := true, laidLooks := .later }
def SegmentTimesUptoCardSaid : Prop := Claim7.holds Tryz.pinned (.plain (OpenSpec.upto segmentTimesSpec)) segmentTimesUptoCard

/-- THE SECOND FORM's CARD OF 'bollardlaw14.SegmentTorn'. -/
def segmentTornUptoCard : Claim7 := { stood := { row := segmentTornUptoRow, standIns := [], harness := (true, "d539aa4070c893e7a102b4a5cb9efa161ecd43ffbdec6a8e205f6217e90b0dba"), looks := true }, kinds := [], alts := [], laidByText := true, laidKinds := [.data, .pinned], laidTests := true, laidLooks := .later }
def SegmentTornUptoCardSaid : Prop := Claim7.holds Tryz.pinned (.plain (OpenSpec.upto segmentTornSpec)) segmentTornUptoCard

/-- THE SECOND FORM's CARD OF 'bollardlaw14.SegmentNothing'. -/
def segmentNothingUptoCard : Claim7 := { stood := { row := segmentNothingUptoRow, standIns := [], harness := (true, "d539aa4070c893e7a102b4a5cb9efa161ecd43ffbdec6a8e205f6217e90b0dba"), looks := true }, kinds := [], alts := [], laidByText := true, laidKinds := [.data, .pinned], laidTests := true, laidLooks := .later }
def SegmentNothingUptoCardSaid : Prop := Claim7.holds Tryz.pinned (.plain (OpenSpec.upto segmentNothingSpec)) segmentNothingUptoCard
end Rows
end Go.Proofs.YthpdeihndjhjfaaGreatDoor

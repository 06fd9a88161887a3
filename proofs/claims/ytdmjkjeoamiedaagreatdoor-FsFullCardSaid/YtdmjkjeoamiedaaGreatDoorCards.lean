/-
  DERIVED. GIVEN WITH THE SEED: THE CARDS: each row of YtdmjkjeoamiedaaGreatDoorRows.lean that lists a variable, with what it lists TIED to the program's text (the seventh form; the later family's looks); each row that meets fmt, with fmt's text TOLD by the authors' own Lean function (tested against real Go, not proved from fmt's source: count such statements apart). THE CARD IS WHAT COUNTS. Prove the row's statement (the work); the ties are given (YtdmjkjeoamiedaaGreatDoorTie.lean); close each card by the builder's one call (the guide's Derived/Test/ToyasCard.lean, 'card_holds'). Laid BY PROGRAM, IN A SANDBOX (cutbox-door.mjs). By AI agents, Wed Nov 11 2026. No macro, syntax, notation, axiom, sorry.
-/
import Derived.Test.YtdmjkjeoamiedaaGreatDoorRows
import GoSem.ClaimSeven
namespace Go.Proofs.YtdmjkjeoamiedaaGreatDoor
namespace Rows

/-- THE TIED CARD OF 'bollardlaw16.ProducersNothing'. -/
def producersNothingCard : Claim7 := { stood := { row := producersNothingRow, standIns := [], harness := (true, "51691de6147585cf3f1f0edcf3a42c52a5520aa892823c741b2141c2e8a3ff70"), looks := true }, kinds := [], alts := [], laidByText := true, laidKinds := [.data, .pinned], laidTests := true, laidLooks := .later }
def ProducersNothingCardSaid : Prop := Claim7.holds Tryz.pinned (.plain (OpenSpec.ofChange producersNothingSpec)) producersNothingCard

/-- THE TIED CARD OF 'bollardlaw16.ProducersPlay'. -/
def producersPlayCard : Claim7 := { stood := { row := producersPlayRow, standIns := [], harness := (true, "51691de6147585cf3f1f0edcf3a42c52a5520aa892823c741b2141c2e8a3ff70"), looks := true }, kinds := [], alts := [], laidByText := true, laidKinds := [.data, .pinned], laidTests := true, laidLooks := .later }
def ProducersPlayCardSaid : Prop := Claim7.holds Tryz.pinned (.plain (OpenSpec.ofChange producersPlaySpec)) producersPlayCard

/-- THE TIED CARD OF 'bollardlaw11.FilesKinds'. -/
def filesKindsCard : Claim7 := { stood := { row := filesKindsRow, standIns := [], harness := (true, "51691de6147585cf3f1f0edcf3a42c52a5520aa892823c741b2141c2e8a3ff70"), looks := true }, kinds := [], alts := [], laidByText := true, laidKinds := [.data, .pinned], laidTests := true, laidLooks := .later }
def FilesKindsCardSaid : Prop := Claim7.holds Tryz.pinned (.plain (OpenSpec.ofChange filesKindsSpec)) filesKindsCard

/-- THE TIED CARD OF 'bollardlaw14.SegmentReads'. -/
def segmentReadsCard : Claim7 := { stood := { row := segmentReadsRow, standIns := [], harness := (true, "51691de6147585cf3f1f0edcf3a42c52a5520aa892823c741b2141c2e8a3ff70"), looks := true }, kinds := [], alts := [], laidByText := true, laidKinds := [.data, .pinned], laidTests := true, laidLooks := .later }
def SegmentReadsCardSaid : Prop := Claim7.holds Tryz.pinned (.plain (OpenSpec.ofChange segmentReadsSpec)) segmentReadsCard

/-- THE TIED CARD OF 'bollardlaw14.SegmentGaps'. -/
def segmentGapsCard : Claim7 := { stood := { row := segmentGapsRow, standIns := [], harness := (true, "51691de6147585cf3f1f0edcf3a42c52a5520aa892823c741b2141c2e8a3ff70"), looks := true }, kinds := [], alts := [], laidByText := true, laidKinds := [.data, .pinned], laidTests := true, laidLooks := .later }
def SegmentGapsCardSaid : Prop := Claim7.holds Tryz.pinned (.plain (OpenSpec.ofChange segmentGapsSpec)) segmentGapsCard

/-- THE TIED CARD OF 'bollardlaw10.FsDeep'. -/
def fsDeepCard : Claim7 := { stood := { row := fsDeepRow, standIns := [], harness := (true, "51691de6147585cf3f1f0edcf3a42c52a5520aa892823c741b2141c2e8a3ff70"), looks := true }, kinds := [], alts := [], laidByText := true, laidKinds := [.data, .pinned], laidTests := true, laidLooks := .later }
def FsDeepCardSaid : Prop := Claim7.holds Tryz.pinned (.plain (OpenSpec.ofChange fsDeepSpec)) fsDeepCard

/-- THE TIED CARD OF 'bollardlaw10.FsRename'. -/
def fsRenameCard : Claim7 := { stood := { row := fsRenameRow, standIns := [], harness := (true, "51691de6147585cf3f1f0edcf3a42c52a5520aa892823c741b2141c2e8a3ff70"), looks := true }, kinds := [], alts := [], laidByText := true, laidKinds := [.data, .pinned], laidTests := true, laidLooks := .later }
def FsRenameCardSaid : Prop := Claim7.holds Tryz.pinned (.plain (OpenSpec.ofChange fsRenameSpec)) fsRenameCard

/-- THE TIED CARD OF 'bollardlaw10.FsMany'. -/
def fsManyCard : Claim7 := { stood := { row := fsManyRow, standIns := [], harness := (true, "51691de6147585cf3f1f0edcf3a42c52a5520aa892823c741b2141c2e8a3ff70"), looks := true }, kinds := [], alts := [], laidByText := true, laidKinds := [.data, .pinned], laidTests := true, laidLooks := .later }
def FsManyCardSaid : Prop := Claim7.holds Tryz.pinned (.plain (OpenSpec.ofChange fsManySpec)) fsManyCard

/-- THE TIED CARD OF 'bollardlaw10.FsLists'. -/
def fsListsCard : Claim7 := { stood := { row := fsListsRow, standIns := [], harness := (true, "51691de6147585cf3f1f0edcf3a42c52a5520aa892823c741b2141c2e8a3ff70"), looks := true }, kinds := [], alts := [], laidByText := true, laidKinds := [.data, .pinned], laidTests := true, laidLooks := .later }
def FsListsCardSaid : Prop := Claim7.holds Tryz.pinned (.plain (OpenSpec.ofChange fsListsSpec)) fsListsCard

/-- THE TIED CARD OF 'bollardlaw11.FilesGone'. -/
def filesGoneCard : Claim7 := { stood := { row := filesGoneRow, standIns := [], harness := (true, "51691de6147585cf3f1f0edcf3a42c52a5520aa892823c741b2141c2e8a3ff70"), looks := true }, kinds := [], alts := [], laidByText := true, laidKinds := [.data, .pinned], laidTests := true, laidLooks := .later }
def FilesGoneCardSaid : Prop := Claim7.holds Tryz.pinned (.plain (OpenSpec.ofChange filesGoneSpec)) filesGoneCard

/-- THE TIED CARD OF 'bollardlaw10.FsFull'. -/
def fsFullCard : Claim7 := { stood := { row := fsFullRow, standIns := [], harness := (true, "51691de6147585cf3f1f0edcf3a42c52a5520aa892823c741b2141c2e8a3ff70"), looks := true }, kinds := [], alts := [], laidByText := true, laidKinds := [.data, .pinned], laidTests := true, laidLooks := .later }
def FsFullCardSaid : Prop := Claim7.holds Tryz.pinned (.plain (OpenSpec.ofChange fsFullSpec)) fsFullCard

/-- THE SECOND FORM's CARD OF 'bollardlaw16.ProducersNothing'. -/
def producersNothingUptoCard : Claim7 := { stood := { row := producersNothingUptoRow, standIns := [], harness := (true, "51691de6147585cf3f1f0edcf3a42c52a5520aa892823c741b2141c2e8a3ff70"), looks := true }, kinds := [], alts := [], laidByText := true, laidKinds := [.data, .pinned], laidTests := true, laidLooks := .later }
def ProducersNothingUptoCardSaid : Prop := Claim7.holds Tryz.pinned (.plain (OpenSpec.upto producersNothingSpec)) producersNothingUptoCard

/-- THE SECOND FORM's CARD OF 'bollardlaw16.ProducersPlay'. -/
def producersPlayUptoCard : Claim7 := { stood := { row := producersPlayUptoRow, standIns := [], harness := (true, "51691de6147585cf3f1f0edcf3a42c52a5520aa892823c741b2141c2e8a3ff70"), looks := true }, kinds := [], alts := [], laidByText := true, laidKinds := [.data, .pinned], laidTests := true, laidLooks := .later }
def ProducersPlayUptoCardSaid : Prop := Claim7.holds Tryz.pinned (.plain (OpenSpec.upto producersPlaySpec)) producersPlayUptoCard

/-- THE SECOND FORM's CARD OF 'bollardlaw11.FilesKinds'. -/
def filesKindsUptoCard : Claim7 := { stood := { row := filesKindsUptoRow, standIns := [], harness := (true, "51691de6147585cf3f1f0edcf3a42c52a5520aa892823c741b2141c2e8a3ff70"), looks := true }, kinds := [], alts := [], laidByText := true, laidKinds := [.data, .pinned], laidTests := true, laidLooks := .later }
def FilesKindsUptoCardSaid : Prop := Claim7.holds Tryz.pinned (.plain (OpenSpec.upto filesKindsSpec)) filesKindsUptoCard

/-- THE SECOND FORM's CARD OF 'bollardlaw14.SegmentReads'. -/
def segmentReadsUptoCard : Claim7 := { stood := { row := segmentReadsUptoRow, standIns := [], harness := (true, "51691de6147585cf3f1f0edcf3a42c52a5520aa892823c741b2141c2e8a3ff70"), looks := true }, kinds := [], alts := [], laidByText := true, laidKinds := [.data, .pinned], laidTests := true, laidLooks := .later }
def SegmentReadsUptoCardSaid : Prop := Claim7.holds Tryz.pinned (.plain (OpenSpec.upto segmentReadsSpec)) segmentReadsUptoCard

/-- THE SECOND FORM's CARD OF 'bollardlaw14.SegmentGaps'. -/
def segmentGapsUptoCard : Claim7 := { stood := { row := segmentGapsUptoRow, standIns := [], harness := (true, "51691de6147585cf3f1f0edcf3a42c52a5520aa892823c741b2141c2e8a3ff70"), looks := true }, kinds := [], alts := [], laidByText := true, laidKinds := [.data, .pinned], laidTests := true, laidLooks := .later }
def SegmentGapsUptoCardSaid : Prop := Claim7.holds Tryz.pinned (.plain (OpenSpec.upto segmentGapsSpec)) segmentGapsUptoCard

/-- THE SECOND FORM's CARD OF 'bollardlaw10.FsDeep'. -/
def fsDeepUptoCard : Claim7 := { stood := { row := fsDeepUptoRow, standIns := [], harness := (true, "51691de6147585cf3f1f0edcf3a42c52a5520aa892823c741b2141c2e8a3ff70"), looks := true }, kinds := [], alts := [], laidByText := true, laidKinds := [.data, .pinned], laidTests := true, laidLooks := .later }
def FsDeepUptoCardSaid : Prop := Claim7.holds Tryz.pinned (.plain (OpenSpec.upto fsDeepSpec)) fsDeepUptoCard

/-- THE SECOND FORM's CARD OF 'bollardlaw10.FsRename'. -/
def fsRenameUptoCard : Claim7 := { stood := { row := fsRenameUptoRow, standIns := [], harness := (true, "51691de6147585cf3f1f0edcf3a42c52a5520aa892823c741b2141c2e8a3ff70"), looks := true }, kinds := [], alts := [], laidByText := true, laidKinds := [.data, .pinned], laidTests := true, laidLooks := .later }
def FsRenameUptoCardSaid : Prop := Claim7.holds Tryz.pinned (.plain (OpenSpec.upto fsRenameSpec)) fsRenameUptoCard

/-- THE SECOND FORM's CARD OF 'bollardlaw10.FsMany'. -/
def fsManyUptoCard : Claim7 := { stood := { row := fsManyUptoRow, standIns := [], harness := (true, "51691de6147585cf3f1f0edcf3a42c52a5520aa892823c741b2141c2e8a3ff70"), looks := true }, kinds := [], alts := [], laidByText := true, laidKinds := [.data, .pinned], laidTests := true, laidLooks := .later }
def FsManyUptoCardSaid : Prop := Claim7.holds Tryz.pinned (.plain (OpenSpec.upto fsManySpec)) fsManyUptoCard

/-- THE SECOND FORM's CARD OF 'bollardlaw10.FsLists'. -/
def fsListsUptoCard : Claim7 := { stood := { row := fsListsUptoRow, standIns := [], harness := (true, "51691de6147585cf3f1f0edcf3a42c52a5520aa892823c741b2141c2e8a3ff70"), looks := true }, kinds := [], alts := [], laidByText := true, laidKinds := [.data, .pinned], laidTests := true, laidLooks := .later }
def FsListsUptoCardSaid : Prop := Claim7.holds Tryz.pinned (.plain (OpenSpec.upto fsListsSpec)) fsListsUptoCard

/-- THE SECOND FORM's CARD OF 'bollardlaw11.FilesGone'. -/
def filesGoneUptoCard : Claim7 := { stood := { row := filesGoneUptoRow, standIns := [], harness := (true, "51691de6147585cf3f1f0edcf3a42c52a5520aa892823c741b2141c2e8a3ff70"), looks := true }, kinds := [], alts := [], laidByText := true, laidKinds := [.data, .pinned], laidTests := true, laidLooks := .later }
def FilesGoneUptoCardSaid : Prop := Claim7.holds Tryz.pinned (.plain (OpenSpec.upto filesGoneSpec)) filesGoneUptoCard

/-- THE SECOND FORM's CARD OF 'bollardlaw10.FsFull'. -/
def fsFullUptoCard : Claim7 := { stood := { row := fsFullUptoRow, standIns := [], harness := (true, "51691de6147585cf3f1f0edcf3a42c52a5520aa892823c741b2141c2e8a3ff70"), looks := true }, kinds := [], alts := [], laidByText := true, laidKinds := [.data, .pinned], laidTests := true, laidLooks := .later }
def FsFullUptoCardSaid : Prop := Claim7.holds Tryz.pinned (.plain (OpenSpec.upto fsFullSpec)) fsFullUptoCard
end Rows
end Go.Proofs.YtdmjkjeoamiedaaGreatDoor

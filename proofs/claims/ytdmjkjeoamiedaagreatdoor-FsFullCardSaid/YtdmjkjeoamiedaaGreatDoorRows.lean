/-
  NARROWER THAN 'FOR EVERY INPUT', by the rows' own cells (each row's printed sentence says how): ProducersNothing: laid · ProducersPlay: laid · FilesKinds: laid · SegmentReads: laid · SegmentGaps: laid · FsDeep: laid · FsRename: laid · FsMany: laid · FsLists: laid · FilesGone: laid · FsFull: laid.
  DERIVED. THE GIVEN ROWS OF THIS SEAT. 11 by the template 'for every input the law returns true; each argument reads behind the call as it read before'; 0 by the template 'total and deterministic' (their statements: YtdmjkjeoamiedaaGreatDoorTotals.lean).
  GIVEN WITH THE SEED: the statements are not yours to turn. If you find one false, say at which input.
  Laid BY PROGRAM, IN A SANDBOX (cutbox-rows.mjs): the forced cells as the released guide's own fill.sh prints them over the translation 948babfa6ced5cbd… (all of the seat's roots in one cut). By AI agents, Wed Nov 11 2026. No macro, syntax, notation, axiom, sorry.
-/
import Derived.Test.YtdmjkjeoamiedaaGreatDoorChecked
import GoSem.PinnedTables
import GoSem.Claim
import GoSem.ClaimJoined
import GoSem.ClaimMapViews
import Derived.JoinedTies
import Derived.KernelRfl
namespace Go.Proofs.YtdmjkjeoamiedaaGreatDoor
/- THE CELL 'sum', in the pinned program and in every row, IS THE sha256 OF THE DUMP (.gsa) THAT YtdmjkjeoamiedaaGreatDoorProg.lean LOADS. Nothing in Lean hashes anything: it is a label: what it is worth is what the hold of that sum in a sandbox is worth. -/
noncomputable def Tryz.pinned : Pinned := { name := "ytdmjkjeoamiedaagreatdoor", sum := "948babfa6ced5cbdcb72e3382c129527cbd6e54ee3cef66a2a5d595209f9a59d", checked := Tryz.checked }
namespace Rows
def none {H : Type} : Left H := { results := [], args := [] }

/- WHAT THE LISTED PACKAGE-LEVEL VARIABLES READ AS WHEN THE CALL BEGINS. Each datum BY PROGRAM (the guide's laid-datum.mjs) off the statement by which the dump's own 'gosem.cut.vars' lays the variable. In a bare row this is a premise. The card (YtdmjkjeoamiedaaGreatDoorCards.lean) ties it to the program's text. -/
def laid_unicode_utf8_acceptRanges {H : Type} : DataW H := .agg [.agg [.lit (.int .u8 128), .lit (.int .u8 191)], .agg [.lit (.int .u8 160), .lit (.int .u8 191)], .agg [.lit (.int .u8 128), .lit (.int .u8 159)], .agg [.lit (.int .u8 144), .lit (.int .u8 191)], .agg [.lit (.int .u8 128), .lit (.int .u8 143)], .agg [.lit (.int .u8 0), .lit (.int .u8 0)], .agg [.lit (.int .u8 0), .lit (.int .u8 0)], .agg [.lit (.int .u8 0), .lit (.int .u8 0)], .agg [.lit (.int .u8 0), .lit (.int .u8 0)], .agg [.lit (.int .u8 0), .lit (.int .u8 0)], .agg [.lit (.int .u8 0), .lit (.int .u8 0)], .agg [.lit (.int .u8 0), .lit (.int .u8 0)], .agg [.lit (.int .u8 0), .lit (.int .u8 0)], .agg [.lit (.int .u8 0), .lit (.int .u8 0)], .agg [.lit (.int .u8 0), .lit (.int .u8 0)], .agg [.lit (.int .u8 0), .lit (.int .u8 0)]]
/-- One of Go's own tables, pinned by name: the form's constant. -/
def laid_unicode_utf8_first : DataW Unit := Go.Pinned.utf8First

/-- 'bollardlaw16.ProducersNothing': WHATEVER THE INPUT: true; the input reads as it did. -/
def producersNothingSpec : ChangeSpec := { name := "producersNothing", fn := fun _ => fun
  | [d1, d2, d3] => { results := [.lit (.bool true)], args := [d1, d2, d3] }
  | _ => none }
def producersNothingRow : OpenClaim := { program := "ytdmjkjeoamiedaagreatdoor", sum := "948babfa6ced5cbdcb72e3382c129527cbd6e54ee3cef66a2a5d595209f9a59d", func := "bollard/bollardlaw16.ProducersNothing", spec := "producersNothing", inPlace := ["internal/bytealg.CountString", "internal/bytealg.IndexByteString", "internal/bytealg.IndexString", "maps.clone"], unfollowed := true, recurses := true, named := ["unicode/utf8.first", "unicode/utf8.acceptRanges", "internal/bytealg.MaxLen"], plainKeys := false, apart := false, laid := [("unicode/utf8.acceptRanges", laid_unicode_utf8_acceptRanges), ("unicode/utf8.first", laid_unicode_utf8_first)] }
def ProducersNothingSaid : Prop := producersNothingRow.holds Tryz.pinned (OpenSpec.ofChange producersNothingSpec)

/-- ITS FALSE NEIGHBOUR: 'it returns false'. Refute it at one input. -/
def producersNothingWrong : ChangeSpec := { name := "producersNothing", fn := fun _ => fun
  | [d1, d2, d3] => { results := [.lit (.bool false)], args := [d1, d2, d3] }
  | _ => none }
def ProducersNothingWrongFalsely : Prop := producersNothingRow.holds Tryz.pinned (OpenSpec.ofChange producersNothingWrong)

/-- 'bollardlaw16.ProducersPlay': WHATEVER THE INPUT: true; the input reads as it did. -/
def producersPlaySpec : ChangeSpec := { name := "producersPlay", fn := fun _ => fun
  | [d] => { results := [.lit (.bool true)], args := [d] }
  | _ => none }
def producersPlayRow : OpenClaim := { program := "ytdmjkjeoamiedaagreatdoor", sum := "948babfa6ced5cbdcb72e3382c129527cbd6e54ee3cef66a2a5d595209f9a59d", func := "bollard/bollardlaw16.ProducersPlay", spec := "producersPlay", inPlace := ["internal/bytealg.CountString", "internal/bytealg.IndexByteString", "internal/bytealg.IndexString", "maps.clone"], unfollowed := true, recurses := true, named := ["unicode/utf8.first", "unicode/utf8.acceptRanges", "internal/bytealg.MaxLen"], plainKeys := false, apart := false, laid := [("unicode/utf8.acceptRanges", laid_unicode_utf8_acceptRanges), ("unicode/utf8.first", laid_unicode_utf8_first)] }
def ProducersPlaySaid : Prop := producersPlayRow.holds Tryz.pinned (OpenSpec.ofChange producersPlaySpec)

/-- ITS FALSE NEIGHBOUR: 'it returns false'. Refute it at one input. -/
def producersPlayWrong : ChangeSpec := { name := "producersPlay", fn := fun _ => fun
  | [d] => { results := [.lit (.bool false)], args := [d] }
  | _ => none }
def ProducersPlayWrongFalsely : Prop := producersPlayRow.holds Tryz.pinned (OpenSpec.ofChange producersPlayWrong)

/-- 'bollardlaw11.FilesKinds': WHATEVER THE INPUT: true; the input reads as it did. -/
def filesKindsSpec : ChangeSpec := { name := "filesKinds", fn := fun _ => fun
  | [d1, d2] => { results := [.lit (.bool true)], args := [d1, d2] }
  | _ => none }
def filesKindsRow : OpenClaim := { program := "ytdmjkjeoamiedaagreatdoor", sum := "948babfa6ced5cbdcb72e3382c129527cbd6e54ee3cef66a2a5d595209f9a59d", func := "bollard/bollardlaw11.FilesKinds", spec := "filesKinds", inPlace := ["internal/bytealg.CountString", "internal/bytealg.IndexByteString", "internal/bytealg.IndexString", "maps.clone"], unfollowed := true, recurses := true, named := ["unicode/utf8.first", "unicode/utf8.acceptRanges", "internal/bytealg.MaxLen"], plainKeys := false, apart := false, laid := [("unicode/utf8.acceptRanges", laid_unicode_utf8_acceptRanges), ("unicode/utf8.first", laid_unicode_utf8_first)] }
def FilesKindsSaid : Prop := filesKindsRow.holds Tryz.pinned (OpenSpec.ofChange filesKindsSpec)

/-- ITS FALSE NEIGHBOUR: 'it returns false'. Refute it at one input. -/
def filesKindsWrong : ChangeSpec := { name := "filesKinds", fn := fun _ => fun
  | [d1, d2] => { results := [.lit (.bool false)], args := [d1, d2] }
  | _ => none }
def FilesKindsWrongFalsely : Prop := filesKindsRow.holds Tryz.pinned (OpenSpec.ofChange filesKindsWrong)

/-- 'bollardlaw14.SegmentReads': WHATEVER THE INPUT: true; the input reads as it did. -/
def segmentReadsSpec : ChangeSpec := { name := "segmentReads", fn := fun _ => fun
  | [d1, d2, d3] => { results := [.lit (.bool true)], args := [d1, d2, d3] }
  | _ => none }
def segmentReadsRow : OpenClaim := { program := "ytdmjkjeoamiedaagreatdoor", sum := "948babfa6ced5cbdcb72e3382c129527cbd6e54ee3cef66a2a5d595209f9a59d", func := "bollard/bollardlaw14.SegmentReads", spec := "segmentReads", inPlace := ["internal/bytealg.CountString", "internal/bytealg.IndexByteString", "internal/bytealg.IndexString", "maps.clone"], unfollowed := true, recurses := true, named := ["unicode/utf8.first", "unicode/utf8.acceptRanges", "internal/bytealg.MaxLen"], plainKeys := false, apart := false, laid := [("unicode/utf8.acceptRanges", laid_unicode_utf8_acceptRanges), ("unicode/utf8.first", laid_unicode_utf8_first)] }
def SegmentReadsSaid : Prop := segmentReadsRow.holds Tryz.pinned (OpenSpec.ofChange segmentReadsSpec)

/-- ITS FALSE NEIGHBOUR: 'it returns false'. Refute it at one input. -/
def segmentReadsWrong : ChangeSpec := { name := "segmentReads", fn := fun _ => fun
  | [d1, d2, d3] => { results := [.lit (.bool false)], args := [d1, d2, d3] }
  | _ => none }
def SegmentReadsWrongFalsely : Prop := segmentReadsRow.holds Tryz.pinned (OpenSpec.ofChange segmentReadsWrong)

/-- 'bollardlaw14.SegmentGaps': WHATEVER THE INPUT: true; the input reads as it did. -/
def segmentGapsSpec : ChangeSpec := { name := "segmentGaps", fn := fun _ => fun
  | [d] => { results := [.lit (.bool true)], args := [d] }
  | _ => none }
def segmentGapsRow : OpenClaim := { program := "ytdmjkjeoamiedaagreatdoor", sum := "948babfa6ced5cbdcb72e3382c129527cbd6e54ee3cef66a2a5d595209f9a59d", func := "bollard/bollardlaw14.SegmentGaps", spec := "segmentGaps", inPlace := ["internal/bytealg.CountString", "internal/bytealg.IndexByteString", "internal/bytealg.IndexString", "maps.clone"], unfollowed := true, recurses := true, named := ["unicode/utf8.first", "unicode/utf8.acceptRanges", "internal/bytealg.MaxLen"], plainKeys := false, apart := false, laid := [("unicode/utf8.acceptRanges", laid_unicode_utf8_acceptRanges), ("unicode/utf8.first", laid_unicode_utf8_first)] }
def SegmentGapsSaid : Prop := segmentGapsRow.holds Tryz.pinned (OpenSpec.ofChange segmentGapsSpec)

/-- ITS FALSE NEIGHBOUR: 'it returns false'. Refute it at one input. -/
def segmentGapsWrong : ChangeSpec := { name := "segmentGaps", fn := fun _ => fun
  | [d] => { results := [.lit (.bool false)], args := [d] }
  | _ => none }
def SegmentGapsWrongFalsely : Prop := segmentGapsRow.holds Tryz.pinned (OpenSpec.ofChange segmentGapsWrong)

/-- 'bollardlaw10.FsDeep': WHATEVER THE INPUT: true; the input reads as it did. -/
def fsDeepSpec : ChangeSpec := { name := "fsDeep", fn := fun _ => fun
  | [d] => { results := [.lit (.bool true)], args := [d] }
  | _ => none }
def fsDeepRow : OpenClaim := { program := "ytdmjkjeoamiedaagreatdoor", sum := "948babfa6ced5cbdcb72e3382c129527cbd6e54ee3cef66a2a5d595209f9a59d", func := "bollard/bollardlaw10.FsDeep", spec := "fsDeep", inPlace := ["internal/bytealg.CountString", "internal/bytealg.IndexByteString", "internal/bytealg.IndexString", "maps.clone"], unfollowed := true, recurses := true, named := ["unicode/utf8.first", "unicode/utf8.acceptRanges", "internal/bytealg.MaxLen"], plainKeys := false, apart := false, laid := [("unicode/utf8.acceptRanges", laid_unicode_utf8_acceptRanges), ("unicode/utf8.first", laid_unicode_utf8_first)] }
def FsDeepSaid : Prop := fsDeepRow.holds Tryz.pinned (OpenSpec.ofChange fsDeepSpec)

/-- ITS FALSE NEIGHBOUR: 'it returns false'. Refute it at one input. -/
def fsDeepWrong : ChangeSpec := { name := "fsDeep", fn := fun _ => fun
  | [d] => { results := [.lit (.bool false)], args := [d] }
  | _ => none }
def FsDeepWrongFalsely : Prop := fsDeepRow.holds Tryz.pinned (OpenSpec.ofChange fsDeepWrong)

/-- 'bollardlaw10.FsRename': WHATEVER THE INPUT: true; the input reads as it did. -/
def fsRenameSpec : ChangeSpec := { name := "fsRename", fn := fun _ => fun
  | [d1, d2, d3] => { results := [.lit (.bool true)], args := [d1, d2, d3] }
  | _ => none }
def fsRenameRow : OpenClaim := { program := "ytdmjkjeoamiedaagreatdoor", sum := "948babfa6ced5cbdcb72e3382c129527cbd6e54ee3cef66a2a5d595209f9a59d", func := "bollard/bollardlaw10.FsRename", spec := "fsRename", inPlace := ["internal/bytealg.CountString", "internal/bytealg.IndexByteString", "internal/bytealg.IndexString", "maps.clone"], unfollowed := true, recurses := true, named := ["unicode/utf8.first", "unicode/utf8.acceptRanges", "internal/bytealg.MaxLen"], plainKeys := false, apart := false, laid := [("unicode/utf8.acceptRanges", laid_unicode_utf8_acceptRanges), ("unicode/utf8.first", laid_unicode_utf8_first)] }
def FsRenameSaid : Prop := fsRenameRow.holds Tryz.pinned (OpenSpec.ofChange fsRenameSpec)

/-- ITS FALSE NEIGHBOUR: 'it returns false'. Refute it at one input. -/
def fsRenameWrong : ChangeSpec := { name := "fsRename", fn := fun _ => fun
  | [d1, d2, d3] => { results := [.lit (.bool false)], args := [d1, d2, d3] }
  | _ => none }
def FsRenameWrongFalsely : Prop := fsRenameRow.holds Tryz.pinned (OpenSpec.ofChange fsRenameWrong)

/-- 'bollardlaw10.FsMany': WHATEVER THE INPUT: true; the input reads as it did. -/
def fsManySpec : ChangeSpec := { name := "fsMany", fn := fun _ => fun
  | [d1, d2] => { results := [.lit (.bool true)], args := [d1, d2] }
  | _ => none }
def fsManyRow : OpenClaim := { program := "ytdmjkjeoamiedaagreatdoor", sum := "948babfa6ced5cbdcb72e3382c129527cbd6e54ee3cef66a2a5d595209f9a59d", func := "bollard/bollardlaw10.FsMany", spec := "fsMany", inPlace := ["internal/bytealg.CountString", "internal/bytealg.IndexByteString", "internal/bytealg.IndexString", "maps.clone"], unfollowed := true, recurses := true, named := ["unicode/utf8.first", "unicode/utf8.acceptRanges", "internal/bytealg.MaxLen"], plainKeys := false, apart := false, laid := [("unicode/utf8.acceptRanges", laid_unicode_utf8_acceptRanges), ("unicode/utf8.first", laid_unicode_utf8_first)] }
def FsManySaid : Prop := fsManyRow.holds Tryz.pinned (OpenSpec.ofChange fsManySpec)

/-- ITS FALSE NEIGHBOUR: 'it returns false'. Refute it at one input. -/
def fsManyWrong : ChangeSpec := { name := "fsMany", fn := fun _ => fun
  | [d1, d2] => { results := [.lit (.bool false)], args := [d1, d2] }
  | _ => none }
def FsManyWrongFalsely : Prop := fsManyRow.holds Tryz.pinned (OpenSpec.ofChange fsManyWrong)

/-- 'bollardlaw10.FsLists': WHATEVER THE INPUT: true; the input reads as it did. -/
def fsListsSpec : ChangeSpec := { name := "fsLists", fn := fun _ => fun
  | [d1, d2, d3] => { results := [.lit (.bool true)], args := [d1, d2, d3] }
  | _ => none }
def fsListsRow : OpenClaim := { program := "ytdmjkjeoamiedaagreatdoor", sum := "948babfa6ced5cbdcb72e3382c129527cbd6e54ee3cef66a2a5d595209f9a59d", func := "bollard/bollardlaw10.FsLists", spec := "fsLists", inPlace := ["internal/bytealg.CountString", "internal/bytealg.IndexByteString", "internal/bytealg.IndexString", "maps.clone"], unfollowed := true, recurses := true, named := ["unicode/utf8.first", "unicode/utf8.acceptRanges", "internal/bytealg.MaxLen"], plainKeys := false, apart := false, laid := [("unicode/utf8.acceptRanges", laid_unicode_utf8_acceptRanges), ("unicode/utf8.first", laid_unicode_utf8_first)] }
def FsListsSaid : Prop := fsListsRow.holds Tryz.pinned (OpenSpec.ofChange fsListsSpec)

/-- ITS FALSE NEIGHBOUR: 'it returns false'. Refute it at one input. -/
def fsListsWrong : ChangeSpec := { name := "fsLists", fn := fun _ => fun
  | [d1, d2, d3] => { results := [.lit (.bool false)], args := [d1, d2, d3] }
  | _ => none }
def FsListsWrongFalsely : Prop := fsListsRow.holds Tryz.pinned (OpenSpec.ofChange fsListsWrong)

/-- 'bollardlaw11.FilesGone': WHATEVER THE INPUT: true; the input reads as it did. -/
def filesGoneSpec : ChangeSpec := { name := "filesGone", fn := fun _ => fun
  | [d1, d2] => { results := [.lit (.bool true)], args := [d1, d2] }
  | _ => none }
def filesGoneRow : OpenClaim := { program := "ytdmjkjeoamiedaagreatdoor", sum := "948babfa6ced5cbdcb72e3382c129527cbd6e54ee3cef66a2a5d595209f9a59d", func := "bollard/bollardlaw11.FilesGone", spec := "filesGone", inPlace := ["internal/bytealg.CountString", "internal/bytealg.IndexByteString", "internal/bytealg.IndexString", "maps.clone"], unfollowed := true, recurses := true, named := ["unicode/utf8.first", "unicode/utf8.acceptRanges", "internal/bytealg.MaxLen"], plainKeys := false, apart := false, laid := [("unicode/utf8.acceptRanges", laid_unicode_utf8_acceptRanges), ("unicode/utf8.first", laid_unicode_utf8_first)] }
def FilesGoneSaid : Prop := filesGoneRow.holds Tryz.pinned (OpenSpec.ofChange filesGoneSpec)

/-- ITS FALSE NEIGHBOUR: 'it returns false'. Refute it at one input. -/
def filesGoneWrong : ChangeSpec := { name := "filesGone", fn := fun _ => fun
  | [d1, d2] => { results := [.lit (.bool false)], args := [d1, d2] }
  | _ => none }
def FilesGoneWrongFalsely : Prop := filesGoneRow.holds Tryz.pinned (OpenSpec.ofChange filesGoneWrong)

/-- 'bollardlaw10.FsFull': WHATEVER THE INPUT: true; the input reads as it did. -/
def fsFullSpec : ChangeSpec := { name := "fsFull", fn := fun _ => fun
  | [d1, d2] => { results := [.lit (.bool true)], args := [d1, d2] }
  | _ => none }
def fsFullRow : OpenClaim := { program := "ytdmjkjeoamiedaagreatdoor", sum := "948babfa6ced5cbdcb72e3382c129527cbd6e54ee3cef66a2a5d595209f9a59d", func := "bollard/bollardlaw10.FsFull", spec := "fsFull", inPlace := ["internal/bytealg.CountString", "internal/bytealg.IndexByteString", "internal/bytealg.IndexString", "maps.clone"], unfollowed := true, recurses := true, named := ["unicode/utf8.first", "unicode/utf8.acceptRanges", "internal/bytealg.MaxLen"], plainKeys := false, apart := false, laid := [("unicode/utf8.acceptRanges", laid_unicode_utf8_acceptRanges), ("unicode/utf8.first", laid_unicode_utf8_first)] }
def FsFullSaid : Prop := fsFullRow.holds Tryz.pinned (OpenSpec.ofChange fsFullSpec)

/-- ITS FALSE NEIGHBOUR: 'it returns false'. Refute it at one input. -/
def fsFullWrong : ChangeSpec := { name := "fsFull", fn := fun _ => fun
  | [d1, d2] => { results := [.lit (.bool false)], args := [d1, d2] }
  | _ => none }
def FsFullWrongFalsely : Prop := fsFullRow.holds Tryz.pinned (OpenSpec.ofChange fsFullWrong)

/- THE SECOND FORM. 'bulk': how many values and letters a reading holds, each counted each time it is reached (what is shared counts as often as it is met; a slice's spare places count too). A statement '..UptoSaid' is the law's where the arguments, and the package variables that the reading takes, are together of bulk at most 1048576: NARROWER than '..Said'. Prove '..Said' where nothing that the law and all that it calls make is longer than what came in: it says more and counts as full. Else prove '..UptoSaid'. A law counts once. -/
mutual
def uptoBulk {H : Type} : DataW H → Nat
  | .lit (.string bytes) => bytes.length + 1
  | .lit _ => 1
  | .nil => 1
  | .ptr d => uptoBulk d + 1
  | .slice elems spare => uptoBulkAll elems + uptoBulkAll spare + 1
  | .agg parts => uptoBulkAll parts + 1
  | .iface _ d => uptoBulk d + 1
  | .map entries => uptoBulkEntries entries + 1
  | .held _ => 1
def uptoBulkAll {H : Type} : List (DataW H) → Nat
  | [] => 0
  | d :: r => uptoBulk d + uptoBulkAll r
def uptoBulkEntries {H : Type} : List (Lit × DataW H) → Nat
  | [] => 0
  | x :: r => uptoBulkEntry x + uptoBulkEntries r
def uptoBulkEntry {H : Type} : Lit × DataW H → Nat
  | (.string bytes, d) => bytes.length + uptoBulk d + 1
  | (_, d) => uptoBulk d + 1
 end
def uptoSmall : (H : Type) → List (DataW H) → Bool := fun _ ds => decide (uptoBulkAll ds ≤ 1048576)
def OpenSpec.upto (s : _root_.Go.ChangeSpec) : _root_.Go.OpenSpec := { _root_.Go.OpenSpec.ofChange s with cond := some uptoSmall }

/-- 'bollardlaw16.ProducersNothing', WHERE WHAT IT READS IS OF BULK AT MOST 1048576: true; the input reads as it did. -/
def producersNothingUptoRow : OpenClaim := { program := "ytdmjkjeoamiedaagreatdoor", sum := "948babfa6ced5cbdcb72e3382c129527cbd6e54ee3cef66a2a5d595209f9a59d", func := "bollard/bollardlaw16.ProducersNothing", spec := "producersNothing", inPlace := ["internal/bytealg.CountString", "internal/bytealg.IndexByteString", "internal/bytealg.IndexString", "maps.clone"], unfollowed := true, recurses := true, named := ["unicode/utf8.first", "unicode/utf8.acceptRanges", "internal/bytealg.MaxLen"], plainKeys := false, apart := false, laid := [("unicode/utf8.acceptRanges", laid_unicode_utf8_acceptRanges), ("unicode/utf8.first", laid_unicode_utf8_first)], narrowed := true }
def ProducersNothingUptoSaid : Prop := producersNothingUptoRow.holds Tryz.pinned (OpenSpec.upto producersNothingSpec)

/-- 'bollardlaw16.ProducersPlay', WHERE WHAT IT READS IS OF BULK AT MOST 1048576: true; the input reads as it did. -/
def producersPlayUptoRow : OpenClaim := { program := "ytdmjkjeoamiedaagreatdoor", sum := "948babfa6ced5cbdcb72e3382c129527cbd6e54ee3cef66a2a5d595209f9a59d", func := "bollard/bollardlaw16.ProducersPlay", spec := "producersPlay", inPlace := ["internal/bytealg.CountString", "internal/bytealg.IndexByteString", "internal/bytealg.IndexString", "maps.clone"], unfollowed := true, recurses := true, named := ["unicode/utf8.first", "unicode/utf8.acceptRanges", "internal/bytealg.MaxLen"], plainKeys := false, apart := false, laid := [("unicode/utf8.acceptRanges", laid_unicode_utf8_acceptRanges), ("unicode/utf8.first", laid_unicode_utf8_first)], narrowed := true }
def ProducersPlayUptoSaid : Prop := producersPlayUptoRow.holds Tryz.pinned (OpenSpec.upto producersPlaySpec)

/-- 'bollardlaw11.FilesKinds', WHERE WHAT IT READS IS OF BULK AT MOST 1048576: true; the input reads as it did. -/
def filesKindsUptoRow : OpenClaim := { program := "ytdmjkjeoamiedaagreatdoor", sum := "948babfa6ced5cbdcb72e3382c129527cbd6e54ee3cef66a2a5d595209f9a59d", func := "bollard/bollardlaw11.FilesKinds", spec := "filesKinds", inPlace := ["internal/bytealg.CountString", "internal/bytealg.IndexByteString", "internal/bytealg.IndexString", "maps.clone"], unfollowed := true, recurses := true, named := ["unicode/utf8.first", "unicode/utf8.acceptRanges", "internal/bytealg.MaxLen"], plainKeys := false, apart := false, laid := [("unicode/utf8.acceptRanges", laid_unicode_utf8_acceptRanges), ("unicode/utf8.first", laid_unicode_utf8_first)], narrowed := true }
def FilesKindsUptoSaid : Prop := filesKindsUptoRow.holds Tryz.pinned (OpenSpec.upto filesKindsSpec)

/-- 'bollardlaw14.SegmentReads', WHERE WHAT IT READS IS OF BULK AT MOST 1048576: true; the input reads as it did. -/
def segmentReadsUptoRow : OpenClaim := { program := "ytdmjkjeoamiedaagreatdoor", sum := "948babfa6ced5cbdcb72e3382c129527cbd6e54ee3cef66a2a5d595209f9a59d", func := "bollard/bollardlaw14.SegmentReads", spec := "segmentReads", inPlace := ["internal/bytealg.CountString", "internal/bytealg.IndexByteString", "internal/bytealg.IndexString", "maps.clone"], unfollowed := true, recurses := true, named := ["unicode/utf8.first", "unicode/utf8.acceptRanges", "internal/bytealg.MaxLen"], plainKeys := false, apart := false, laid := [("unicode/utf8.acceptRanges", laid_unicode_utf8_acceptRanges), ("unicode/utf8.first", laid_unicode_utf8_first)], narrowed := true }
def SegmentReadsUptoSaid : Prop := segmentReadsUptoRow.holds Tryz.pinned (OpenSpec.upto segmentReadsSpec)

/-- 'bollardlaw14.SegmentGaps', WHERE WHAT IT READS IS OF BULK AT MOST 1048576: true; the input reads as it did. -/
def segmentGapsUptoRow : OpenClaim := { program := "ytdmjkjeoamiedaagreatdoor", sum := "948babfa6ced5cbdcb72e3382c129527cbd6e54ee3cef66a2a5d595209f9a59d", func := "bollard/bollardlaw14.SegmentGaps", spec := "segmentGaps", inPlace := ["internal/bytealg.CountString", "internal/bytealg.IndexByteString", "internal/bytealg.IndexString", "maps.clone"], unfollowed := true, recurses := true, named := ["unicode/utf8.first", "unicode/utf8.acceptRanges", "internal/bytealg.MaxLen"], plainKeys := false, apart := false, laid := [("unicode/utf8.acceptRanges", laid_unicode_utf8_acceptRanges), ("unicode/utf8.first", laid_unicode_utf8_first)], narrowed := true }
def SegmentGapsUptoSaid : Prop := segmentGapsUptoRow.holds Tryz.pinned (OpenSpec.upto segmentGapsSpec)

/-- 'bollardlaw10.FsDeep', WHERE WHAT IT READS IS OF BULK AT MOST 1048576: true; the input reads as it did. -/
def fsDeepUptoRow : OpenClaim := { program := "ytdmjkjeoamiedaagreatdoor", sum := "948babfa6ced5cbdcb72e3382c129527cbd6e54ee3cef66a2a5d595209f9a59d", func := "bollard/bollardlaw10.FsDeep", spec := "fsDeep", inPlace := ["internal/bytealg.CountString", "internal/bytealg.IndexByteString", "internal/bytealg.IndexString", "maps.clone"], unfollowed := true, recurses := true, named := ["unicode/utf8.first", "unicode/utf8.acceptRanges", "internal/bytealg.MaxLen"], plainKeys := false, apart := false, laid := [("unicode/utf8.acceptRanges", laid_unicode_utf8_acceptRanges), ("unicode/utf8.first", laid_unicode_utf8_first)], narrowed := true }
def FsDeepUptoSaid : Prop := fsDeepUptoRow.holds Tryz.pinned (OpenSpec.upto fsDeepSpec)

/-- 'bollardlaw10.FsRename', WHERE WHAT IT READS IS OF BULK AT MOST 1048576: true; the input reads as it did. -/
def fsRenameUptoRow : OpenClaim := { program := "ytdmjkjeoamiedaagreatdoor", sum := "948babfa6ced5cbdcb72e3382c129527cbd6e54ee3cef66a2a5d595209f9a59d", func := "bollard/bollardlaw10.FsRename", spec := "fsRename", inPlace := ["internal/bytealg.CountString", "internal/bytealg.IndexByteString", "internal/bytealg.IndexString", "maps.clone"], unfollowed := true, recurses := true, named := ["unicode/utf8.first", "unicode/utf8.acceptRanges", "internal/bytealg.MaxLen"], plainKeys := false, apart := false, laid := [("unicode/utf8.acceptRanges", laid_unicode_utf8_acceptRanges), ("unicode/utf8.first", laid_unicode_utf8_first)], narrowed := true }
def FsRenameUptoSaid : Prop := fsRenameUptoRow.holds Tryz.pinned (OpenSpec.upto fsRenameSpec)

/-- 'bollardlaw10.FsMany', WHERE WHAT IT READS IS OF BULK AT MOST 1048576: true; the input reads as it did. -/
def fsManyUptoRow : OpenClaim := { program := "ytdmjkjeoamiedaagreatdoor", sum := "948babfa6ced5cbdcb72e3382c129527cbd6e54ee3cef66a2a5d595209f9a59d", func := "bollard/bollardlaw10.FsMany", spec := "fsMany", inPlace := ["internal/bytealg.CountString", "internal/bytealg.IndexByteString", "internal/bytealg.IndexString", "maps.clone"], unfollowed := true, recurses := true, named := ["unicode/utf8.first", "unicode/utf8.acceptRanges", "internal/bytealg.MaxLen"], plainKeys := false, apart := false, laid := [("unicode/utf8.acceptRanges", laid_unicode_utf8_acceptRanges), ("unicode/utf8.first", laid_unicode_utf8_first)], narrowed := true }
def FsManyUptoSaid : Prop := fsManyUptoRow.holds Tryz.pinned (OpenSpec.upto fsManySpec)

/-- 'bollardlaw10.FsLists', WHERE WHAT IT READS IS OF BULK AT MOST 1048576: true; the input reads as it did. -/
def fsListsUptoRow : OpenClaim := { program := "ytdmjkjeoamiedaagreatdoor", sum := "948babfa6ced5cbdcb72e3382c129527cbd6e54ee3cef66a2a5d595209f9a59d", func := "bollard/bollardlaw10.FsLists", spec := "fsLists", inPlace := ["internal/bytealg.CountString", "internal/bytealg.IndexByteString", "internal/bytealg.IndexString", "maps.clone"], unfollowed := true, recurses := true, named := ["unicode/utf8.first", "unicode/utf8.acceptRanges", "internal/bytealg.MaxLen"], plainKeys := false, apart := false, laid := [("unicode/utf8.acceptRanges", laid_unicode_utf8_acceptRanges), ("unicode/utf8.first", laid_unicode_utf8_first)], narrowed := true }
def FsListsUptoSaid : Prop := fsListsUptoRow.holds Tryz.pinned (OpenSpec.upto fsListsSpec)

/-- 'bollardlaw11.FilesGone', WHERE WHAT IT READS IS OF BULK AT MOST 1048576: true; the input reads as it did. -/
def filesGoneUptoRow : OpenClaim := { program := "ytdmjkjeoamiedaagreatdoor", sum := "948babfa6ced5cbdcb72e3382c129527cbd6e54ee3cef66a2a5d595209f9a59d", func := "bollard/bollardlaw11.FilesGone", spec := "filesGone", inPlace := ["internal/bytealg.CountString", "internal/bytealg.IndexByteString", "internal/bytealg.IndexString", "maps.clone"], unfollowed := true, recurses := true, named := ["unicode/utf8.first", "unicode/utf8.acceptRanges", "internal/bytealg.MaxLen"], plainKeys := false, apart := false, laid := [("unicode/utf8.acceptRanges", laid_unicode_utf8_acceptRanges), ("unicode/utf8.first", laid_unicode_utf8_first)], narrowed := true }
def FilesGoneUptoSaid : Prop := filesGoneUptoRow.holds Tryz.pinned (OpenSpec.upto filesGoneSpec)

/-- 'bollardlaw10.FsFull', WHERE WHAT IT READS IS OF BULK AT MOST 1048576: true; the input reads as it did. -/
def fsFullUptoRow : OpenClaim := { program := "ytdmjkjeoamiedaagreatdoor", sum := "948babfa6ced5cbdcb72e3382c129527cbd6e54ee3cef66a2a5d595209f9a59d", func := "bollard/bollardlaw10.FsFull", spec := "fsFull", inPlace := ["internal/bytealg.CountString", "internal/bytealg.IndexByteString", "internal/bytealg.IndexString", "maps.clone"], unfollowed := true, recurses := true, named := ["unicode/utf8.first", "unicode/utf8.acceptRanges", "internal/bytealg.MaxLen"], plainKeys := false, apart := false, laid := [("unicode/utf8.acceptRanges", laid_unicode_utf8_acceptRanges), ("unicode/utf8.first", laid_unicode_utf8_first)], narrowed := true }
def FsFullUptoSaid : Prop := fsFullUptoRow.holds Tryz.pinned (OpenSpec.upto fsFullSpec)

end Rows
end Go.Proofs.YtdmjkjeoamiedaaGreatDoor

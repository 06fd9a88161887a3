/-
  NARROWER THAN 'FOR EVERY INPUT', by the rows' own cells (each row's printed sentence says how): ProducersKept: laid · ProducersMany: laid · ProducersRows: laid · ProducersNothing: laid · ProducersPlay: laid · FilesMany: laid · FilesNothing: laid · FilesKinds: laid · FilesShare: laid · FilesPlaces: laid · FsMakes: laid · FilesGone: laid.
  DERIVED. THE GIVEN ROWS OF THIS SEAT. 12 by the template 'for every input the law returns true; each argument reads behind the call as it read before'; 0 by the template 'total and deterministic' (their statements: YtmmlbepfonndaaaGreatDoorTotals.lean).
  GIVEN WITH THE SEED: the statements are not yours to turn. If you find one false, say at which input.
  Laid BY PROGRAM, IN A SANDBOX (cutbox-rows.mjs): the forced cells as the released guide's own fill.sh prints them over the translation 12b12457fa7480c3… (all of the seat's roots in one cut). By AI agents, Wed Nov 11 2026. No macro, syntax, notation, axiom, sorry.
-/
import Derived.Test.YtmmlbepfonndaaaGreatDoorChecked
import GoSem.PinnedTables
import GoSem.Claim
import GoSem.ClaimJoined
import GoSem.ClaimMapViews
import Derived.JoinedTies
import Derived.KernelRfl
namespace Go.Proofs.YtmmlbepfonndaaaGreatDoor
/- THE CELL 'sum', in the pinned program and in every row, IS THE sha256 OF THE DUMP (.gsa) THAT YtmmlbepfonndaaaGreatDoorProg.lean LOADS. Nothing in Lean hashes anything: it is a label: what it is worth is what the hold of that sum in a sandbox is worth. -/
noncomputable def Tryz.pinned : Pinned := { name := "ytmmlbepfonndaaagreatdoor", sum := "12b12457fa7480c3f709dbcc868112e99dfa259b3630f49d82ef86b03f1847b6", checked := Tryz.checked }
namespace Rows
def none {H : Type} : Left H := { results := [], args := [] }

/- WHAT THE LISTED PACKAGE-LEVEL VARIABLES READ AS WHEN THE CALL BEGINS. Each datum BY PROGRAM (the guide's laid-datum.mjs) off the statement by which the dump's own 'gosem.cut.vars' lays the variable. In a bare row this is a premise. The card (YtmmlbepfonndaaaGreatDoorCards.lean) ties it to the program's text. -/
def laid_unicode_utf8_acceptRanges {H : Type} : DataW H := .agg [.agg [.lit (.int .u8 128), .lit (.int .u8 191)], .agg [.lit (.int .u8 160), .lit (.int .u8 191)], .agg [.lit (.int .u8 128), .lit (.int .u8 159)], .agg [.lit (.int .u8 144), .lit (.int .u8 191)], .agg [.lit (.int .u8 128), .lit (.int .u8 143)], .agg [.lit (.int .u8 0), .lit (.int .u8 0)], .agg [.lit (.int .u8 0), .lit (.int .u8 0)], .agg [.lit (.int .u8 0), .lit (.int .u8 0)], .agg [.lit (.int .u8 0), .lit (.int .u8 0)], .agg [.lit (.int .u8 0), .lit (.int .u8 0)], .agg [.lit (.int .u8 0), .lit (.int .u8 0)], .agg [.lit (.int .u8 0), .lit (.int .u8 0)], .agg [.lit (.int .u8 0), .lit (.int .u8 0)], .agg [.lit (.int .u8 0), .lit (.int .u8 0)], .agg [.lit (.int .u8 0), .lit (.int .u8 0)], .agg [.lit (.int .u8 0), .lit (.int .u8 0)]]
/-- One of Go's own tables, pinned by name: the form's constant. -/
def laid_unicode_utf8_first : DataW Unit := Go.Pinned.utf8First

/-- 'bollardlaw16.ProducersKept': WHATEVER THE INPUT: true; the input reads as it did. -/
def producersKeptSpec : ChangeSpec := { name := "producersKept", fn := fun _ => fun
  | [d] => { results := [.lit (.bool true)], args := [d] }
  | _ => none }
def producersKeptRow : OpenClaim := { program := "ytmmlbepfonndaaagreatdoor", sum := "12b12457fa7480c3f709dbcc868112e99dfa259b3630f49d82ef86b03f1847b6", func := "bollard/bollardlaw16.ProducersKept", spec := "producersKept", inPlace := ["internal/bytealg.CountString", "internal/bytealg.IndexByteString", "internal/bytealg.IndexString", "maps.clone"], unfollowed := true, recurses := true, named := ["unicode/utf8.first", "unicode/utf8.acceptRanges", "internal/bytealg.MaxLen"], plainKeys := false, apart := false, laid := [("unicode/utf8.acceptRanges", laid_unicode_utf8_acceptRanges), ("unicode/utf8.first", laid_unicode_utf8_first)] }
def ProducersKeptSaid : Prop := producersKeptRow.holds Tryz.pinned (OpenSpec.ofChange producersKeptSpec)

/-- ITS FALSE NEIGHBOUR: 'it returns false'. Refute it at one input. -/
def producersKeptWrong : ChangeSpec := { name := "producersKept", fn := fun _ => fun
  | [d] => { results := [.lit (.bool false)], args := [d] }
  | _ => none }
def ProducersKeptWrongFalsely : Prop := producersKeptRow.holds Tryz.pinned (OpenSpec.ofChange producersKeptWrong)

/-- 'bollardlaw16.ProducersMany': WHATEVER THE INPUT: true; the input reads as it did. -/
def producersManySpec : ChangeSpec := { name := "producersMany", fn := fun _ => fun
  | [d1, d2] => { results := [.lit (.bool true)], args := [d1, d2] }
  | _ => none }
def producersManyRow : OpenClaim := { program := "ytmmlbepfonndaaagreatdoor", sum := "12b12457fa7480c3f709dbcc868112e99dfa259b3630f49d82ef86b03f1847b6", func := "bollard/bollardlaw16.ProducersMany", spec := "producersMany", inPlace := ["internal/bytealg.CountString", "internal/bytealg.IndexByteString", "internal/bytealg.IndexString", "maps.clone"], unfollowed := true, recurses := true, named := ["unicode/utf8.first", "unicode/utf8.acceptRanges", "internal/bytealg.MaxLen"], plainKeys := false, apart := false, laid := [("unicode/utf8.acceptRanges", laid_unicode_utf8_acceptRanges), ("unicode/utf8.first", laid_unicode_utf8_first)] }
def ProducersManySaid : Prop := producersManyRow.holds Tryz.pinned (OpenSpec.ofChange producersManySpec)

/-- ITS FALSE NEIGHBOUR: 'it returns false'. Refute it at one input. -/
def producersManyWrong : ChangeSpec := { name := "producersMany", fn := fun _ => fun
  | [d1, d2] => { results := [.lit (.bool false)], args := [d1, d2] }
  | _ => none }
def ProducersManyWrongFalsely : Prop := producersManyRow.holds Tryz.pinned (OpenSpec.ofChange producersManyWrong)

/-- 'bollardlaw16.ProducersRows': WHATEVER THE INPUT: true; the input reads as it did. -/
def producersRowsSpec : ChangeSpec := { name := "producersRows", fn := fun _ => fun
  | [d1, d2] => { results := [.lit (.bool true)], args := [d1, d2] }
  | _ => none }
def producersRowsRow : OpenClaim := { program := "ytmmlbepfonndaaagreatdoor", sum := "12b12457fa7480c3f709dbcc868112e99dfa259b3630f49d82ef86b03f1847b6", func := "bollard/bollardlaw16.ProducersRows", spec := "producersRows", inPlace := ["internal/bytealg.CountString", "internal/bytealg.IndexByteString", "internal/bytealg.IndexString", "maps.clone"], unfollowed := true, recurses := true, named := ["unicode/utf8.first", "unicode/utf8.acceptRanges", "internal/bytealg.MaxLen"], plainKeys := false, apart := false, laid := [("unicode/utf8.acceptRanges", laid_unicode_utf8_acceptRanges), ("unicode/utf8.first", laid_unicode_utf8_first)] }
def ProducersRowsSaid : Prop := producersRowsRow.holds Tryz.pinned (OpenSpec.ofChange producersRowsSpec)

/-- ITS FALSE NEIGHBOUR: 'it returns false'. Refute it at one input. -/
def producersRowsWrong : ChangeSpec := { name := "producersRows", fn := fun _ => fun
  | [d1, d2] => { results := [.lit (.bool false)], args := [d1, d2] }
  | _ => none }
def ProducersRowsWrongFalsely : Prop := producersRowsRow.holds Tryz.pinned (OpenSpec.ofChange producersRowsWrong)

/-- 'bollardlaw16.ProducersNothing': WHATEVER THE INPUT: true; the input reads as it did. -/
def producersNothingSpec : ChangeSpec := { name := "producersNothing", fn := fun _ => fun
  | [d1, d2, d3] => { results := [.lit (.bool true)], args := [d1, d2, d3] }
  | _ => none }
def producersNothingRow : OpenClaim := { program := "ytmmlbepfonndaaagreatdoor", sum := "12b12457fa7480c3f709dbcc868112e99dfa259b3630f49d82ef86b03f1847b6", func := "bollard/bollardlaw16.ProducersNothing", spec := "producersNothing", inPlace := ["internal/bytealg.CountString", "internal/bytealg.IndexByteString", "internal/bytealg.IndexString", "maps.clone"], unfollowed := true, recurses := true, named := ["unicode/utf8.first", "unicode/utf8.acceptRanges", "internal/bytealg.MaxLen"], plainKeys := false, apart := false, laid := [("unicode/utf8.acceptRanges", laid_unicode_utf8_acceptRanges), ("unicode/utf8.first", laid_unicode_utf8_first)] }
def ProducersNothingSaid : Prop := producersNothingRow.holds Tryz.pinned (OpenSpec.ofChange producersNothingSpec)

/-- ITS FALSE NEIGHBOUR: 'it returns false'. Refute it at one input. -/
def producersNothingWrong : ChangeSpec := { name := "producersNothing", fn := fun _ => fun
  | [d1, d2, d3] => { results := [.lit (.bool false)], args := [d1, d2, d3] }
  | _ => none }
def ProducersNothingWrongFalsely : Prop := producersNothingRow.holds Tryz.pinned (OpenSpec.ofChange producersNothingWrong)

/-- 'bollardlaw16.ProducersPlay': WHATEVER THE INPUT: true; the input reads as it did. -/
def producersPlaySpec : ChangeSpec := { name := "producersPlay", fn := fun _ => fun
  | [d] => { results := [.lit (.bool true)], args := [d] }
  | _ => none }
def producersPlayRow : OpenClaim := { program := "ytmmlbepfonndaaagreatdoor", sum := "12b12457fa7480c3f709dbcc868112e99dfa259b3630f49d82ef86b03f1847b6", func := "bollard/bollardlaw16.ProducersPlay", spec := "producersPlay", inPlace := ["internal/bytealg.CountString", "internal/bytealg.IndexByteString", "internal/bytealg.IndexString", "maps.clone"], unfollowed := true, recurses := true, named := ["unicode/utf8.first", "unicode/utf8.acceptRanges", "internal/bytealg.MaxLen"], plainKeys := false, apart := false, laid := [("unicode/utf8.acceptRanges", laid_unicode_utf8_acceptRanges), ("unicode/utf8.first", laid_unicode_utf8_first)] }
def ProducersPlaySaid : Prop := producersPlayRow.holds Tryz.pinned (OpenSpec.ofChange producersPlaySpec)

/-- ITS FALSE NEIGHBOUR: 'it returns false'. Refute it at one input. -/
def producersPlayWrong : ChangeSpec := { name := "producersPlay", fn := fun _ => fun
  | [d] => { results := [.lit (.bool false)], args := [d] }
  | _ => none }
def ProducersPlayWrongFalsely : Prop := producersPlayRow.holds Tryz.pinned (OpenSpec.ofChange producersPlayWrong)

/-- 'bollardlaw11.FilesMany': WHATEVER THE INPUT: true; the input reads as it did. -/
def filesManySpec : ChangeSpec := { name := "filesMany", fn := fun _ => fun
  | [d1, d2] => { results := [.lit (.bool true)], args := [d1, d2] }
  | _ => none }
def filesManyRow : OpenClaim := { program := "ytmmlbepfonndaaagreatdoor", sum := "12b12457fa7480c3f709dbcc868112e99dfa259b3630f49d82ef86b03f1847b6", func := "bollard/bollardlaw11.FilesMany", spec := "filesMany", inPlace := ["internal/bytealg.CountString", "internal/bytealg.IndexByteString", "internal/bytealg.IndexString", "maps.clone"], unfollowed := true, recurses := true, named := ["unicode/utf8.first", "unicode/utf8.acceptRanges", "internal/bytealg.MaxLen"], plainKeys := false, apart := false, laid := [("unicode/utf8.acceptRanges", laid_unicode_utf8_acceptRanges), ("unicode/utf8.first", laid_unicode_utf8_first)] }
def FilesManySaid : Prop := filesManyRow.holds Tryz.pinned (OpenSpec.ofChange filesManySpec)

/-- ITS FALSE NEIGHBOUR: 'it returns false'. Refute it at one input. -/
def filesManyWrong : ChangeSpec := { name := "filesMany", fn := fun _ => fun
  | [d1, d2] => { results := [.lit (.bool false)], args := [d1, d2] }
  | _ => none }
def FilesManyWrongFalsely : Prop := filesManyRow.holds Tryz.pinned (OpenSpec.ofChange filesManyWrong)

/-- 'bollardlaw11.FilesNothing': WHATEVER THE INPUT: true; the input reads as it did. -/
def filesNothingSpec : ChangeSpec := { name := "filesNothing", fn := fun _ => fun
  | [d1, d2] => { results := [.lit (.bool true)], args := [d1, d2] }
  | _ => none }
def filesNothingRow : OpenClaim := { program := "ytmmlbepfonndaaagreatdoor", sum := "12b12457fa7480c3f709dbcc868112e99dfa259b3630f49d82ef86b03f1847b6", func := "bollard/bollardlaw11.FilesNothing", spec := "filesNothing", inPlace := ["internal/bytealg.CountString", "internal/bytealg.IndexByteString", "internal/bytealg.IndexString", "maps.clone"], unfollowed := true, recurses := true, named := ["unicode/utf8.first", "unicode/utf8.acceptRanges", "internal/bytealg.MaxLen"], plainKeys := false, apart := false, laid := [("unicode/utf8.acceptRanges", laid_unicode_utf8_acceptRanges), ("unicode/utf8.first", laid_unicode_utf8_first)] }
def FilesNothingSaid : Prop := filesNothingRow.holds Tryz.pinned (OpenSpec.ofChange filesNothingSpec)

/-- ITS FALSE NEIGHBOUR: 'it returns false'. Refute it at one input. -/
def filesNothingWrong : ChangeSpec := { name := "filesNothing", fn := fun _ => fun
  | [d1, d2] => { results := [.lit (.bool false)], args := [d1, d2] }
  | _ => none }
def FilesNothingWrongFalsely : Prop := filesNothingRow.holds Tryz.pinned (OpenSpec.ofChange filesNothingWrong)

/-- 'bollardlaw11.FilesKinds': WHATEVER THE INPUT: true; the input reads as it did. -/
def filesKindsSpec : ChangeSpec := { name := "filesKinds", fn := fun _ => fun
  | [d1, d2] => { results := [.lit (.bool true)], args := [d1, d2] }
  | _ => none }
def filesKindsRow : OpenClaim := { program := "ytmmlbepfonndaaagreatdoor", sum := "12b12457fa7480c3f709dbcc868112e99dfa259b3630f49d82ef86b03f1847b6", func := "bollard/bollardlaw11.FilesKinds", spec := "filesKinds", inPlace := ["internal/bytealg.CountString", "internal/bytealg.IndexByteString", "internal/bytealg.IndexString", "maps.clone"], unfollowed := true, recurses := true, named := ["unicode/utf8.first", "unicode/utf8.acceptRanges", "internal/bytealg.MaxLen"], plainKeys := false, apart := false, laid := [("unicode/utf8.acceptRanges", laid_unicode_utf8_acceptRanges), ("unicode/utf8.first", laid_unicode_utf8_first)] }
def FilesKindsSaid : Prop := filesKindsRow.holds Tryz.pinned (OpenSpec.ofChange filesKindsSpec)

/-- ITS FALSE NEIGHBOUR: 'it returns false'. Refute it at one input. -/
def filesKindsWrong : ChangeSpec := { name := "filesKinds", fn := fun _ => fun
  | [d1, d2] => { results := [.lit (.bool false)], args := [d1, d2] }
  | _ => none }
def FilesKindsWrongFalsely : Prop := filesKindsRow.holds Tryz.pinned (OpenSpec.ofChange filesKindsWrong)

/-- 'bollardlaw11.FilesShare': WHATEVER THE INPUT: true; the input reads as it did. -/
def filesShareSpec : ChangeSpec := { name := "filesShare", fn := fun _ => fun
  | [d] => { results := [.lit (.bool true)], args := [d] }
  | _ => none }
def filesShareRow : OpenClaim := { program := "ytmmlbepfonndaaagreatdoor", sum := "12b12457fa7480c3f709dbcc868112e99dfa259b3630f49d82ef86b03f1847b6", func := "bollard/bollardlaw11.FilesShare", spec := "filesShare", inPlace := ["internal/bytealg.CountString", "internal/bytealg.IndexByteString", "internal/bytealg.IndexString", "maps.clone"], unfollowed := true, recurses := true, named := ["unicode/utf8.first", "unicode/utf8.acceptRanges", "internal/bytealg.MaxLen"], plainKeys := false, apart := false, laid := [("unicode/utf8.acceptRanges", laid_unicode_utf8_acceptRanges), ("unicode/utf8.first", laid_unicode_utf8_first)] }
def FilesShareSaid : Prop := filesShareRow.holds Tryz.pinned (OpenSpec.ofChange filesShareSpec)

/-- ITS FALSE NEIGHBOUR: 'it returns false'. Refute it at one input. -/
def filesShareWrong : ChangeSpec := { name := "filesShare", fn := fun _ => fun
  | [d] => { results := [.lit (.bool false)], args := [d] }
  | _ => none }
def FilesShareWrongFalsely : Prop := filesShareRow.holds Tryz.pinned (OpenSpec.ofChange filesShareWrong)

/-- 'bollardlaw11.FilesPlaces': WHATEVER THE INPUT: true; the input reads as it did. -/
def filesPlacesSpec : ChangeSpec := { name := "filesPlaces", fn := fun _ => fun
  | [d1, d2] => { results := [.lit (.bool true)], args := [d1, d2] }
  | _ => none }
def filesPlacesRow : OpenClaim := { program := "ytmmlbepfonndaaagreatdoor", sum := "12b12457fa7480c3f709dbcc868112e99dfa259b3630f49d82ef86b03f1847b6", func := "bollard/bollardlaw11.FilesPlaces", spec := "filesPlaces", inPlace := ["internal/bytealg.CountString", "internal/bytealg.IndexByteString", "internal/bytealg.IndexString", "maps.clone"], unfollowed := true, recurses := true, named := ["unicode/utf8.first", "unicode/utf8.acceptRanges", "internal/bytealg.MaxLen"], plainKeys := false, apart := false, laid := [("unicode/utf8.acceptRanges", laid_unicode_utf8_acceptRanges), ("unicode/utf8.first", laid_unicode_utf8_first)] }
def FilesPlacesSaid : Prop := filesPlacesRow.holds Tryz.pinned (OpenSpec.ofChange filesPlacesSpec)

/-- ITS FALSE NEIGHBOUR: 'it returns false'. Refute it at one input. -/
def filesPlacesWrong : ChangeSpec := { name := "filesPlaces", fn := fun _ => fun
  | [d1, d2] => { results := [.lit (.bool false)], args := [d1, d2] }
  | _ => none }
def FilesPlacesWrongFalsely : Prop := filesPlacesRow.holds Tryz.pinned (OpenSpec.ofChange filesPlacesWrong)

/-- 'bollardlaw10.FsMakes': WHATEVER THE INPUT: true; the input reads as it did. -/
def fsMakesSpec : ChangeSpec := { name := "fsMakes", fn := fun _ => fun
  | [d1, d2] => { results := [.lit (.bool true)], args := [d1, d2] }
  | _ => none }
def fsMakesRow : OpenClaim := { program := "ytmmlbepfonndaaagreatdoor", sum := "12b12457fa7480c3f709dbcc868112e99dfa259b3630f49d82ef86b03f1847b6", func := "bollard/bollardlaw10.FsMakes", spec := "fsMakes", inPlace := ["internal/bytealg.CountString", "internal/bytealg.IndexByteString", "internal/bytealg.IndexString", "maps.clone"], unfollowed := true, recurses := true, named := ["unicode/utf8.first", "unicode/utf8.acceptRanges", "internal/bytealg.MaxLen"], plainKeys := false, apart := false, laid := [("unicode/utf8.acceptRanges", laid_unicode_utf8_acceptRanges), ("unicode/utf8.first", laid_unicode_utf8_first)] }
def FsMakesSaid : Prop := fsMakesRow.holds Tryz.pinned (OpenSpec.ofChange fsMakesSpec)

/-- ITS FALSE NEIGHBOUR: 'it returns false'. Refute it at one input. -/
def fsMakesWrong : ChangeSpec := { name := "fsMakes", fn := fun _ => fun
  | [d1, d2] => { results := [.lit (.bool false)], args := [d1, d2] }
  | _ => none }
def FsMakesWrongFalsely : Prop := fsMakesRow.holds Tryz.pinned (OpenSpec.ofChange fsMakesWrong)

/-- 'bollardlaw11.FilesGone': WHATEVER THE INPUT: true; the input reads as it did. -/
def filesGoneSpec : ChangeSpec := { name := "filesGone", fn := fun _ => fun
  | [d1, d2] => { results := [.lit (.bool true)], args := [d1, d2] }
  | _ => none }
def filesGoneRow : OpenClaim := { program := "ytmmlbepfonndaaagreatdoor", sum := "12b12457fa7480c3f709dbcc868112e99dfa259b3630f49d82ef86b03f1847b6", func := "bollard/bollardlaw11.FilesGone", spec := "filesGone", inPlace := ["internal/bytealg.CountString", "internal/bytealg.IndexByteString", "internal/bytealg.IndexString", "maps.clone"], unfollowed := true, recurses := true, named := ["unicode/utf8.first", "unicode/utf8.acceptRanges", "internal/bytealg.MaxLen"], plainKeys := false, apart := false, laid := [("unicode/utf8.acceptRanges", laid_unicode_utf8_acceptRanges), ("unicode/utf8.first", laid_unicode_utf8_first)] }
def FilesGoneSaid : Prop := filesGoneRow.holds Tryz.pinned (OpenSpec.ofChange filesGoneSpec)

/-- ITS FALSE NEIGHBOUR: 'it returns false'. Refute it at one input. -/
def filesGoneWrong : ChangeSpec := { name := "filesGone", fn := fun _ => fun
  | [d1, d2] => { results := [.lit (.bool false)], args := [d1, d2] }
  | _ => none }
def FilesGoneWrongFalsely : Prop := filesGoneRow.holds Tryz.pinned (OpenSpec.ofChange filesGoneWrong)

/- THE SECOND FORM. 'bulk': how many values and letters a reading holds, each counted each time it is reached (what is shared counts as often as it is met; a slice's spare places count too). A statement '..UptoSaid' is the law's where the arguments, and the package variables that the reading takes, are together of bulk at most 1048576: NARROWER than '..Said'. Prove '..Said' where nothing that the law and all that it calls make is longer than what came in: it says more and counts as full. Else prove '..UptoSaid'. A law counts once. -/
mutual
def uptoBulk {H : Type} : DataW H → Nat
  | .lit (.string bytes) => bytes.length + 1
  | .lit _ => 1
  | .nil => 1
  | .ptr d => uptoBulk d + 1
  | .slice elems spare => uptoBulkAll elems + uptoBulkAll spare + 1
  | .agg parts => uptoBulkAll parts + 1
  | .iface _ d => uptoBulk d + 1
  | .map entries => uptoBulkEntries entries + 1
  | .held _ => 1
def uptoBulkAll {H : Type} : List (DataW H) → Nat
  | [] => 0
  | d :: r => uptoBulk d + uptoBulkAll r
def uptoBulkEntries {H : Type} : List (Lit × DataW H) → Nat
  | [] => 0
  | x :: r => uptoBulkEntry x + uptoBulkEntries r
def uptoBulkEntry {H : Type} : Lit × DataW H → Nat
  | (.string bytes, d) => bytes.length + uptoBulk d + 1
  | (_, d) => uptoBulk d + 1
 end
def uptoSmall : (H : Type) → List (DataW H) → Bool := fun _ ds => decide (uptoBulkAll ds ≤ 1048576)
def OpenSpec.upto (s : _root_.Go.ChangeSpec) : _root_.Go.OpenSpec := { _root_.Go.OpenSpec.ofChange s with cond := some uptoSmall }

/-- 'bollardlaw16.ProducersKept', WHERE WHAT IT READS IS OF BULK AT MOST 1048576: true; the input reads as it did. -/
def producersKeptUptoRow : OpenClaim := { program := "ytmmlbepfonndaaagreatdoor", sum := "12b12457fa7480c3f709dbcc868112e99dfa259b3630f49d82ef86b03f1847b6", func := "bollard/bollardlaw16.ProducersKept", spec := "producersKept", inPlace := ["internal/bytealg.CountString", "internal/bytealg.IndexByteString", "internal/bytealg.IndexString", "maps.clone"], unfollowed := true, recurses := true, named := ["unicode/utf8.first", "unicode/utf8.acceptRanges", "internal/bytealg.MaxLen"], plainKeys := false, apart := false, laid := [("unicode/utf8.acceptRanges", laid_unicode_utf8_acceptRanges), ("unicode/utf8.first", laid_unicode_utf8_first)], narrowed := true }
def ProducersKeptUptoSaid : Prop := producersKeptUptoRow.holds Tryz.pinned (OpenSpec.upto producersKeptSpec)

/-- 'bollardlaw16.ProducersMany', WHERE WHAT IT READS IS OF BULK AT MOST 1048576: true; the input reads as it did. -/
def producersManyUptoRow : OpenClaim := { program := "ytmmlbepfonndaaagreatdoor", sum := "12b12457fa7480c3f709dbcc868112e99dfa259b3630f49d82ef86b03f1847b6", func := "bollard/bollardlaw16.ProducersMany", spec := "producersMany", inPlace := ["internal/bytealg.CountString", "internal/bytealg.IndexByteString", "internal/bytealg.IndexString", "maps.clone"], unfollowed := true, recurses := true, named := ["unicode/utf8.first", "unicode/utf8.acceptRanges", "internal/bytealg.MaxLen"], plainKeys := false, apart := false, laid := [("unicode/utf8.acceptRanges", laid_unicode_utf8_acceptRanges), ("unicode/utf8.first", laid_unicode_utf8_first)], narrowed := true }
def ProducersManyUptoSaid : Prop := producersManyUptoRow.holds Tryz.pinned (OpenSpec.upto producersManySpec)

/-- 'bollardlaw16.ProducersRows', WHERE WHAT IT READS IS OF BULK AT MOST 1048576: true; the input reads as it did. -/
def producersRowsUptoRow : OpenClaim := { program := "ytmmlbepfonndaaagreatdoor", sum := "12b12457fa7480c3f709dbcc868112e99dfa259b3630f49d82ef86b03f1847b6", func := "bollard/bollardlaw16.ProducersRows", spec := "producersRows", inPlace := ["internal/bytealg.CountString", "internal/bytealg.IndexByteString", "internal/bytealg.IndexString", "maps.clone"], unfollowed := true, recurses := true, named := ["unicode/utf8.first", "unicode/utf8.acceptRanges", "internal/bytealg.MaxLen"], plainKeys := false, apart := false, laid := [("unicode/utf8.acceptRanges", laid_unicode_utf8_acceptRanges), ("unicode/utf8.first", laid_unicode_utf8_first)], narrowed := true }
def ProducersRowsUptoSaid : Prop := producersRowsUptoRow.holds Tryz.pinned (OpenSpec.upto producersRowsSpec)

/-- 'bollardlaw16.ProducersNothing', WHERE WHAT IT READS IS OF BULK AT MOST 1048576: true; the input reads as it did. -/
def producersNothingUptoRow : OpenClaim := { program := "ytmmlbepfonndaaagreatdoor", sum := "12b12457fa7480c3f709dbcc868112e99dfa259b3630f49d82ef86b03f1847b6", func := "bollard/bollardlaw16.ProducersNothing", spec := "producersNothing", inPlace := ["internal/bytealg.CountString", "internal/bytealg.IndexByteString", "internal/bytealg.IndexString", "maps.clone"], unfollowed := true, recurses := true, named := ["unicode/utf8.first", "unicode/utf8.acceptRanges", "internal/bytealg.MaxLen"], plainKeys := false, apart := false, laid := [("unicode/utf8.acceptRanges", laid_unicode_utf8_acceptRanges), ("unicode/utf8.first", laid_unicode_utf8_first)], narrowed := true }
def ProducersNothingUptoSaid : Prop := producersNothingUptoRow.holds Tryz.pinned (OpenSpec.upto producersNothingSpec)

/-- 'bollardlaw16.ProducersPlay', WHERE WHAT IT READS IS OF BULK AT MOST 1048576: true; the input reads as it did. -/
def producersPlayUptoRow : OpenClaim := { program := "ytmmlbepfonndaaagreatdoor", sum := "12b12457fa7480c3f709dbcc868112e99dfa259b3630f49d82ef86b03f1847b6", func := "bollard/bollardlaw16.ProducersPlay", spec := "producersPlay", inPlace := ["internal/bytealg.CountString", "internal/bytealg.IndexByteString", "internal/bytealg.IndexString", "maps.clone"], unfollowed := true, recurses := true, named := ["unicode/utf8.first", "unicode/utf8.acceptRanges", "internal/bytealg.MaxLen"], plainKeys := false, apart := false, laid := [("unicode/utf8.acceptRanges", laid_unicode_utf8_acceptRanges), ("unicode/utf8.first", laid_unicode_utf8_first)], narrowed := true }
def ProducersPlayUptoSaid : Prop := producersPlayUptoRow.holds Tryz.pinned (OpenSpec.upto producersPlaySpec)

/-- 'bollardlaw11.FilesMany', WHERE WHAT IT READS IS OF BULK AT MOST 1048576: true; the input reads as it did. -/
def filesManyUptoRow : OpenClaim := { program := "ytmmlbepfonndaaagreatdoor", sum := "12b12457fa7480c3f709dbcc868112e99dfa259b3630f49d82ef86b03f1847b6", func := "bollard/bollardlaw11.FilesMany", spec := "filesMany", inPlace := ["internal/bytealg.CountString", "internal/bytealg.IndexByteString", "internal/bytealg.IndexString", "maps.clone"], unfollowed := true, recurses := true, named := ["unicode/utf8.first", "unicode/utf8.acceptRanges", "internal/bytealg.MaxLen"], plainKeys := false, apart := false, laid := [("unicode/utf8.acceptRanges", laid_unicode_utf8_acceptRanges), ("unicode/utf8.first", laid_unicode_utf8_first)], narrowed := true }
def FilesManyUptoSaid : Prop := filesManyUptoRow.holds Tryz.pinned (OpenSpec.upto filesManySpec)

/-- 'bollardlaw11.FilesNothing', WHERE WHAT IT READS IS OF BULK AT MOST 1048576: true; the input reads as it did. -/
def filesNothingUptoRow : OpenClaim := { program := "ytmmlbepfonndaaagreatdoor", sum := "12b12457fa7480c3f709dbcc868112e99dfa259b3630f49d82ef86b03f1847b6", func := "bollard/bollardlaw11.FilesNothing", spec := "filesNothing", inPlace := ["internal/bytealg.CountString", "internal/bytealg.IndexByteString", "internal/bytealg.IndexString", "maps.clone"], unfollowed := true, recurses := true, named := ["unicode/utf8.first", "unicode/utf8.acceptRanges", "internal/bytealg.MaxLen"], plainKeys := false, apart := false, laid := [("unicode/utf8.acceptRanges", laid_unicode_utf8_acceptRanges), ("unicode/utf8.first", laid_unicode_utf8_first)], narrowed := true }
def FilesNothingUptoSaid : Prop := filesNothingUptoRow.holds Tryz.pinned (OpenSpec.upto filesNothingSpec)

/-- 'bollardlaw11.FilesKinds', WHERE WHAT IT READS IS OF BULK AT MOST 1048576: true; the input reads as it did. -/
def filesKindsUptoRow : OpenClaim := { program := "ytmmlbepfonndaaagreatdoor", sum := "12b12457fa7480c3f709dbcc868112e99dfa259b3630f49d82ef86b03f1847b6", func := "bollard/bollardlaw11.FilesKinds", spec := "filesKinds", inPlace := ["internal/bytealg.CountString", "internal/bytealg.IndexByteString", "internal/bytealg.IndexString", "maps.clone"], unfollowed := true, recurses := true, named := ["unicode/utf8.first", "unicode/utf8.acceptRanges", "internal/bytealg.MaxLen"], plainKeys := false, apart := false, laid := [("unicode/utf8.acceptRanges", laid_unicode_utf8_acceptRanges), ("unicode/utf8.first", laid_unicode_utf8_first)], narrowed := true }
def FilesKindsUptoSaid : Prop := filesKindsUptoRow.holds Tryz.pinned (OpenSpec.upto filesKindsSpec)

/-- 'bollardlaw11.FilesShare', WHERE WHAT IT READS IS OF BULK AT MOST 1048576: true; the input reads as it did. -/
def filesShareUptoRow : OpenClaim := { program := "ytmmlbepfonndaaagreatdoor", sum := "12b12457fa7480c3f709dbcc868112e99dfa259b3630f49d82ef86b03f1847b6", func := "bollard/bollardlaw11.FilesShare", spec := "filesShare", inPlace := ["internal/bytealg.CountString", "internal/bytealg.IndexByteString", "internal/bytealg.IndexString", "maps.clone"], unfollowed := true, recurses := true, named := ["unicode/utf8.first", "unicode/utf8.acceptRanges", "internal/bytealg.MaxLen"], plainKeys := false, apart := false, laid := [("unicode/utf8.acceptRanges", laid_unicode_utf8_acceptRanges), ("unicode/utf8.first", laid_unicode_utf8_first)], narrowed := true }
def FilesShareUptoSaid : Prop := filesShareUptoRow.holds Tryz.pinned (OpenSpec.upto filesShareSpec)

/-- 'bollardlaw11.FilesPlaces', WHERE WHAT IT READS IS OF BULK AT MOST 1048576: true; the input reads as it did. -/
def filesPlacesUptoRow : OpenClaim := { program := "ytmmlbepfonndaaagreatdoor", sum := "12b12457fa7480c3f709dbcc868112e99dfa259b3630f49d82ef86b03f1847b6", func := "bollard/bollardlaw11.FilesPlaces", spec := "filesPlaces", inPlace := ["internal/bytealg.CountString", "internal/bytealg.IndexByteString", "internal/bytealg.IndexString", "maps.clone"], unfollowed := true, recurses := true, named := ["unicode/utf8.first", "unicode/utf8.acceptRanges", "internal/bytealg.MaxLen"], plainKeys := false, apart := false, laid := [("unicode/utf8.acceptRanges", laid_unicode_utf8_acceptRanges), ("unicode/utf8.first", laid_unicode_utf8_first)], narrowed := true }
def FilesPlacesUptoSaid : Prop := filesPlacesUptoRow.holds Tryz.pinned (OpenSpec.upto filesPlacesSpec)

/-- 'bollardlaw10.FsMakes', WHERE WHAT IT READS IS OF BULK AT MOST 1048576: true; the input reads as it did. -/
def fsMakesUptoRow : OpenClaim := { program := "ytmmlbepfonndaaagreatdoor", sum := "12b12457fa7480c3f709dbcc868112e99dfa259b3630f49d82ef86b03f1847b6", func := "bollard/bollardlaw10.FsMakes", spec := "fsMakes", inPlace := ["internal/bytealg.CountString", "internal/bytealg.IndexByteString", "internal/bytealg.IndexString", "maps.clone"], unfollowed := true, recurses := true, named := ["unicode/utf8.first", "unicode/utf8.acceptRanges", "internal/bytealg.MaxLen"], plainKeys := false, apart := false, laid := [("unicode/utf8.acceptRanges", laid_unicode_utf8_acceptRanges), ("unicode/utf8.first", laid_unicode_utf8_first)], narrowed := true }
def FsMakesUptoSaid : Prop := fsMakesUptoRow.holds Tryz.pinned (OpenSpec.upto fsMakesSpec)

/-- 'bollardlaw11.FilesGone', WHERE WHAT IT READS IS OF BULK AT MOST 1048576: true; the input reads as it did. -/
def filesGoneUptoRow : OpenClaim := { program := "ytmmlbepfonndaaagreatdoor", sum := "12b12457fa7480c3f709dbcc868112e99dfa259b3630f49d82ef86b03f1847b6", func := "bollard/bollardlaw11.FilesGone", spec := "filesGone", inPlace := ["internal/bytealg.CountString", "internal/bytealg.IndexByteString", "internal/bytealg.IndexString", "maps.clone"], unfollowed := true, recurses := true, named := ["unicode/utf8.first", "unicode/utf8.acceptRanges", "internal/bytealg.MaxLen"], plainKeys := false, apart := false, laid := [("unicode/utf8.acceptRanges", laid_unicode_utf8_acceptRanges), ("unicode/utf8.first", laid_unicode_utf8_first)], narrowed := true }
def FilesGoneUptoSaid : Prop := filesGoneUptoRow.holds Tryz.pinned (OpenSpec.upto filesGoneSpec)

end Rows
end Go.Proofs.YtmmlbepfonndaaaGreatDoor

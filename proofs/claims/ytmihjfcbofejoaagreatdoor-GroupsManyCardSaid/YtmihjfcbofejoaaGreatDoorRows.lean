/-
  NARROWER THAN 'FOR EVERY INPUT', by the rows' own cells (each row's printed sentence says how): PartSettings: laid · PartOffsets: laid · PartReads: laid · GroupsMany: laid · GroupsApart: laid · PartRefuses: laid · GroupsNothing: laid.
  DERIVED. THE GIVEN ROWS OF THIS SEAT. 7 by the template 'for every input the law returns true; each argument reads behind the call as it read before'; 0 by the template 'total and deterministic' (their statements: YtmihjfcbofejoaaGreatDoorTotals.lean).
  GIVEN WITH THE SEED: the statements are not yours to turn. If you find one false, say at which input.
  Laid BY PROGRAM, IN A SANDBOX (cutbox-rows.mjs): the forced cells as the released guide's own fill.sh prints them over the translation 1fe3ed0ad6c30e1a… (all of the seat's roots in one cut). By AI agents, Wed Nov 11 2026. No macro, syntax, notation, axiom, sorry.
-/
import Derived.Test.YtmihjfcbofejoaaGreatDoorChecked
import GoSem.PinnedTables
import GoSem.Claim
import GoSem.ClaimJoined
import GoSem.ClaimMapViews
import Derived.JoinedTies
import Derived.KernelRfl
namespace Go.Proofs.YtmihjfcbofejoaaGreatDoor
/- THE CELL 'sum', in the pinned program and in every row, IS THE sha256 OF THE DUMP (.gsa) THAT YtmihjfcbofejoaaGreatDoorProg.lean LOADS. Nothing in Lean hashes anything: it is a label: what it is worth is what the hold of that sum in a sandbox is worth. -/
noncomputable def Tryz.pinned : Pinned := { name := "ytmihjfcbofejoaagreatdoor", sum := "1fe3ed0ad6c30e1adb947b95550615735118a54879aa432ccaa8f913dd85d543", checked := Tryz.checked }
namespace Rows
def none {H : Type} : Left H := { results := [], args := [] }

/- WHAT THE LISTED PACKAGE-LEVEL VARIABLES READ AS WHEN THE CALL BEGINS. Each datum BY PROGRAM (the guide's laid-datum.mjs) off the statement by which the dump's own 'gosem.cut.vars' lays the variable. In a bare row this is a premise. The card (YtmihjfcbofejoaaGreatDoorCards.lean) ties it to the program's text. -/
def laid_unicode_utf8_acceptRanges {H : Type} : DataW H := .agg [.agg [.lit (.int .u8 128), .lit (.int .u8 191)], .agg [.lit (.int .u8 160), .lit (.int .u8 191)], .agg [.lit (.int .u8 128), .lit (.int .u8 159)], .agg [.lit (.int .u8 144), .lit (.int .u8 191)], .agg [.lit (.int .u8 128), .lit (.int .u8 143)], .agg [.lit (.int .u8 0), .lit (.int .u8 0)], .agg [.lit (.int .u8 0), .lit (.int .u8 0)], .agg [.lit (.int .u8 0), .lit (.int .u8 0)], .agg [.lit (.int .u8 0), .lit (.int .u8 0)], .agg [.lit (.int .u8 0), .lit (.int .u8 0)], .agg [.lit (.int .u8 0), .lit (.int .u8 0)], .agg [.lit (.int .u8 0), .lit (.int .u8 0)], .agg [.lit (.int .u8 0), .lit (.int .u8 0)], .agg [.lit (.int .u8 0), .lit (.int .u8 0)], .agg [.lit (.int .u8 0), .lit (.int .u8 0)], .agg [.lit (.int .u8 0), .lit (.int .u8 0)]]
/-- One of Go's own tables, pinned by name: the form's constant. -/
def laid_unicode_utf8_first : DataW Unit := Go.Pinned.utf8First

/-- 'bollardlaw15.PartSettings': WHATEVER THE INPUT: true; the input reads as it did. -/
def partSettingsSpec : ChangeSpec := { name := "partSettings", fn := fun _ => fun
  | [d] => { results := [.lit (.bool true)], args := [d] }
  | _ => none }
def partSettingsRow : OpenClaim := { program := "ytmihjfcbofejoaagreatdoor", sum := "1fe3ed0ad6c30e1adb947b95550615735118a54879aa432ccaa8f913dd85d543", func := "bollard/bollardlaw15.PartSettings", spec := "partSettings", inPlace := ["internal/bytealg.CountString", "internal/bytealg.IndexByteString", "internal/bytealg.IndexString", "maps.clone"], unfollowed := true, recurses := true, named := ["unicode/utf8.first", "unicode/utf8.acceptRanges", "internal/bytealg.MaxLen"], plainKeys := false, apart := false, laid := [("unicode/utf8.acceptRanges", laid_unicode_utf8_acceptRanges), ("unicode/utf8.first", laid_unicode_utf8_first)] }
def PartSettingsSaid : Prop := partSettingsRow.holds Tryz.pinned (OpenSpec.ofChange partSettingsSpec)

/-- ITS FALSE NEIGHBOUR: 'it returns false'. Refute it at one input. -/
def partSettingsWrong : ChangeSpec := { name := "partSettings", fn := fun _ => fun
  | [d] => { results := [.lit (.bool false)], args := [d] }
  | _ => none }
def PartSettingsWrongFalsely : Prop := partSettingsRow.holds Tryz.pinned (OpenSpec.ofChange partSettingsWrong)

/-- 'bollardlaw15.PartOffsets': WHATEVER THE INPUT: true; the input reads as it did. -/
def partOffsetsSpec : ChangeSpec := { name := "partOffsets", fn := fun _ => fun
  | [d1, d2] => { results := [.lit (.bool true)], args := [d1, d2] }
  | _ => none }
def partOffsetsRow : OpenClaim := { program := "ytmihjfcbofejoaagreatdoor", sum := "1fe3ed0ad6c30e1adb947b95550615735118a54879aa432ccaa8f913dd85d543", func := "bollard/bollardlaw15.PartOffsets", spec := "partOffsets", inPlace := ["internal/bytealg.CountString", "internal/bytealg.IndexByteString", "internal/bytealg.IndexString", "maps.clone"], unfollowed := true, recurses := true, named := ["unicode/utf8.first", "unicode/utf8.acceptRanges", "internal/bytealg.MaxLen"], plainKeys := false, apart := false, laid := [("unicode/utf8.acceptRanges", laid_unicode_utf8_acceptRanges), ("unicode/utf8.first", laid_unicode_utf8_first)] }
def PartOffsetsSaid : Prop := partOffsetsRow.holds Tryz.pinned (OpenSpec.ofChange partOffsetsSpec)

/-- ITS FALSE NEIGHBOUR: 'it returns false'. Refute it at one input. -/
def partOffsetsWrong : ChangeSpec := { name := "partOffsets", fn := fun _ => fun
  | [d1, d2] => { results := [.lit (.bool false)], args := [d1, d2] }
  | _ => none }
def PartOffsetsWrongFalsely : Prop := partOffsetsRow.holds Tryz.pinned (OpenSpec.ofChange partOffsetsWrong)

/-- 'bollardlaw15.PartReads': WHATEVER THE INPUT: true; the input reads as it did. -/
def partReadsSpec : ChangeSpec := { name := "partReads", fn := fun _ => fun
  | [d1, d2, d3, d4] => { results := [.lit (.bool true)], args := [d1, d2, d3, d4] }
  | _ => none }
def partReadsRow : OpenClaim := { program := "ytmihjfcbofejoaagreatdoor", sum := "1fe3ed0ad6c30e1adb947b95550615735118a54879aa432ccaa8f913dd85d543", func := "bollard/bollardlaw15.PartReads", spec := "partReads", inPlace := ["internal/bytealg.CountString", "internal/bytealg.IndexByteString", "internal/bytealg.IndexString", "maps.clone"], unfollowed := true, recurses := true, named := ["unicode/utf8.first", "unicode/utf8.acceptRanges", "internal/bytealg.MaxLen"], plainKeys := false, apart := false, laid := [("unicode/utf8.acceptRanges", laid_unicode_utf8_acceptRanges), ("unicode/utf8.first", laid_unicode_utf8_first)] }
def PartReadsSaid : Prop := partReadsRow.holds Tryz.pinned (OpenSpec.ofChange partReadsSpec)

/-- ITS FALSE NEIGHBOUR: 'it returns false'. Refute it at one input. -/
def partReadsWrong : ChangeSpec := { name := "partReads", fn := fun _ => fun
  | [d1, d2, d3, d4] => { results := [.lit (.bool false)], args := [d1, d2, d3, d4] }
  | _ => none }
def PartReadsWrongFalsely : Prop := partReadsRow.holds Tryz.pinned (OpenSpec.ofChange partReadsWrong)

/-- 'bollardlaw18.GroupsMany': WHATEVER THE INPUT: true; the input reads as it did. -/
def groupsManySpec : ChangeSpec := { name := "groupsMany", fn := fun _ => fun
  | [d] => { results := [.lit (.bool true)], args := [d] }
  | _ => none }
def groupsManyRow : OpenClaim := { program := "ytmihjfcbofejoaagreatdoor", sum := "1fe3ed0ad6c30e1adb947b95550615735118a54879aa432ccaa8f913dd85d543", func := "bollard/bollardlaw18.GroupsMany", spec := "groupsMany", inPlace := ["internal/bytealg.CountString", "internal/bytealg.IndexByteString", "internal/bytealg.IndexString", "maps.clone"], unfollowed := true, recurses := true, named := ["unicode/utf8.first", "unicode/utf8.acceptRanges", "internal/bytealg.MaxLen"], plainKeys := false, apart := false, laid := [("unicode/utf8.acceptRanges", laid_unicode_utf8_acceptRanges), ("unicode/utf8.first", laid_unicode_utf8_first)] }
def GroupsManySaid : Prop := groupsManyRow.holds Tryz.pinned (OpenSpec.ofChange groupsManySpec)

/-- ITS FALSE NEIGHBOUR: 'it returns false'. Refute it at one input. -/
def groupsManyWrong : ChangeSpec := { name := "groupsMany", fn := fun _ => fun
  | [d] => { results := [.lit (.bool false)], args := [d] }
  | _ => none }
def GroupsManyWrongFalsely : Prop := groupsManyRow.holds Tryz.pinned (OpenSpec.ofChange groupsManyWrong)

/-- 'bollardlaw18.GroupsApart': WHATEVER THE INPUT: true; the input reads as it did. -/
def groupsApartSpec : ChangeSpec := { name := "groupsApart", fn := fun _ => fun
  | [d] => { results := [.lit (.bool true)], args := [d] }
  | _ => none }
def groupsApartRow : OpenClaim := { program := "ytmihjfcbofejoaagreatdoor", sum := "1fe3ed0ad6c30e1adb947b95550615735118a54879aa432ccaa8f913dd85d543", func := "bollard/bollardlaw18.GroupsApart", spec := "groupsApart", inPlace := ["internal/bytealg.CountString", "internal/bytealg.IndexByteString", "internal/bytealg.IndexString", "maps.clone"], unfollowed := true, recurses := true, named := ["unicode/utf8.first", "unicode/utf8.acceptRanges", "internal/bytealg.MaxLen"], plainKeys := false, apart := false, laid := [("unicode/utf8.acceptRanges", laid_unicode_utf8_acceptRanges), ("unicode/utf8.first", laid_unicode_utf8_first)] }
def GroupsApartSaid : Prop := groupsApartRow.holds Tryz.pinned (OpenSpec.ofChange groupsApartSpec)

/-- ITS FALSE NEIGHBOUR: 'it returns false'. Refute it at one input. -/
def groupsApartWrong : ChangeSpec := { name := "groupsApart", fn := fun _ => fun
  | [d] => { results := [.lit (.bool false)], args := [d] }
  | _ => none }
def GroupsApartWrongFalsely : Prop := groupsApartRow.holds Tryz.pinned (OpenSpec.ofChange groupsApartWrong)

/-- 'bollardlaw15.PartRefuses': WHATEVER THE INPUT: true; the input reads as it did. -/
def partRefusesSpec : ChangeSpec := { name := "partRefuses", fn := fun _ => fun
  | [d1, d2] => { results := [.lit (.bool true)], args := [d1, d2] }
  | _ => none }
def partRefusesRow : OpenClaim := { program := "ytmihjfcbofejoaagreatdoor", sum := "1fe3ed0ad6c30e1adb947b95550615735118a54879aa432ccaa8f913dd85d543", func := "bollard/bollardlaw15.PartRefuses", spec := "partRefuses", inPlace := ["internal/bytealg.CountString", "internal/bytealg.IndexByteString", "internal/bytealg.IndexString", "maps.clone"], unfollowed := true, recurses := true, named := ["unicode/utf8.first", "unicode/utf8.acceptRanges", "internal/bytealg.MaxLen"], plainKeys := false, apart := false, laid := [("unicode/utf8.acceptRanges", laid_unicode_utf8_acceptRanges), ("unicode/utf8.first", laid_unicode_utf8_first)] }
def PartRefusesSaid : Prop := partRefusesRow.holds Tryz.pinned (OpenSpec.ofChange partRefusesSpec)

/-- ITS FALSE NEIGHBOUR: 'it returns false'. Refute it at one input. -/
def partRefusesWrong : ChangeSpec := { name := "partRefuses", fn := fun _ => fun
  | [d1, d2] => { results := [.lit (.bool false)], args := [d1, d2] }
  | _ => none }
def PartRefusesWrongFalsely : Prop := partRefusesRow.holds Tryz.pinned (OpenSpec.ofChange partRefusesWrong)

/-- 'bollardlaw18.GroupsNothing': WHATEVER THE INPUT: true; the input reads as it did. -/
def groupsNothingSpec : ChangeSpec := { name := "groupsNothing", fn := fun _ => fun
  | [d1, d2] => { results := [.lit (.bool true)], args := [d1, d2] }
  | _ => none }
def groupsNothingRow : OpenClaim := { program := "ytmihjfcbofejoaagreatdoor", sum := "1fe3ed0ad6c30e1adb947b95550615735118a54879aa432ccaa8f913dd85d543", func := "bollard/bollardlaw18.GroupsNothing", spec := "groupsNothing", inPlace := ["internal/bytealg.CountString", "internal/bytealg.IndexByteString", "internal/bytealg.IndexString", "maps.clone"], unfollowed := true, recurses := true, named := ["unicode/utf8.first", "unicode/utf8.acceptRanges", "internal/bytealg.MaxLen"], plainKeys := false, apart := false, laid := [("unicode/utf8.acceptRanges", laid_unicode_utf8_acceptRanges), ("unicode/utf8.first", laid_unicode_utf8_first)] }
def GroupsNothingSaid : Prop := groupsNothingRow.holds Tryz.pinned (OpenSpec.ofChange groupsNothingSpec)

/-- ITS FALSE NEIGHBOUR: 'it returns false'. Refute it at one input. -/
def groupsNothingWrong : ChangeSpec := { name := "groupsNothing", fn := fun _ => fun
  | [d1, d2] => { results := [.lit (.bool false)], args := [d1, d2] }
  | _ => none }
def GroupsNothingWrongFalsely : Prop := groupsNothingRow.holds Tryz.pinned (OpenSpec.ofChange groupsNothingWrong)

/- THE SECOND FORM. 'bulk': how many values and letters a reading holds, each counted each time it is reached (what is shared counts as often as it is met; a slice's spare places count too). A statement '..UptoSaid' is the law's where the arguments, and the package variables that the reading takes, are together of bulk at most 1048576: NARROWER than '..Said'. Prove '..Said' where nothing that the law and all that it calls make is longer than what came in: it says more and counts as full. Else prove '..UptoSaid'. A law counts once. -/
mutual
def uptoBulk {H : Type} : DataW H → Nat
  | .lit (.string bytes) => bytes.length + 1
  | .lit _ => 1
  | .nil => 1
  | .ptr d => uptoBulk d + 1
  | .slice elems spare => uptoBulkAll elems + uptoBulkAll spare + 1
  | .agg parts => uptoBulkAll parts + 1
  | .iface _ d => uptoBulk d + 1
  | .map entries => uptoBulkEntries entries + 1
  | .held _ => 1
def uptoBulkAll {H : Type} : List (DataW H) → Nat
  | [] => 0
  | d :: r => uptoBulk d + uptoBulkAll r
def uptoBulkEntries {H : Type} : List (Lit × DataW H) → Nat
  | [] => 0
  | x :: r => uptoBulkEntry x + uptoBulkEntries r
def uptoBulkEntry {H : Type} : Lit × DataW H → Nat
  | (.string bytes, d) => bytes.length + uptoBulk d + 1
  | (_, d) => uptoBulk d + 1
 end
def uptoSmall : (H : Type) → List (DataW H) → Bool := fun _ ds => decide (uptoBulkAll ds ≤ 1048576)
def OpenSpec.upto (s : _root_.Go.ChangeSpec) : _root_.Go.OpenSpec := { _root_.Go.OpenSpec.ofChange s with cond := some uptoSmall }

/-- 'bollardlaw15.PartSettings', WHERE WHAT IT READS IS OF BULK AT MOST 1048576: true; the input reads as it did. -/
def partSettingsUptoRow : OpenClaim := { program := "ytmihjfcbofejoaagreatdoor", sum := "1fe3ed0ad6c30e1adb947b95550615735118a54879aa432ccaa8f913dd85d543", func := "bollard/bollardlaw15.PartSettings", spec := "partSettings", inPlace := ["internal/bytealg.CountString", "internal/bytealg.IndexByteString", "internal/bytealg.IndexString", "maps.clone"], unfollowed := true, recurses := true, named := ["unicode/utf8.first", "unicode/utf8.acceptRanges", "internal/bytealg.MaxLen"], plainKeys := false, apart := false, laid := [("unicode/utf8.acceptRanges", laid_unicode_utf8_acceptRanges), ("unicode/utf8.first", laid_unicode_utf8_first)], narrowed := true }
def PartSettingsUptoSaid : Prop := partSettingsUptoRow.holds Tryz.pinned (OpenSpec.upto partSettingsSpec)

/-- 'bollardlaw15.PartOffsets', WHERE WHAT IT READS IS OF BULK AT MOST 1048576: true; the input reads as it did. -/
def partOffsetsUptoRow : OpenClaim := { program := "ytmihjfcbofejoaagreatdoor", sum := "1fe3ed0ad6c30e1adb947b95550615735118a54879aa432ccaa8f913dd85d543", func := "bollard/bollardlaw15.PartOffsets", spec := "partOffsets", inPlace := ["internal/bytealg.CountString", "internal/bytealg.IndexByteString", "internal/bytealg.IndexString", "maps.clone"], unfollowed := true, recurses := true, named := ["unicode/utf8.first", "unicode/utf8.acceptRanges", "internal/bytealg.MaxLen"], plainKeys := false, apart := false, laid := [("unicode/utf8.acceptRanges", laid_unicode_utf8_acceptRanges), ("unicode/utf8.first", laid_unicode_utf8_first)], narrowed := true }
def PartOffsetsUptoSaid : Prop := partOffsetsUptoRow.holds Tryz.pinned (OpenSpec.upto partOffsetsSpec)

/-- 'bollardlaw15.PartReads', WHERE WHAT IT READS IS OF BULK AT MOST 1048576: true; the input reads as it did. -/
def partReadsUptoRow : OpenClaim := { program := "ytmihjfcbofejoaagreatdoor", sum := "1fe3ed0ad6c30e1adb947b95550615735118a54879aa432ccaa8f913dd85d543", func := "bollard/bollardlaw15.PartReads", spec := "partReads", inPlace := ["internal/bytealg.CountString", "internal/bytealg.IndexByteString", "internal/bytealg.IndexString", "maps.clone"], unfollowed := true, recurses := true, named := ["unicode/utf8.first", "unicode/utf8.acceptRanges", "internal/bytealg.MaxLen"], plainKeys := false, apart := false, laid := [("unicode/utf8.acceptRanges", laid_unicode_utf8_acceptRanges), ("unicode/utf8.first", laid_unicode_utf8_first)], narrowed := true }
def PartReadsUptoSaid : Prop := partReadsUptoRow.holds Tryz.pinned (OpenSpec.upto partReadsSpec)

/-- 'bollardlaw18.GroupsMany', WHERE WHAT IT READS IS OF BULK AT MOST 1048576: true; the input reads as it did. -/
def groupsManyUptoRow : OpenClaim := { program := "ytmihjfcbofejoaagreatdoor", sum := "1fe3ed0ad6c30e1adb947b95550615735118a54879aa432ccaa8f913dd85d543", func := "bollard/bollardlaw18.GroupsMany", spec := "groupsMany", inPlace := ["internal/bytealg.CountString", "internal/bytealg.IndexByteString", "internal/bytealg.IndexString", "maps.clone"], unfollowed := true, recurses := true, named := ["unicode/utf8.first", "unicode/utf8.acceptRanges", "internal/bytealg.MaxLen"], plainKeys := false, apart := false, laid := [("unicode/utf8.acceptRanges", laid_unicode_utf8_acceptRanges), ("unicode/utf8.first", laid_unicode_utf8_first)], narrowed := true }
def GroupsManyUptoSaid : Prop := groupsManyUptoRow.holds Tryz.pinned (OpenSpec.upto groupsManySpec)

/-- 'bollardlaw18.GroupsApart', WHERE WHAT IT READS IS OF BULK AT MOST 1048576: true; the input reads as it did. -/
def groupsApartUptoRow : OpenClaim := { program := "ytmihjfcbofejoaagreatdoor", sum := "1fe3ed0ad6c30e1adb947b95550615735118a54879aa432ccaa8f913dd85d543", func := "bollard/bollardlaw18.GroupsApart", spec := "groupsApart", inPlace := ["internal/bytealg.CountString", "internal/bytealg.IndexByteString", "internal/bytealg.IndexString", "maps.clone"], unfollowed := true, recurses := true, named := ["unicode/utf8.first", "unicode/utf8.acceptRanges", "internal/bytealg.MaxLen"], plainKeys := false, apart := false, laid := [("unicode/utf8.acceptRanges", laid_unicode_utf8_acceptRanges), ("unicode/utf8.first", laid_unicode_utf8_first)], narrowed := true }
def GroupsApartUptoSaid : Prop := groupsApartUptoRow.holds Tryz.pinned (OpenSpec.upto groupsApartSpec)

/-- 'bollardlaw15.PartRefuses', WHERE WHAT IT READS IS OF BULK AT MOST 1048576: true; the input reads as it did. -/
def partRefusesUptoRow : OpenClaim := { program := "ytmihjfcbofejoaagreatdoor", sum := "1fe3ed0ad6c30e1adb947b95550615735118a54879aa432ccaa8f913dd85d543", func := "bollard/bollardlaw15.PartRefuses", spec := "partRefuses", inPlace := ["internal/bytealg.CountString", "internal/bytealg.IndexByteString", "internal/bytealg.IndexString", "maps.clone"], unfollowed := true, recurses := true, named := ["unicode/utf8.first", "unicode/utf8.acceptRanges", "internal/bytealg.MaxLen"], plainKeys := false, apart := false, laid := [("unicode/utf8.acceptRanges", laid_unicode_utf8_acceptRanges), ("unicode/utf8.first", laid_unicode_utf8_first)], narrowed := true }
def PartRefusesUptoSaid : Prop := partRefusesUptoRow.holds Tryz.pinned (OpenSpec.upto partRefusesSpec)

/-- 'bollardlaw18.GroupsNothing', WHERE WHAT IT READS IS OF BULK AT MOST 1048576: true; the input reads as it did. -/
def groupsNothingUptoRow : OpenClaim := { program := "ytmihjfcbofejoaagreatdoor", sum := "1fe3ed0ad6c30e1adb947b95550615735118a54879aa432ccaa8f913dd85d543", func := "bollard/bollardlaw18.GroupsNothing", spec := "groupsNothing", inPlace := ["internal/bytealg.CountString", "internal/bytealg.IndexByteString", "internal/bytealg.IndexString", "maps.clone"], unfollowed := true, recurses := true, named := ["unicode/utf8.first", "unicode/utf8.acceptRanges", "internal/bytealg.MaxLen"], plainKeys := false, apart := false, laid := [("unicode/utf8.acceptRanges", laid_unicode_utf8_acceptRanges), ("unicode/utf8.first", laid_unicode_utf8_first)], narrowed := true }
def GroupsNothingUptoSaid : Prop := groupsNothingUptoRow.holds Tryz.pinned (OpenSpec.upto groupsNothingSpec)

end Rows
end Go.Proofs.YtmihjfcbofejoaaGreatDoor

/-
  NARROWER THAN 'FOR EVERY INPUT', by the rows' own cells (each row's printed sentence says how): SegmentReads: laid · SegmentGaps: laid · SegmentTimes: laid · SegmentTorn: laid · SegmentNothing: laid.
  DERIVED. THE GIVEN ROWS OF THIS SEAT. 5 by the template 'for every input the law returns true; each argument reads behind the call as it read before'; 0 by the template 'total and deterministic' (their statements: YthpdeihndjhjfaaGreatDoorTotals.lean).
  GIVEN WITH THE SEED: the statements are not yours to turn. If you find one false, say at which input.
  Laid BY PROGRAM, IN A SANDBOX (cutbox-rows.mjs): the forced cells as the released guide's own fill.sh prints them over the translation 63b7773f04ab511e… (all of the seat's roots in one cut). By AI agents, Wed Nov 11 2026. No macro, syntax, notation, axiom, sorry.
-/
import Derived.Test.YthpdeihndjhjfaaGreatDoorChecked
import GoSem.PinnedTables
import GoSem.Claim
import GoSem.ClaimJoined
import GoSem.ClaimMapViews
import Derived.JoinedTies
import Derived.KernelRfl
namespace Go.Proofs.YthpdeihndjhjfaaGreatDoor
/- THE CELL 'sum', in the pinned program and in every row, IS THE sha256 OF THE DUMP (.gsa) THAT YthpdeihndjhjfaaGreatDoorProg.lean LOADS. Nothing in Lean hashes anything: it is a label: what it is worth is what the hold of that sum in a sandbox is worth. -/
noncomputable def Tryz.pinned : Pinned := { name := "ythpdeihndjhjfaagreatdoor", sum := "63b7773f04ab511e2237f53329d9bbcb84415dbc9361c004e81d57d84d21ef72", checked := Tryz.checked }
namespace Rows
def none {H : Type} : Left H := { results := [], args := [] }

/- WHAT THE LISTED PACKAGE-LEVEL VARIABLES READ AS WHEN THE CALL BEGINS. Each datum BY PROGRAM (the guide's laid-datum.mjs) off the statement by which the dump's own 'gosem.cut.vars' lays the variable. In a bare row this is a premise. The card (YthpdeihndjhjfaaGreatDoorCards.lean) ties it to the program's text. -/
def laid_unicode_utf8_acceptRanges {H : Type} : DataW H := .agg [.agg [.lit (.int .u8 128), .lit (.int .u8 191)], .agg [.lit (.int .u8 160), .lit (.int .u8 191)], .agg [.lit (.int .u8 128), .lit (.int .u8 159)], .agg [.lit (.int .u8 144), .lit (.int .u8 191)], .agg [.lit (.int .u8 128), .lit (.int .u8 143)], .agg [.lit (.int .u8 0), .lit (.int .u8 0)], .agg [.lit (.int .u8 0), .lit (.int .u8 0)], .agg [.lit (.int .u8 0), .lit (.int .u8 0)], .agg [.lit (.int .u8 0), .lit (.int .u8 0)], .agg [.lit (.int .u8 0), .lit (.int .u8 0)], .agg [.lit (.int .u8 0), .lit (.int .u8 0)], .agg [.lit (.int .u8 0), .lit (.int .u8 0)], .agg [.lit (.int .u8 0), .lit (.int .u8 0)], .agg [.lit (.int .u8 0), .lit (.int .u8 0)], .agg [.lit (.int .u8 0), .lit (.int .u8 0)], .agg [.lit (.int .u8 0), .lit (.int .u8 0)]]
/-- One of Go's own tables, pinned by name: the form's constant. -/
def laid_unicode_utf8_first : DataW Unit := Go.Pinned.utf8First

/-- 'bollardlaw14.SegmentReads': WHATEVER THE INPUT: true; the input reads as it did. -/
def segmentReadsSpec : ChangeSpec := { name := "segmentReads", fn := fun _ => fun
  | [d1, d2, d3] => { results := [.lit (.bool true)], args := [d1, d2, d3] }
  | _ => none }
def segmentReadsRow : OpenClaim := { program := "ythpdeihndjhjfaagreatdoor", sum := "63b7773f04ab511e2237f53329d9bbcb84415dbc9361c004e81d57d84d21ef72", func := "bollard/bollardlaw14.SegmentReads", spec := "segmentReads", inPlace := ["internal/bytealg.CountString", "internal/bytealg.IndexByteString", "internal/bytealg.IndexString", "maps.clone"], unfollowed := true, recurses := true, named := ["unicode/utf8.first", "unicode/utf8.acceptRanges", "internal/bytealg.MaxLen"], plainKeys := false, apart := false, laid := [("unicode/utf8.acceptRanges", laid_unicode_utf8_acceptRanges), ("unicode/utf8.first", laid_unicode_utf8_first)] }
def SegmentReadsSaid : Prop := segmentReadsRow.holds Tryz.pinned (OpenSpec.ofChange segmentReadsSpec)

/-- ITS FALSE NEIGHBOUR: 'it returns false'. Refute it at one input. -/
def segmentReadsWrong : ChangeSpec := { name := "segmentReads", fn := fun _ => fun
  | [d1, d2, d3] => { results := [.lit (.bool false)], args := [d1, d2, d3] }
  | _ => none }
def SegmentReadsWrongFalsely : Prop := segmentReadsRow.holds Tryz.pinned (OpenSpec.ofChange segmentReadsWrong)

/-- 'bollardlaw14.SegmentGaps': WHATEVER THE INPUT: true; the input reads as it did. -/
def segmentGapsSpec : ChangeSpec := { name := "segmentGaps", fn := fun _ => fun
  | [d] => { results := [.lit (.bool true)], args := [d] }
  | _ => none }
def segmentGapsRow : OpenClaim := { program := "ythpdeihndjhjfaagreatdoor", sum := "63b7773f04ab511e2237f53329d9bbcb84415dbc9361c004e81d57d84d21ef72", func := "bollard/bollardlaw14.SegmentGaps", spec := "segmentGaps", inPlace := ["internal/bytealg.CountString", "internal/bytealg.IndexByteString", "internal/bytealg.IndexString", "maps.clone"], unfollowed := true, recurses := true, named := ["unicode/utf8.first", "unicode/utf8.acceptRanges", "internal/bytealg.MaxLen"], plainKeys := false, apart := false, laid := [("unicode/utf8.acceptRanges", laid_unicode_utf8_acceptRanges), ("unicode/utf8.first", laid_unicode_utf8_first)] }
def SegmentGapsSaid : Prop := segmentGapsRow.holds Tryz.pinned (OpenSpec.ofChange segmentGapsSpec)

/-- ITS FALSE NEIGHBOUR: 'it returns false'. Refute it at one input. -/
def segmentGapsWrong : ChangeSpec := { name := "segmentGaps", fn := fun _ => fun
  | [d] => { results := [.lit (.bool false)], args := [d] }
  | _ => none }
def SegmentGapsWrongFalsely : Prop := segmentGapsRow.holds Tryz.pinned (OpenSpec.ofChange segmentGapsWrong)

/-- 'bollardlaw14.SegmentTimes': WHATEVER THE INPUT: true; the input reads as it did. -/
def segmentTimesSpec : ChangeSpec := { name := "segmentTimes", fn := fun _ => fun
  | [d1, d2] => { results := [.lit (.bool true)], args := [d1, d2] }
  | _ => none }
def segmentTimesRow : OpenClaim := { program := "ythpdeihndjhjfaagreatdoor", sum := "63b7773f04ab511e2237f53329d9bbcb84415dbc9361c004e81d57d84d21ef72", func := "bollard/bollardlaw14.SegmentTimes", spec := "segmentTimes", inPlace := ["internal/bytealg.CountString", "internal/bytealg.IndexByteString", "internal/bytealg.IndexString", "maps.clone"], unfollowed := true, recurses := true, named := ["unicode/utf8.first", "unicode/utf8.acceptRanges", "internal/bytealg.MaxLen"], plainKeys := false, apart := false, laid := [("unicode/utf8.acceptRanges", laid_unicode_utf8_acceptRanges), ("unicode/utf8.first", laid_unicode_utf8_first)] }
def SegmentTimesSaid : Prop := segmentTimesRow.holds Tryz.pinned (OpenSpec.ofChange segmentTimesSpec)

/-- ITS FALSE NEIGHBOUR: 'it returns false'. Refute it at one input. -/
def segmentTimesWrong : ChangeSpec := { name := "segmentTimes", fn := fun _ => fun
  | [d1, d2] => { results := [.lit (.bool false)], args := [d1, d2] }
  | _ => none }
def SegmentTimesWrongFalsely : Prop := segmentTimesRow.holds Tryz.pinned (OpenSpec.ofChange segmentTimesWrong)

/-- 'bollardlaw14.SegmentTorn': WHATEVER THE INPUT: true; the input reads as it did. -/
def segmentTornSpec : ChangeSpec := { name := "segmentTorn", fn := fun _ => fun
  | [d1, d2] => { results := [.lit (.bool true)], args := [d1, d2] }
  | _ => none }
def segmentTornRow : OpenClaim := { program := "ythpdeihndjhjfaagreatdoor", sum := "63b7773f04ab511e2237f53329d9bbcb84415dbc9361c004e81d57d84d21ef72", func := "bollard/bollardlaw14.SegmentTorn", spec := "segmentTorn", inPlace := ["internal/bytealg.CountString", "internal/bytealg.IndexByteString", "internal/bytealg.IndexString", "maps.clone"], unfollowed := true, recurses := true, named := ["unicode/utf8.first", "unicode/utf8.acceptRanges", "internal/bytealg.MaxLen"], plainKeys := false, apart := false, laid := [("unicode/utf8.acceptRanges", laid_unicode_utf8_acceptRanges), ("unicode/utf8.first", laid_unicode_utf8_first)] }
def SegmentTornSaid : Prop := segmentTornRow.holds Tryz.pinned (OpenSpec.ofChange segmentTornSpec)

/-- ITS FALSE NEIGHBOUR: 'it returns false'. Refute it at one input. -/
def segmentTornWrong : ChangeSpec := { name := "segmentTorn", fn := fun _ => fun
  | [d1, d2] => { results := [.lit (.bool false)], args := [d1, d2] }
  | _ => none }
def SegmentTornWrongFalsely : Prop := segmentTornRow.holds Tryz.pinned (OpenSpec.ofChange segmentTornWrong)

/-- 'bollardlaw14.SegmentNothing': WHATEVER THE INPUT: true; the input reads as it did. -/
def segmentNothingSpec : ChangeSpec := { name := "segmentNothing", fn := fun _ => fun
  | [d1, d2] => { results := [.lit (.bool true)], args := [d1, d2] }
  | _ => none }
def segmentNothingRow : OpenClaim := { program := "ythpdeihndjhjfaagreatdoor", sum := "63b7773f04ab511e2237f53329d9bbcb84415dbc9361c004e81d57d84d21ef72", func := "bollard/bollardlaw14.SegmentNothing", spec := "segmentNothing", inPlace := ["internal/bytealg.CountString", "internal/bytealg.IndexByteString", "internal/bytealg.IndexString", "maps.clone"], unfollowed := true, recurses := true, named := ["unicode/utf8.first", "unicode/utf8.acceptRanges", "internal/bytealg.MaxLen"], plainKeys := false, apart := false, laid := [("unicode/utf8.acceptRanges", laid_unicode_utf8_acceptRanges), ("unicode/utf8.first", laid_unicode_utf8_first)] }
def SegmentNothingSaid : Prop := segmentNothingRow.holds Tryz.pinned (OpenSpec.ofChange segmentNothingSpec)

/-- ITS FALSE NEIGHBOUR: 'it returns false'. Refute it at one input. -/
def segmentNothingWrong : ChangeSpec := { name := "segmentNothing", fn := fun _ => fun
  | [d1, d2] => { results := [.lit (.bool false)], args := [d1, d2] }
  | _ => none }
def SegmentNothingWrongFalsely : Prop := segmentNothingRow.holds Tryz.pinned (OpenSpec.ofChange segmentNothingWrong)

/- THE SECOND FORM. 'bulk': how many values and letters a reading holds, each counted each time it is reached (what is shared counts as often as it is met; a slice's spare places count too). A statement '..UptoSaid' is the law's where the arguments, and the package variables that the reading takes, are together of bulk at most 1048576: NARROWER than '..Said'. Prove '..Said' where nothing that the law and all that it calls make is longer than what came in: it says more and counts as full. Else prove '..UptoSaid'. A law counts once. -/
mutual
def uptoBulk {H : Type} : DataW H → Nat
  | .lit (.string bytes) => bytes.length + 1
  | .lit _ => 1
  | .nil => 1
  | .ptr d => uptoBulk d + 1
  | .slice elems spare => uptoBulkAll elems + uptoBulkAll spare + 1
  | .agg parts => uptoBulkAll parts + 1
  | .iface _ d => uptoBulk d + 1
  | .map entries => uptoBulkEntries entries + 1
  | .held _ => 1
def uptoBulkAll {H : Type} : List (DataW H) → Nat
  | [] => 0
  | d :: r => uptoBulk d + uptoBulkAll r
def uptoBulkEntries {H : Type} : List (Lit × DataW H) → Nat
  | [] => 0
  | x :: r => uptoBulkEntry x + uptoBulkEntries r
def uptoBulkEntry {H : Type} : Lit × DataW H → Nat
  | (.string bytes, d) => bytes.length + uptoBulk d + 1
  | (_, d) => uptoBulk d + 1
 end
def uptoSmall : (H : Type) → List (DataW H) → Bool := fun _ ds => decide (uptoBulkAll ds ≤ 1048576)
def OpenSpec.upto (s : _root_.Go.ChangeSpec) : _root_.Go.OpenSpec := { _root_.Go.OpenSpec.ofChange s with cond := some uptoSmall }

/-- 'bollardlaw14.SegmentReads', WHERE WHAT IT READS IS OF BULK AT MOST 1048576: true; the input reads as it did. -/
def segmentReadsUptoRow : OpenClaim := { program := "ythpdeihndjhjfaagreatdoor", sum := "63b7773f04ab511e2237f53329d9bbcb84415dbc9361c004e81d57d84d21ef72", func := "bollard/bollardlaw14.SegmentReads", spec := "segmentReads", inPlace := ["internal/bytealg.CountString", "internal/bytealg.IndexByteString", "internal/bytealg.IndexString", "maps.clone"], unfollowed := true, recurses := true, named := ["unicode/utf8.first", "unicode/utf8.acceptRanges", "internal/bytealg.MaxLen"], plainKeys := false, apart := false, laid := [("unicode/utf8.acceptRanges", laid_unicode_utf8_acceptRanges), ("unicode/utf8.first", laid_unicode_utf8_first)], narrowed := true }
def SegmentReadsUptoSaid : Prop := segmentReadsUptoRow.holds Tryz.pinned (OpenSpec.upto segmentReadsSpec)

/-- 'bollardlaw14.SegmentGaps', WHERE WHAT IT READS IS OF BULK AT MOST 1048576: true; the input reads as it did. -/
def segmentGapsUptoRow : OpenClaim := { program := "ythpdeihndjhjfaagreatdoor", sum := "63b7773f04ab511e2237f53329d9bbcb84415dbc9361c004e81d57d84d21ef72", func := "bollard/bollardlaw14.SegmentGaps", spec := "segmentGaps", inPlace := ["internal/bytealg.CountString", "internal/bytealg.IndexByteString", "internal/bytealg.IndexString", "maps.clone"], unfollowed := true, recurses := true, named := ["unicode/utf8.first", "unicode/utf8.acceptRanges", "internal/bytealg.MaxLen"], plainKeys := false, apart := false, laid := [("unicode/utf8.acceptRanges", laid_unicode_utf8_acceptRanges), ("unicode/utf8.first", laid_unicode_utf8_first)], narrowed := true }
def SegmentGapsUptoSaid : Prop := segmentGapsUptoRow.holds Tryz.pinned (OpenSpec.upto segmentGapsSpec)

/-- 'bollardlaw14.SegmentTimes', WHERE WHAT IT READS IS OF BULK AT MOST 1048576: true; the input reads as it did. -/
def segmentTimesUptoRow : OpenClaim := { program := "ythpdeihndjhjfaagreatdoor", sum := "63b7773f04ab511e2237f53329d9bbcb84415dbc9361c004e81d57d84d21ef72", func := "bollard/bollardlaw14.SegmentTimes", spec := "segmentTimes", inPlace := ["internal/bytealg.CountString", "internal/bytealg.IndexByteString", "internal/bytealg.IndexString", "maps.clone"], unfollowed := true, recurses := true, named := ["unicode/utf8.first", "unicode/utf8.acceptRanges", "internal/bytealg.MaxLen"], plainKeys := false, apart := false, laid := [("unicode/utf8.acceptRanges", laid_unicode_utf8_acceptRanges), ("unicode/utf8.first", laid_unicode_utf8_first)], narrowed := true }
def SegmentTimesUptoSaid : Prop := segmentTimesUptoRow.holds Tryz.pinned (OpenSpec.upto segmentTimesSpec)

/-- 'bollardlaw14.SegmentTorn', WHERE WHAT IT READS IS OF BULK AT MOST 1048576: true; the input reads as it did. -/
def segmentTornUptoRow : OpenClaim := { program := "ythpdeihndjhjfaagreatdoor", sum := "63b7773f04ab511e2237f53329d9bbcb84415dbc9361c004e81d57d84d21ef72", func := "bollard/bollardlaw14.SegmentTorn", spec := "segmentTorn", inPlace := ["internal/bytealg.CountString", "internal/bytealg.IndexByteString", "internal/bytealg.IndexString", "maps.clone"], unfollowed := true, recurses := true, named := ["unicode/utf8.first", "unicode/utf8.acceptRanges", "internal/bytealg.MaxLen"], plainKeys := false, apart := false, laid := [("unicode/utf8.acceptRanges", laid_unicode_utf8_acceptRanges), ("unicode/utf8.first", laid_unicode_utf8_first)], narrowed := true }
def SegmentTornUptoSaid : Prop := segmentTornUptoRow.holds Tryz.pinned (OpenSpec.upto segmentTornSpec)

/-- 'bollardlaw14.SegmentNothing', WHERE WHAT IT READS IS OF BULK AT MOST 1048576: true; the input reads as it did. -/
def segmentNothingUptoRow : OpenClaim := { program := "ythpdeihndjhjfaagreatdoor", sum := "63b7773f04ab511e2237f53329d9bbcb84415dbc9361c004e81d57d84d21ef72", func := "bollard/bollardlaw14.SegmentNothing", spec := "segmentNothing", inPlace := ["internal/bytealg.CountString", "internal/bytealg.IndexByteString", "internal/bytealg.IndexString", "maps.clone"], unfollowed := true, recurses := true, named := ["unicode/utf8.first", "unicode/utf8.acceptRanges", "internal/bytealg.MaxLen"], plainKeys := false, apart := false, laid := [("unicode/utf8.acceptRanges", laid_unicode_utf8_acceptRanges), ("unicode/utf8.first", laid_unicode_utf8_first)], narrowed := true }
def SegmentNothingUptoSaid : Prop := segmentNothingUptoRow.holds Tryz.pinned (OpenSpec.upto segmentNothingSpec)

end Rows
end Go.Proofs.YthpdeihndjhjfaaGreatDoor

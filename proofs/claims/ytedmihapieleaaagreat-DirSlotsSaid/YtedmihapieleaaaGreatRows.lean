/-
  No cell of these rows narrows 'for every input' (looked for: loops, veiled, ifaces, maps, wideKeys, modest, calm, conditions, laid).
  DERIVED. THE GIVEN ROWS OF THIS SEAT. 12 by the template 'for every input the law returns true; each argument reads behind the call as it read before'; 0 by the template 'total and deterministic' (their statements: YtedmihapieleaaaGreatTotals.lean).
  GIVEN WITH THE SEED: the statements are not yours to turn. If you find one false, say at which input.
  Laid BY PROGRAM, IN A SANDBOX (cutbox-rows.mjs): the forced cells as the released guide's own fill.sh prints them over the translation 4f83ccfa4dc69e90… (all of the seat's roots in one cut). By AI agents, Wed Nov 11 2026. No macro, syntax, notation, axiom, sorry.
-/
import Derived.Test.YtedmihapieleaaaGreatChecked
import GoSem.Claim
import GoSem.ClaimJoined
import GoSem.ClaimMapViews
import Derived.JoinedTies
import Derived.KernelRfl
namespace Go.Proofs.YtedmihapieleaaaGreat
/- THE CELL 'sum', in the pinned program and in every row, IS THE sha256 OF THE DUMP (.gsa) THAT YtedmihapieleaaaGreatProg.lean LOADS. Nothing in Lean hashes anything: it is a label: what it is worth is what the hold of that sum in a sandbox is worth. -/
noncomputable def Tryz.pinned : Pinned := { name := "ytedmihapieleaaagreat", sum := "4f83ccfa4dc69e903a512bd1c811687f90ac405239056e29f48954bdd7b505ad", checked := Tryz.checked }
namespace Rows
def none {H : Type} : Left H := { results := [], args := [] }

/-- 'bollardlaw8.InodeApart': WHATEVER THE INPUT: true; the input reads as it did. -/
def inodeApartSpec : ChangeSpec := { name := "inodeApart", fn := fun _ => fun
  | [d] => { results := [.lit (.bool true)], args := [d] }
  | _ => none }
def inodeApartRow : OpenClaim := { program := "ytedmihapieleaaagreat", sum := "4f83ccfa4dc69e903a512bd1c811687f90ac405239056e29f48954bdd7b505ad", func := "bollard/bollardlaw8.InodeApart", spec := "inodeApart", unfollowed := true, recurses := true, plainKeys := false, apart := false }
def InodeApartSaid : Prop := inodeApartRow.holds Tryz.pinned (OpenSpec.ofChange inodeApartSpec)

/-- ITS FALSE NEIGHBOUR: 'it returns false'. Refute it at one input. -/
def inodeApartWrong : ChangeSpec := { name := "inodeApart", fn := fun _ => fun
  | [d] => { results := [.lit (.bool false)], args := [d] }
  | _ => none }
def InodeApartWrongFalsely : Prop := inodeApartRow.holds Tryz.pinned (OpenSpec.ofChange inodeApartWrong)

/-- 'bollardlaw8.InodeReads': WHATEVER THE INPUT: true; the input reads as it did. -/
def inodeReadsSpec : ChangeSpec := { name := "inodeReads", fn := fun _ => fun
  | [d1, d2, d3] => { results := [.lit (.bool true)], args := [d1, d2, d3] }
  | _ => none }
def inodeReadsRow : OpenClaim := { program := "ytedmihapieleaaagreat", sum := "4f83ccfa4dc69e903a512bd1c811687f90ac405239056e29f48954bdd7b505ad", func := "bollard/bollardlaw8.InodeReads", spec := "inodeReads", unfollowed := true, recurses := true, plainKeys := false, apart := false }
def InodeReadsSaid : Prop := inodeReadsRow.holds Tryz.pinned (OpenSpec.ofChange inodeReadsSpec)

/-- ITS FALSE NEIGHBOUR: 'it returns false'. Refute it at one input. -/
def inodeReadsWrong : ChangeSpec := { name := "inodeReads", fn := fun _ => fun
  | [d1, d2, d3] => { results := [.lit (.bool false)], args := [d1, d2, d3] }
  | _ => none }
def InodeReadsWrongFalsely : Prop := inodeReadsRow.holds Tryz.pinned (OpenSpec.ofChange inodeReadsWrong)

/-- 'bollardlaw8.InodeRoom': WHATEVER THE INPUT: true; the input reads as it did. -/
def inodeRoomSpec : ChangeSpec := { name := "inodeRoom", fn := fun _ => fun
  | [d] => { results := [.lit (.bool true)], args := [d] }
  | _ => none }
def inodeRoomRow : OpenClaim := { program := "ytedmihapieleaaagreat", sum := "4f83ccfa4dc69e903a512bd1c811687f90ac405239056e29f48954bdd7b505ad", func := "bollard/bollardlaw8.InodeRoom", spec := "inodeRoom", unfollowed := true, recurses := true, plainKeys := false, apart := false }
def InodeRoomSaid : Prop := inodeRoomRow.holds Tryz.pinned (OpenSpec.ofChange inodeRoomSpec)

/-- ITS FALSE NEIGHBOUR: 'it returns false'. Refute it at one input. -/
def inodeRoomWrong : ChangeSpec := { name := "inodeRoom", fn := fun _ => fun
  | [d] => { results := [.lit (.bool false)], args := [d] }
  | _ => none }
def InodeRoomWrongFalsely : Prop := inodeRoomRow.holds Tryz.pinned (OpenSpec.ofChange inodeRoomWrong)

/-- 'bollardlaw8.InodeBytes': WHATEVER THE INPUT: true; the input reads as it did. -/
def inodeBytesSpec : ChangeSpec := { name := "inodeBytes", fn := fun _ => fun
  | [d1, d2, d3, d4] => { results := [.lit (.bool true)], args := [d1, d2, d3, d4] }
  | _ => none }
def inodeBytesRow : OpenClaim := { program := "ytedmihapieleaaagreat", sum := "4f83ccfa4dc69e903a512bd1c811687f90ac405239056e29f48954bdd7b505ad", func := "bollard/bollardlaw8.InodeBytes", spec := "inodeBytes", unfollowed := true, recurses := true, plainKeys := false, apart := false }
def InodeBytesSaid : Prop := inodeBytesRow.holds Tryz.pinned (OpenSpec.ofChange inodeBytesSpec)

/-- ITS FALSE NEIGHBOUR: 'it returns false'. Refute it at one input. -/
def inodeBytesWrong : ChangeSpec := { name := "inodeBytes", fn := fun _ => fun
  | [d1, d2, d3, d4] => { results := [.lit (.bool false)], args := [d1, d2, d3, d4] }
  | _ => none }
def InodeBytesWrongFalsely : Prop := inodeBytesRow.holds Tryz.pinned (OpenSpec.ofChange inodeBytesWrong)

/-- 'bollardlaw8.InodeAgain': WHATEVER THE INPUT: true; the input reads as it did. -/
def inodeAgainSpec : ChangeSpec := { name := "inodeAgain", fn := fun _ => fun
  | [d1, d2] => { results := [.lit (.bool true)], args := [d1, d2] }
  | _ => none }
def inodeAgainRow : OpenClaim := { program := "ytedmihapieleaaagreat", sum := "4f83ccfa4dc69e903a512bd1c811687f90ac405239056e29f48954bdd7b505ad", func := "bollard/bollardlaw8.InodeAgain", spec := "inodeAgain", unfollowed := true, recurses := true, plainKeys := false, apart := false }
def InodeAgainSaid : Prop := inodeAgainRow.holds Tryz.pinned (OpenSpec.ofChange inodeAgainSpec)

/-- ITS FALSE NEIGHBOUR: 'it returns false'. Refute it at one input. -/
def inodeAgainWrong : ChangeSpec := { name := "inodeAgain", fn := fun _ => fun
  | [d1, d2] => { results := [.lit (.bool false)], args := [d1, d2] }
  | _ => none }
def InodeAgainWrongFalsely : Prop := inodeAgainRow.holds Tryz.pinned (OpenSpec.ofChange inodeAgainWrong)

/-- 'bollardlaw8.InodeStates': WHATEVER THE INPUT: true; the input reads as it did. -/
def inodeStatesSpec : ChangeSpec := { name := "inodeStates", fn := fun _ => fun
  | [d1, d2] => { results := [.lit (.bool true)], args := [d1, d2] }
  | _ => none }
def inodeStatesRow : OpenClaim := { program := "ytedmihapieleaaagreat", sum := "4f83ccfa4dc69e903a512bd1c811687f90ac405239056e29f48954bdd7b505ad", func := "bollard/bollardlaw8.InodeStates", spec := "inodeStates", unfollowed := true, recurses := true, plainKeys := false, apart := false }
def InodeStatesSaid : Prop := inodeStatesRow.holds Tryz.pinned (OpenSpec.ofChange inodeStatesSpec)

/-- ITS FALSE NEIGHBOUR: 'it returns false'. Refute it at one input. -/
def inodeStatesWrong : ChangeSpec := { name := "inodeStates", fn := fun _ => fun
  | [d1, d2] => { results := [.lit (.bool false)], args := [d1, d2] }
  | _ => none }
def InodeStatesWrongFalsely : Prop := inodeStatesRow.holds Tryz.pinned (OpenSpec.ofChange inodeStatesWrong)

/-- 'bollardlaw9.DirNames': WHATEVER THE INPUT: true; the input reads as it did. -/
def dirNamesSpec : ChangeSpec := { name := "dirNames", fn := fun _ => fun
  | [d] => { results := [.lit (.bool true)], args := [d] }
  | _ => none }
def dirNamesRow : OpenClaim := { program := "ytedmihapieleaaagreat", sum := "4f83ccfa4dc69e903a512bd1c811687f90ac405239056e29f48954bdd7b505ad", func := "bollard/bollardlaw9.DirNames", spec := "dirNames", inPlace := ["internal/bytealg.IndexByteString", "internal/bytealg.IndexString"], unfollowed := true, recurses := true, named := ["internal/bytealg.MaxLen"], plainKeys := false, apart := false }
def DirNamesSaid : Prop := dirNamesRow.holds Tryz.pinned (OpenSpec.ofChange dirNamesSpec)

/-- ITS FALSE NEIGHBOUR: 'it returns false'. Refute it at one input. -/
def dirNamesWrong : ChangeSpec := { name := "dirNames", fn := fun _ => fun
  | [d] => { results := [.lit (.bool false)], args := [d] }
  | _ => none }
def DirNamesWrongFalsely : Prop := dirNamesRow.holds Tryz.pinned (OpenSpec.ofChange dirNamesWrong)

/-- 'bollardlaw9.DirMoves': WHATEVER THE INPUT: true; the input reads as it did. -/
def dirMovesSpec : ChangeSpec := { name := "dirMoves", fn := fun _ => fun
  | [d1, d2, d3] => { results := [.lit (.bool true)], args := [d1, d2, d3] }
  | _ => none }
def dirMovesRow : OpenClaim := { program := "ytedmihapieleaaagreat", sum := "4f83ccfa4dc69e903a512bd1c811687f90ac405239056e29f48954bdd7b505ad", func := "bollard/bollardlaw9.DirMoves", spec := "dirMoves", inPlace := ["internal/bytealg.IndexByteString", "internal/bytealg.IndexString"], unfollowed := true, recurses := true, named := ["internal/bytealg.MaxLen"], plainKeys := false, apart := false }
def DirMovesSaid : Prop := dirMovesRow.holds Tryz.pinned (OpenSpec.ofChange dirMovesSpec)

/-- ITS FALSE NEIGHBOUR: 'it returns false'. Refute it at one input. -/
def dirMovesWrong : ChangeSpec := { name := "dirMoves", fn := fun _ => fun
  | [d1, d2, d3] => { results := [.lit (.bool false)], args := [d1, d2, d3] }
  | _ => none }
def DirMovesWrongFalsely : Prop := dirMovesRow.holds Tryz.pinned (OpenSpec.ofChange dirMovesWrong)

/-- 'bollardlaw9.DirStates': WHATEVER THE INPUT: true; the input reads as it did. -/
def dirStatesSpec : ChangeSpec := { name := "dirStates", fn := fun _ => fun
  | [d1, d2] => { results := [.lit (.bool true)], args := [d1, d2] }
  | _ => none }
def dirStatesRow : OpenClaim := { program := "ytedmihapieleaaagreat", sum := "4f83ccfa4dc69e903a512bd1c811687f90ac405239056e29f48954bdd7b505ad", func := "bollard/bollardlaw9.DirStates", spec := "dirStates", inPlace := ["internal/bytealg.IndexByteString", "internal/bytealg.IndexString"], unfollowed := true, recurses := true, named := ["internal/bytealg.MaxLen"], plainKeys := false, apart := false }
def DirStatesSaid : Prop := dirStatesRow.holds Tryz.pinned (OpenSpec.ofChange dirStatesSpec)

/-- ITS FALSE NEIGHBOUR: 'it returns false'. Refute it at one input. -/
def dirStatesWrong : ChangeSpec := { name := "dirStates", fn := fun _ => fun
  | [d1, d2] => { results := [.lit (.bool false)], args := [d1, d2] }
  | _ => none }
def DirStatesWrongFalsely : Prop := dirStatesRow.holds Tryz.pinned (OpenSpec.ofChange dirStatesWrong)

/-- 'bollardlaw9.DirMany': WHATEVER THE INPUT: true; the input reads as it did. -/
def dirManySpec : ChangeSpec := { name := "dirMany", fn := fun _ => fun
  | [d1, d2] => { results := [.lit (.bool true)], args := [d1, d2] }
  | _ => none }
def dirManyRow : OpenClaim := { program := "ytedmihapieleaaagreat", sum := "4f83ccfa4dc69e903a512bd1c811687f90ac405239056e29f48954bdd7b505ad", func := "bollard/bollardlaw9.DirMany", spec := "dirMany", inPlace := ["internal/bytealg.IndexByteString", "internal/bytealg.IndexString"], unfollowed := true, recurses := true, named := ["internal/bytealg.MaxLen"], plainKeys := false, apart := false }
def DirManySaid : Prop := dirManyRow.holds Tryz.pinned (OpenSpec.ofChange dirManySpec)

/-- ITS FALSE NEIGHBOUR: 'it returns false'. Refute it at one input. -/
def dirManyWrong : ChangeSpec := { name := "dirMany", fn := fun _ => fun
  | [d1, d2] => { results := [.lit (.bool false)], args := [d1, d2] }
  | _ => none }
def DirManyWrongFalsely : Prop := dirManyRow.holds Tryz.pinned (OpenSpec.ofChange dirManyWrong)

/-- 'bollardlaw9.DirSlots': WHATEVER THE INPUT: true; the input reads as it did. -/
def dirSlotsSpec : ChangeSpec := { name := "dirSlots", fn := fun _ => fun
  | [d] => { results := [.lit (.bool true)], args := [d] }
  | _ => none }
def dirSlotsRow : OpenClaim := { program := "ytedmihapieleaaagreat", sum := "4f83ccfa4dc69e903a512bd1c811687f90ac405239056e29f48954bdd7b505ad", func := "bollard/bollardlaw9.DirSlots", spec := "dirSlots", inPlace := ["internal/bytealg.IndexByteString", "internal/bytealg.IndexString"], unfollowed := true, recurses := true, named := ["internal/bytealg.MaxLen"], plainKeys := false, apart := false }
def DirSlotsSaid : Prop := dirSlotsRow.holds Tryz.pinned (OpenSpec.ofChange dirSlotsSpec)

/-- ITS FALSE NEIGHBOUR: 'it returns false'. Refute it at one input. -/
def dirSlotsWrong : ChangeSpec := { name := "dirSlots", fn := fun _ => fun
  | [d] => { results := [.lit (.bool false)], args := [d] }
  | _ => none }
def DirSlotsWrongFalsely : Prop := dirSlotsRow.holds Tryz.pinned (OpenSpec.ofChange dirSlotsWrong)

/-- 'bollardlaw9.DirKinds': WHATEVER THE INPUT: true; the input reads as it did. -/
def dirKindsSpec : ChangeSpec := { name := "dirKinds", fn := fun _ => fun
  | [d1, d2] => { results := [.lit (.bool true)], args := [d1, d2] }
  | _ => none }
def dirKindsRow : OpenClaim := { program := "ytedmihapieleaaagreat", sum := "4f83ccfa4dc69e903a512bd1c811687f90ac405239056e29f48954bdd7b505ad", func := "bollard/bollardlaw9.DirKinds", spec := "dirKinds", inPlace := ["internal/bytealg.IndexByteString", "internal/bytealg.IndexString"], unfollowed := true, recurses := true, named := ["internal/bytealg.MaxLen"], plainKeys := false, apart := false }
def DirKindsSaid : Prop := dirKindsRow.holds Tryz.pinned (OpenSpec.ofChange dirKindsSpec)

/-- ITS FALSE NEIGHBOUR: 'it returns false'. Refute it at one input. -/
def dirKindsWrong : ChangeSpec := { name := "dirKinds", fn := fun _ => fun
  | [d1, d2] => { results := [.lit (.bool false)], args := [d1, d2] }
  | _ => none }
def DirKindsWrongFalsely : Prop := dirKindsRow.holds Tryz.pinned (OpenSpec.ofChange dirKindsWrong)

/- THE SECOND FORM. 'bulk': how many values and letters a reading holds, each counted each time it is reached (what is shared counts as often as it is met; a slice's spare places count too). A statement '..UptoSaid' is the law's where the arguments, and the package variables that the reading takes, are together of bulk at most 1048576: NARROWER than '..Said'. Prove '..Said' where nothing that the law and all that it calls make is longer than what came in: it says more and counts as full. Else prove '..UptoSaid'. A law counts once. -/
mutual
def uptoBulk {H : Type} : DataW H → Nat
  | .lit (.string bytes) => bytes.length + 1
  | .lit _ => 1
  | .nil => 1
  | .ptr d => uptoBulk d + 1
  | .slice elems spare => uptoBulkAll elems + uptoBulkAll spare + 1
  | .agg parts => uptoBulkAll parts + 1
  | .iface _ d => uptoBulk d + 1
  | .map entries => uptoBulkEntries entries + 1
  | .held _ => 1
def uptoBulkAll {H : Type} : List (DataW H) → Nat
  | [] => 0
  | d :: r => uptoBulk d + uptoBulkAll r
def uptoBulkEntries {H : Type} : List (Lit × DataW H) → Nat
  | [] => 0
  | x :: r => uptoBulkEntry x + uptoBulkEntries r
def uptoBulkEntry {H : Type} : Lit × DataW H → Nat
  | (.string bytes, d) => bytes.length + uptoBulk d + 1
  | (_, d) => uptoBulk d + 1
 end
def uptoSmall : (H : Type) → List (DataW H) → Bool := fun _ ds => decide (uptoBulkAll ds ≤ 1048576)
def OpenSpec.upto (s : _root_.Go.ChangeSpec) : _root_.Go.OpenSpec := { _root_.Go.OpenSpec.ofChange s with cond := some uptoSmall }

/-- 'bollardlaw8.InodeApart', WHERE WHAT IT READS IS OF BULK AT MOST 1048576: true; the input reads as it did. -/
def inodeApartUptoRow : OpenClaim := { program := "ytedmihapieleaaagreat", sum := "4f83ccfa4dc69e903a512bd1c811687f90ac405239056e29f48954bdd7b505ad", func := "bollard/bollardlaw8.InodeApart", spec := "inodeApart", unfollowed := true, recurses := true, plainKeys := false, apart := false, narrowed := true }
def InodeApartUptoSaid : Prop := inodeApartUptoRow.holds Tryz.pinned (OpenSpec.upto inodeApartSpec)

/-- 'bollardlaw8.InodeReads', WHERE WHAT IT READS IS OF BULK AT MOST 1048576: true; the input reads as it did. -/
def inodeReadsUptoRow : OpenClaim := { program := "ytedmihapieleaaagreat", sum := "4f83ccfa4dc69e903a512bd1c811687f90ac405239056e29f48954bdd7b505ad", func := "bollard/bollardlaw8.InodeReads", spec := "inodeReads", unfollowed := true, recurses := true, plainKeys := false, apart := false, narrowed := true }
def InodeReadsUptoSaid : Prop := inodeReadsUptoRow.holds Tryz.pinned (OpenSpec.upto inodeReadsSpec)

/-- 'bollardlaw8.InodeRoom', WHERE WHAT IT READS IS OF BULK AT MOST 1048576: true; the input reads as it did. -/
def inodeRoomUptoRow : OpenClaim := { program := "ytedmihapieleaaagreat", sum := "4f83ccfa4dc69e903a512bd1c811687f90ac405239056e29f48954bdd7b505ad", func := "bollard/bollardlaw8.InodeRoom", spec := "inodeRoom", unfollowed := true, recurses := true, plainKeys := false, apart := false, narrowed := true }
def InodeRoomUptoSaid : Prop := inodeRoomUptoRow.holds Tryz.pinned (OpenSpec.upto inodeRoomSpec)

/-- 'bollardlaw8.InodeBytes', WHERE WHAT IT READS IS OF BULK AT MOST 1048576: true; the input reads as it did. -/
def inodeBytesUptoRow : OpenClaim := { program := "ytedmihapieleaaagreat", sum := "4f83ccfa4dc69e903a512bd1c811687f90ac405239056e29f48954bdd7b505ad", func := "bollard/bollardlaw8.InodeBytes", spec := "inodeBytes", unfollowed := true, recurses := true, plainKeys := false, apart := false, narrowed := true }
def InodeBytesUptoSaid : Prop := inodeBytesUptoRow.holds Tryz.pinned (OpenSpec.upto inodeBytesSpec)

/-- 'bollardlaw8.InodeAgain', WHERE WHAT IT READS IS OF BULK AT MOST 1048576: true; the input reads as it did. -/
def inodeAgainUptoRow : OpenClaim := { program := "ytedmihapieleaaagreat", sum := "4f83ccfa4dc69e903a512bd1c811687f90ac405239056e29f48954bdd7b505ad", func := "bollard/bollardlaw8.InodeAgain", spec := "inodeAgain", unfollowed := true, recurses := true, plainKeys := false, apart := false, narrowed := true }
def InodeAgainUptoSaid : Prop := inodeAgainUptoRow.holds Tryz.pinned (OpenSpec.upto inodeAgainSpec)

/-- 'bollardlaw8.InodeStates', WHERE WHAT IT READS IS OF BULK AT MOST 1048576: true; the input reads as it did. -/
def inodeStatesUptoRow : OpenClaim := { program := "ytedmihapieleaaagreat", sum := "4f83ccfa4dc69e903a512bd1c811687f90ac405239056e29f48954bdd7b505ad", func := "bollard/bollardlaw8.InodeStates", spec := "inodeStates", unfollowed := true, recurses := true, plainKeys := false, apart := false, narrowed := true }
def InodeStatesUptoSaid : Prop := inodeStatesUptoRow.holds Tryz.pinned (OpenSpec.upto inodeStatesSpec)

/-- 'bollardlaw9.DirNames', WHERE WHAT IT READS IS OF BULK AT MOST 1048576: true; the input reads as it did. -/
def dirNamesUptoRow : OpenClaim := { program := "ytedmihapieleaaagreat", sum := "4f83ccfa4dc69e903a512bd1c811687f90ac405239056e29f48954bdd7b505ad", func := "bollard/bollardlaw9.DirNames", spec := "dirNames", inPlace := ["internal/bytealg.IndexByteString", "internal/bytealg.IndexString"], unfollowed := true, recurses := true, named := ["internal/bytealg.MaxLen"], plainKeys := false, apart := false, narrowed := true }
def DirNamesUptoSaid : Prop := dirNamesUptoRow.holds Tryz.pinned (OpenSpec.upto dirNamesSpec)

/-- 'bollardlaw9.DirMoves', WHERE WHAT IT READS IS OF BULK AT MOST 1048576: true; the input reads as it did. -/
def dirMovesUptoRow : OpenClaim := { program := "ytedmihapieleaaagreat", sum := "4f83ccfa4dc69e903a512bd1c811687f90ac405239056e29f48954bdd7b505ad", func := "bollard/bollardlaw9.DirMoves", spec := "dirMoves", inPlace := ["internal/bytealg.IndexByteString", "internal/bytealg.IndexString"], unfollowed := true, recurses := true, named := ["internal/bytealg.MaxLen"], plainKeys := false, apart := false, narrowed := true }
def DirMovesUptoSaid : Prop := dirMovesUptoRow.holds Tryz.pinned (OpenSpec.upto dirMovesSpec)

/-- 'bollardlaw9.DirStates', WHERE WHAT IT READS IS OF BULK AT MOST 1048576: true; the input reads as it did. -/
def dirStatesUptoRow : OpenClaim := { program := "ytedmihapieleaaagreat", sum := "4f83ccfa4dc69e903a512bd1c811687f90ac405239056e29f48954bdd7b505ad", func := "bollard/bollardlaw9.DirStates", spec := "dirStates", inPlace := ["internal/bytealg.IndexByteString", "internal/bytealg.IndexString"], unfollowed := true, recurses := true, named := ["internal/bytealg.MaxLen"], plainKeys := false, apart := false, narrowed := true }
def DirStatesUptoSaid : Prop := dirStatesUptoRow.holds Tryz.pinned (OpenSpec.upto dirStatesSpec)

/-- 'bollardlaw9.DirMany', WHERE WHAT IT READS IS OF BULK AT MOST 1048576: true; the input reads as it did. -/
def dirManyUptoRow : OpenClaim := { program := "ytedmihapieleaaagreat", sum := "4f83ccfa4dc69e903a512bd1c811687f90ac405239056e29f48954bdd7b505ad", func := "bollard/bollardlaw9.DirMany", spec := "dirMany", inPlace := ["internal/bytealg.IndexByteString", "internal/bytealg.IndexString"], unfollowed := true, recurses := true, named := ["internal/bytealg.MaxLen"], plainKeys := false, apart := false, narrowed := true }
def DirManyUptoSaid : Prop := dirManyUptoRow.holds Tryz.pinned (OpenSpec.upto dirManySpec)

/-- 'bollardlaw9.DirSlots', WHERE WHAT IT READS IS OF BULK AT MOST 1048576: true; the input reads as it did. -/
def dirSlotsUptoRow : OpenClaim := { program := "ytedmihapieleaaagreat", sum := "4f83ccfa4dc69e903a512bd1c811687f90ac405239056e29f48954bdd7b505ad", func := "bollard/bollardlaw9.DirSlots", spec := "dirSlots", inPlace := ["internal/bytealg.IndexByteString", "internal/bytealg.IndexString"], unfollowed := true, recurses := true, named := ["internal/bytealg.MaxLen"], plainKeys := false, apart := false, narrowed := true }
def DirSlotsUptoSaid : Prop := dirSlotsUptoRow.holds Tryz.pinned (OpenSpec.upto dirSlotsSpec)

/-- 'bollardlaw9.DirKinds', WHERE WHAT IT READS IS OF BULK AT MOST 1048576: true; the input reads as it did. -/
def dirKindsUptoRow : OpenClaim := { program := "ytedmihapieleaaagreat", sum := "4f83ccfa4dc69e903a512bd1c811687f90ac405239056e29f48954bdd7b505ad", func := "bollard/bollardlaw9.DirKinds", spec := "dirKinds", inPlace := ["internal/bytealg.IndexByteString", "internal/bytealg.IndexString"], unfollowed := true, recurses := true, named := ["internal/bytealg.MaxLen"], plainKeys := false, apart := false, narrowed := true }
def DirKindsUptoSaid : Prop := dirKindsUptoRow.holds Tryz.pinned (OpenSpec.upto dirKindsSpec)

end Rows
end Go.Proofs.YtedmihapieleaaaGreat

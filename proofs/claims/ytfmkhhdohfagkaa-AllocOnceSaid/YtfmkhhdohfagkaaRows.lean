/-
  No cell of these rows narrows 'for every input' (looked for: loops, veiled, ifaces, maps, wideKeys, modest, calm, conditions, laid).
  DERIVED. THE GIVEN ROWS OF THIS SEAT. 4 by the template 'for every input the law returns true; each argument reads behind the call as it read before'; 0 by the template 'total and deterministic' (their statements: YtfmkhhdohfagkaaTotals.lean).
  GIVEN WITH THE SEED: the statements are not yours to turn. If you find one false, say at which input.
  Laid BY PROGRAM, IN A SANDBOX (cutbox-rows.mjs): the forced cells as the released guide's own fill.sh prints them over the translation a3dda92d9d927f13… (all of the seat's roots in one cut). By AI agents, Wed Nov 11 2026. No macro, syntax, notation, axiom, sorry.
-/
import Derived.Test.YtfmkhhdohfagkaaChecked
import GoSem.Claim
import GoSem.ClaimJoined
import GoSem.ClaimMapViews
import Derived.JoinedTies
import Derived.KernelRfl
namespace Go.Proofs.Ytfmkhhdohfagkaa
/- THE CELL 'sum', in the pinned program and in every row, IS THE sha256 OF THE DUMP (.gsa) THAT YtfmkhhdohfagkaaProg.lean LOADS. Nothing in Lean hashes anything: it is a label: what it is worth is what the hold of that sum in a sandbox is worth. -/
noncomputable def Try.pinned : Pinned := { name := "ytfmkhhdohfagkaa", sum := "a3dda92d9d927f13bbbf3addec6bd1592f179611b7771b87e3b901889fa3f721", checked := Try.checked }
namespace Rows
def none {H : Type} : Left H := { results := [], args := [] }

/-- 'bollardlaw7.AllocLeast': WHATEVER THE INPUT: true; the input reads as it did. -/
def allocLeastSpec : ChangeSpec := { name := "allocLeast", fn := fun _ => fun
  | [d] => { results := [.lit (.bool true)], args := [d] }
  | _ => none }
def allocLeastRow : OpenClaim := { program := "ytfmkhhdohfagkaa", sum := "a3dda92d9d927f13bbbf3addec6bd1592f179611b7771b87e3b901889fa3f721", func := "bollard/bollardlaw7.AllocLeast", spec := "allocLeast", unfollowed := true, recurses := true, plainKeys := false, apart := false }
def AllocLeastSaid : Prop := allocLeastRow.holds Try.pinned (OpenSpec.ofChange allocLeastSpec)

/-- ITS FALSE NEIGHBOUR: 'it returns false'. Refute it at one input. -/
def allocLeastWrong : ChangeSpec := { name := "allocLeast", fn := fun _ => fun
  | [d] => { results := [.lit (.bool false)], args := [d] }
  | _ => none }
def AllocLeastWrongFalsely : Prop := allocLeastRow.holds Try.pinned (OpenSpec.ofChange allocLeastWrong)

/-- 'bollardlaw7.AllocOnce': WHATEVER THE INPUT: true; the input reads as it did. -/
def allocOnceSpec : ChangeSpec := { name := "allocOnce", fn := fun _ => fun
  | [d1, d2] => { results := [.lit (.bool true)], args := [d1, d2] }
  | _ => none }
def allocOnceRow : OpenClaim := { program := "ytfmkhhdohfagkaa", sum := "a3dda92d9d927f13bbbf3addec6bd1592f179611b7771b87e3b901889fa3f721", func := "bollard/bollardlaw7.AllocOnce", spec := "allocOnce", unfollowed := true, recurses := true, plainKeys := false, apart := false }
def AllocOnceSaid : Prop := allocOnceRow.holds Try.pinned (OpenSpec.ofChange allocOnceSpec)

/-- ITS FALSE NEIGHBOUR: 'it returns false'. Refute it at one input. -/
def allocOnceWrong : ChangeSpec := { name := "allocOnce", fn := fun _ => fun
  | [d1, d2] => { results := [.lit (.bool false)], args := [d1, d2] }
  | _ => none }
def AllocOnceWrongFalsely : Prop := allocOnceRow.holds Try.pinned (OpenSpec.ofChange allocOnceWrong)

/-- 'bollardlaw7.AllocKept': WHATEVER THE INPUT: true; the input reads as it did. -/
def allocKeptSpec : ChangeSpec := { name := "allocKept", fn := fun _ => fun
  | [d1, d2] => { results := [.lit (.bool true)], args := [d1, d2] }
  | _ => none }
def allocKeptRow : OpenClaim := { program := "ytfmkhhdohfagkaa", sum := "a3dda92d9d927f13bbbf3addec6bd1592f179611b7771b87e3b901889fa3f721", func := "bollard/bollardlaw7.AllocKept", spec := "allocKept", unfollowed := true, recurses := true, plainKeys := false, apart := false }
def AllocKeptSaid : Prop := allocKeptRow.holds Try.pinned (OpenSpec.ofChange allocKeptSpec)

/-- ITS FALSE NEIGHBOUR: 'it returns false'. Refute it at one input. -/
def allocKeptWrong : ChangeSpec := { name := "allocKept", fn := fun _ => fun
  | [d1, d2] => { results := [.lit (.bool false)], args := [d1, d2] }
  | _ => none }
def AllocKeptWrongFalsely : Prop := allocKeptRow.holds Try.pinned (OpenSpec.ofChange allocKeptWrong)

/-- 'bollardlaw7.AllocStates': WHATEVER THE INPUT: true; the input reads as it did. -/
def allocStatesSpec : ChangeSpec := { name := "allocStates", fn := fun _ => fun
  | [d] => { results := [.lit (.bool true)], args := [d] }
  | _ => none }
def allocStatesRow : OpenClaim := { program := "ytfmkhhdohfagkaa", sum := "a3dda92d9d927f13bbbf3addec6bd1592f179611b7771b87e3b901889fa3f721", func := "bollard/bollardlaw7.AllocStates", spec := "allocStates", unfollowed := true, recurses := true, plainKeys := false, apart := false }
def AllocStatesSaid : Prop := allocStatesRow.holds Try.pinned (OpenSpec.ofChange allocStatesSpec)

/-- ITS FALSE NEIGHBOUR: 'it returns false'. Refute it at one input. -/
def allocStatesWrong : ChangeSpec := { name := "allocStates", fn := fun _ => fun
  | [d] => { results := [.lit (.bool false)], args := [d] }
  | _ => none }
def AllocStatesWrongFalsely : Prop := allocStatesRow.holds Try.pinned (OpenSpec.ofChange allocStatesWrong)

/- THE SECOND FORM. 'bulk': how many values and letters a reading holds, each counted each time it is reached (what is shared counts as often as it is met; a slice's spare places count too). A statement '..UptoSaid' is the law's where the arguments, and the package variables that the reading takes, are together of bulk at most 1048576: NARROWER than '..Said'. Prove '..Said' where nothing that the law and all that it calls make is longer than what came in: it says more and counts as full. Else prove '..UptoSaid'. A law counts once. -/
mutual
def uptoBulk {H : Type} : DataW H → Nat
  | .lit (.string bytes) => bytes.length + 1
  | .lit _ => 1
  | .nil => 1
  | .ptr d => uptoBulk d + 1
  | .slice elems spare => uptoBulkAll elems + uptoBulkAll spare + 1
  | .agg parts => uptoBulkAll parts + 1
  | .iface _ d => uptoBulk d + 1
  | .map entries => uptoBulkEntries entries + 1
  | .held _ => 1
def uptoBulkAll {H : Type} : List (DataW H) → Nat
  | [] => 0
  | d :: r => uptoBulk d + uptoBulkAll r
def uptoBulkEntries {H : Type} : List (Lit × DataW H) → Nat
  | [] => 0
  | x :: r => uptoBulkEntry x + uptoBulkEntries r
def uptoBulkEntry {H : Type} : Lit × DataW H → Nat
  | (.string bytes, d) => bytes.length + uptoBulk d + 1
  | (_, d) => uptoBulk d + 1
 end
def uptoSmall : (H : Type) → List (DataW H) → Bool := fun _ ds => decide (uptoBulkAll ds ≤ 1048576)
def OpenSpec.upto (s : _root_.Go.ChangeSpec) : _root_.Go.OpenSpec := { _root_.Go.OpenSpec.ofChange s with cond := some uptoSmall }

/-- 'bollardlaw7.AllocLeast', WHERE WHAT IT READS IS OF BULK AT MOST 1048576: true; the input reads as it did. -/
def allocLeastUptoRow : OpenClaim := { program := "ytfmkhhdohfagkaa", sum := "a3dda92d9d927f13bbbf3addec6bd1592f179611b7771b87e3b901889fa3f721", func := "bollard/bollardlaw7.AllocLeast", spec := "allocLeast", unfollowed := true, recurses := true, plainKeys := false, apart := false, narrowed := true }
def AllocLeastUptoSaid : Prop := allocLeastUptoRow.holds Try.pinned (OpenSpec.upto allocLeastSpec)

/-- 'bollardlaw7.AllocOnce', WHERE WHAT IT READS IS OF BULK AT MOST 1048576: true; the input reads as it did. -/
def allocOnceUptoRow : OpenClaim := { program := "ytfmkhhdohfagkaa", sum := "a3dda92d9d927f13bbbf3addec6bd1592f179611b7771b87e3b901889fa3f721", func := "bollard/bollardlaw7.AllocOnce", spec := "allocOnce", unfollowed := true, recurses := true, plainKeys := false, apart := false, narrowed := true }
def AllocOnceUptoSaid : Prop := allocOnceUptoRow.holds Try.pinned (OpenSpec.upto allocOnceSpec)

/-- 'bollardlaw7.AllocKept', WHERE WHAT IT READS IS OF BULK AT MOST 1048576: true; the input reads as it did. -/
def allocKeptUptoRow : OpenClaim := { program := "ytfmkhhdohfagkaa", sum := "a3dda92d9d927f13bbbf3addec6bd1592f179611b7771b87e3b901889fa3f721", func := "bollard/bollardlaw7.AllocKept", spec := "allocKept", unfollowed := true, recurses := true, plainKeys := false, apart := false, narrowed := true }
def AllocKeptUptoSaid : Prop := allocKeptUptoRow.holds Try.pinned (OpenSpec.upto allocKeptSpec)

/-- 'bollardlaw7.AllocStates', WHERE WHAT IT READS IS OF BULK AT MOST 1048576: true; the input reads as it did. -/
def allocStatesUptoRow : OpenClaim := { program := "ytfmkhhdohfagkaa", sum := "a3dda92d9d927f13bbbf3addec6bd1592f179611b7771b87e3b901889fa3f721", func := "bollard/bollardlaw7.AllocStates", spec := "allocStates", unfollowed := true, recurses := true, plainKeys := false, apart := false, narrowed := true }
def AllocStatesUptoSaid : Prop := allocStatesUptoRow.holds Try.pinned (OpenSpec.upto allocStatesSpec)

end Rows
end Go.Proofs.Ytfmkhhdohfagkaa

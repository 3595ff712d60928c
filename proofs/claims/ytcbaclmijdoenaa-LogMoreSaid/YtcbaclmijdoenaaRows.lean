/-
  No cell of these rows narrows 'for every input' (looked for: loops, veiled, ifaces, maps, wideKeys, modest, calm, conditions, laid).
  DERIVED. THE GIVEN ROWS OF THIS SEAT. 4 by the template 'for every input the law returns true; each argument reads behind the call as it read before'; 0 by the template 'total and deterministic' (their statements: YtcbaclmijdoenaaTotals.lean).
  GIVEN WITH THE SEED: the statements are not yours to turn. If you find one false, say at which input.
  Laid BY PROGRAM, IN A SANDBOX (cutbox-rows.mjs): the forced cells as the released guide's own fill.sh prints them over the translation 80a7b705f842590f… (all of the seat's roots in one cut). By AI agents, Wed Nov 11 2026. No macro, syntax, notation, axiom, sorry.
-/
import Derived.Test.YtcbaclmijdoenaaChecked
import GoSem.Claim
import GoSem.ClaimJoined
import GoSem.ClaimMapViews
import Derived.JoinedTies
import Derived.KernelRfl
namespace Go.Proofs.Ytcbaclmijdoenaa
/- THE CELL 'sum', in the pinned program and in every row, IS THE sha256 OF THE DUMP (.gsa) THAT YtcbaclmijdoenaaProg.lean LOADS. Nothing in Lean hashes anything: it is a label: what it is worth is what the hold of that sum in a sandbox is worth. -/
noncomputable def Try.pinned : Pinned := { name := "ytcbaclmijdoenaa", sum := "80a7b705f842590f006c73f893cde36b4962437efd5b90fa236ca0ee209a3cfe", checked := Try.checked }
namespace Rows
def none {H : Type} : Left H := { results := [], args := [] }

/-- 'broadsidelaw17.LogRuns': WHATEVER THE INPUT: true; the input reads as it did. -/
def logRunsSpec : ChangeSpec := { name := "logRuns", fn := fun _ => fun
  | [] => { results := [.lit (.bool true)], args := [] }
  | _ => none }
def logRunsRow : OpenClaim := { program := "ytcbaclmijdoenaa", sum := "80a7b705f842590f006c73f893cde36b4962437efd5b90fa236ca0ee209a3cfe", func := "broadside/broadsidelaw17.LogRuns", spec := "logRuns", plainKeys := false, apart := false }
def LogRunsSaid : Prop := logRunsRow.holds Try.pinned (OpenSpec.ofChange logRunsSpec)

/-- ITS FALSE NEIGHBOUR: 'it returns false'. Refute it at one input. -/
def logRunsWrong : ChangeSpec := { name := "logRuns", fn := fun _ => fun
  | [] => { results := [.lit (.bool false)], args := [] }
  | _ => none }
def LogRunsWrongFalsely : Prop := logRunsRow.holds Try.pinned (OpenSpec.ofChange logRunsWrong)

/-- 'broadsidelaw17.LogTrees': WHATEVER THE INPUT: true; the input reads as it did. -/
def logTreesSpec : ChangeSpec := { name := "logTrees", fn := fun _ => fun
  | [d1, d2] => { results := [.lit (.bool true)], args := [d1, d2] }
  | _ => none }
def logTreesRow : OpenClaim := { program := "ytcbaclmijdoenaa", sum := "80a7b705f842590f006c73f893cde36b4962437efd5b90fa236ca0ee209a3cfe", func := "broadside/broadsidelaw17.LogTrees", spec := "logTrees", plainKeys := false, apart := false }
def LogTreesSaid : Prop := logTreesRow.holds Try.pinned (OpenSpec.ofChange logTreesSpec)

/-- ITS FALSE NEIGHBOUR: 'it returns false'. Refute it at one input. -/
def logTreesWrong : ChangeSpec := { name := "logTrees", fn := fun _ => fun
  | [d1, d2] => { results := [.lit (.bool false)], args := [d1, d2] }
  | _ => none }
def LogTreesWrongFalsely : Prop := logTreesRow.holds Try.pinned (OpenSpec.ofChange logTreesWrong)

/-- 'broadsidelaw17.LogMore': WHATEVER THE INPUT: true; the input reads as it did. -/
def logMoreSpec : ChangeSpec := { name := "logMore", fn := fun _ => fun
  | [d1, d2] => { results := [.lit (.bool true)], args := [d1, d2] }
  | _ => none }
def logMoreRow : OpenClaim := { program := "ytcbaclmijdoenaa", sum := "80a7b705f842590f006c73f893cde36b4962437efd5b90fa236ca0ee209a3cfe", func := "broadside/broadsidelaw17.LogMore", spec := "logMore", plainKeys := false, apart := false }
def LogMoreSaid : Prop := logMoreRow.holds Try.pinned (OpenSpec.ofChange logMoreSpec)

/-- ITS FALSE NEIGHBOUR: 'it returns false'. Refute it at one input. -/
def logMoreWrong : ChangeSpec := { name := "logMore", fn := fun _ => fun
  | [d1, d2] => { results := [.lit (.bool false)], args := [d1, d2] }
  | _ => none }
def LogMoreWrongFalsely : Prop := logMoreRow.holds Try.pinned (OpenSpec.ofChange logMoreWrong)

/-- 'broadsidelaw17.LogParts': WHATEVER THE INPUT: true; the input reads as it did. -/
def logPartsSpec : ChangeSpec := { name := "logParts", fn := fun _ => fun
  | [d1, d2] => { results := [.lit (.bool true)], args := [d1, d2] }
  | _ => none }
def logPartsRow : OpenClaim := { program := "ytcbaclmijdoenaa", sum := "80a7b705f842590f006c73f893cde36b4962437efd5b90fa236ca0ee209a3cfe", func := "broadside/broadsidelaw17.LogParts", spec := "logParts", plainKeys := false, apart := false }
def LogPartsSaid : Prop := logPartsRow.holds Try.pinned (OpenSpec.ofChange logPartsSpec)

/-- ITS FALSE NEIGHBOUR: 'it returns false'. Refute it at one input. -/
def logPartsWrong : ChangeSpec := { name := "logParts", fn := fun _ => fun
  | [d1, d2] => { results := [.lit (.bool false)], args := [d1, d2] }
  | _ => none }
def LogPartsWrongFalsely : Prop := logPartsRow.holds Try.pinned (OpenSpec.ofChange logPartsWrong)

/- THE SECOND FORM. 'bulk': how many values and letters a reading holds, each counted each time it is reached (what is shared counts as often as it is met; a slice's spare places count too). A statement '..UptoSaid' is the law's where the arguments, and the package variables that the reading takes, are together of bulk at most 1048576: NARROWER than '..Said'. Prove '..Said' where nothing that the law and all that it calls make is longer than what came in: it says more and counts as full. Else prove '..UptoSaid'. A law counts once. -/
mutual
def uptoBulk {H : Type} : DataW H → Nat
  | .lit (.string bytes) => bytes.length + 1
  | .lit _ => 1
  | .nil => 1
  | .ptr d => uptoBulk d + 1
  | .slice elems spare => uptoBulkAll elems + uptoBulkAll spare + 1
  | .agg parts => uptoBulkAll parts + 1
  | .iface _ d => uptoBulk d + 1
  | .map entries => uptoBulkEntries entries + 1
  | .held _ => 1
def uptoBulkAll {H : Type} : List (DataW H) → Nat
  | [] => 0
  | d :: r => uptoBulk d + uptoBulkAll r
def uptoBulkEntries {H : Type} : List (Lit × DataW H) → Nat
  | [] => 0
  | x :: r => uptoBulkEntry x + uptoBulkEntries r
def uptoBulkEntry {H : Type} : Lit × DataW H → Nat
  | (.string bytes, d) => bytes.length + uptoBulk d + 1
  | (_, d) => uptoBulk d + 1
 end
def uptoSmall : (H : Type) → List (DataW H) → Bool := fun _ ds => decide (uptoBulkAll ds ≤ 1048576)
def OpenSpec.upto (s : _root_.Go.ChangeSpec) : _root_.Go.OpenSpec := { _root_.Go.OpenSpec.ofChange s with cond := some uptoSmall }

/-- 'broadsidelaw17.LogRuns', WHERE WHAT IT READS IS OF BULK AT MOST 1048576: true; the input reads as it did. -/
def logRunsUptoRow : OpenClaim := { program := "ytcbaclmijdoenaa", sum := "80a7b705f842590f006c73f893cde36b4962437efd5b90fa236ca0ee209a3cfe", func := "broadside/broadsidelaw17.LogRuns", spec := "logRuns", plainKeys := false, apart := false, narrowed := true }
def LogRunsUptoSaid : Prop := logRunsUptoRow.holds Try.pinned (OpenSpec.upto logRunsSpec)

/-- 'broadsidelaw17.LogTrees', WHERE WHAT IT READS IS OF BULK AT MOST 1048576: true; the input reads as it did. -/
def logTreesUptoRow : OpenClaim := { program := "ytcbaclmijdoenaa", sum := "80a7b705f842590f006c73f893cde36b4962437efd5b90fa236ca0ee209a3cfe", func := "broadside/broadsidelaw17.LogTrees", spec := "logTrees", plainKeys := false, apart := false, narrowed := true }
def LogTreesUptoSaid : Prop := logTreesUptoRow.holds Try.pinned (OpenSpec.upto logTreesSpec)

/-- 'broadsidelaw17.LogMore', WHERE WHAT IT READS IS OF BULK AT MOST 1048576: true; the input reads as it did. -/
def logMoreUptoRow : OpenClaim := { program := "ytcbaclmijdoenaa", sum := "80a7b705f842590f006c73f893cde36b4962437efd5b90fa236ca0ee209a3cfe", func := "broadside/broadsidelaw17.LogMore", spec := "logMore", plainKeys := false, apart := false, narrowed := true }
def LogMoreUptoSaid : Prop := logMoreUptoRow.holds Try.pinned (OpenSpec.upto logMoreSpec)

/-- 'broadsidelaw17.LogParts', WHERE WHAT IT READS IS OF BULK AT MOST 1048576: true; the input reads as it did. -/
def logPartsUptoRow : OpenClaim := { program := "ytcbaclmijdoenaa", sum := "80a7b705f842590f006c73f893cde36b4962437efd5b90fa236ca0ee209a3cfe", func := "broadside/broadsidelaw17.LogParts", spec := "logParts", plainKeys := false, apart := false, narrowed := true }
def LogPartsUptoSaid : Prop := logPartsUptoRow.holds Try.pinned (OpenSpec.upto logPartsSpec)

end Rows
end Go.Proofs.Ytcbaclmijdoenaa

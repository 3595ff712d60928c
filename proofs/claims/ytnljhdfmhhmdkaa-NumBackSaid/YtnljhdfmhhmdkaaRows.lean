/-
  No cell of these rows narrows 'for every input' (looked for: loops, veiled, ifaces, maps, wideKeys, modest, calm, conditions, laid).
  DERIVED. THE GIVEN ROWS OF THIS SEAT. 5 by the template 'for every input the law returns true; each argument reads behind the call as it read before'; 0 by the template 'total and deterministic' (their statements: YtnljhdfmhhmdkaaTotals.lean).
  GIVEN WITH THE SEED: the statements are not yours to turn. If you find one false, say at which input.
  Laid BY PROGRAM, IN A SANDBOX (cutbox-rows.mjs): the forced cells as the released guide's own fill.sh prints them over the translation 6b8d853e3f917eac… (all of the seat's roots in one cut). By AI agents, Wed Nov 11 2026. No macro, syntax, notation, axiom, sorry.
-/
import Derived.Test.YtnljhdfmhhmdkaaChecked
import GoSem.Claim
import GoSem.ClaimJoined
import GoSem.ClaimMapViews
import Derived.JoinedTies
import Derived.KernelRfl
namespace Go.Proofs.Ytnljhdfmhhmdkaa
/- THE CELL 'sum', in the pinned program and in every row, IS THE sha256 OF THE DUMP (.gsa) THAT YtnljhdfmhhmdkaaProg.lean LOADS. Nothing in Lean hashes anything: it is a label: what it is worth is what the hold of that sum in a sandbox is worth. -/
noncomputable def Try.pinned : Pinned := { name := "ytnljhdfmhhmdkaa", sum := "6b8d853e3f917eac6c919ffe461ed639a3725a6ea4ac3d920b4f785d71f17189", checked := Try.checked }
namespace Rows
def none {H : Type} : Left H := { results := [], args := [] }

/-- 'broadsidelaw7.NumRuns': WHATEVER THE INPUT: true; the input reads as it did. -/
def numRunsSpec : ChangeSpec := { name := "numRuns", fn := fun _ => fun
  | [] => { results := [.lit (.bool true)], args := [] }
  | _ => none }
def numRunsRow : OpenClaim := { program := "ytnljhdfmhhmdkaa", sum := "6b8d853e3f917eac6c919ffe461ed639a3725a6ea4ac3d920b4f785d71f17189", func := "broadside/broadsidelaw7.NumRuns", spec := "numRuns", apart := false }
def NumRunsSaid : Prop := numRunsRow.holds Try.pinned (OpenSpec.ofChange numRunsSpec)

/-- ITS FALSE NEIGHBOUR: 'it returns false'. Refute it at one input. -/
def numRunsWrong : ChangeSpec := { name := "numRuns", fn := fun _ => fun
  | [] => { results := [.lit (.bool false)], args := [] }
  | _ => none }
def NumRunsWrongFalsely : Prop := numRunsRow.holds Try.pinned (OpenSpec.ofChange numRunsWrong)

/-- 'broadsidelaw7.NumOrder': WHATEVER THE INPUT: true; the input reads as it did. -/
def numOrderSpec : ChangeSpec := { name := "numOrder", fn := fun _ => fun
  | [d1, d2] => { results := [.lit (.bool true)], args := [d1, d2] }
  | _ => none }
def numOrderRow : OpenClaim := { program := "ytnljhdfmhhmdkaa", sum := "6b8d853e3f917eac6c919ffe461ed639a3725a6ea4ac3d920b4f785d71f17189", func := "broadside/broadsidelaw7.NumOrder", spec := "numOrder", apart := false }
def NumOrderSaid : Prop := numOrderRow.holds Try.pinned (OpenSpec.ofChange numOrderSpec)

/-- ITS FALSE NEIGHBOUR: 'it returns false'. Refute it at one input. -/
def numOrderWrong : ChangeSpec := { name := "numOrder", fn := fun _ => fun
  | [d1, d2] => { results := [.lit (.bool false)], args := [d1, d2] }
  | _ => none }
def NumOrderWrongFalsely : Prop := numOrderRow.holds Try.pinned (OpenSpec.ofChange numOrderWrong)

/-- 'broadsidelaw7.NumMany': WHATEVER THE INPUT: true; the input reads as it did. -/
def numManySpec : ChangeSpec := { name := "numMany", fn := fun _ => fun
  | [d1, d2] => { results := [.lit (.bool true)], args := [d1, d2] }
  | _ => none }
def numManyRow : OpenClaim := { program := "ytnljhdfmhhmdkaa", sum := "6b8d853e3f917eac6c919ffe461ed639a3725a6ea4ac3d920b4f785d71f17189", func := "broadside/broadsidelaw7.NumMany", spec := "numMany", apart := false }
def NumManySaid : Prop := numManyRow.holds Try.pinned (OpenSpec.ofChange numManySpec)

/-- ITS FALSE NEIGHBOUR: 'it returns false'. Refute it at one input. -/
def numManyWrong : ChangeSpec := { name := "numMany", fn := fun _ => fun
  | [d1, d2] => { results := [.lit (.bool false)], args := [d1, d2] }
  | _ => none }
def NumManyWrongFalsely : Prop := numManyRow.holds Try.pinned (OpenSpec.ofChange numManyWrong)

/-- 'broadsidelaw7.NumCuts': WHATEVER THE INPUT: true; the input reads as it did. -/
def numCutsSpec : ChangeSpec := { name := "numCuts", fn := fun _ => fun
  | [d1, d2] => { results := [.lit (.bool true)], args := [d1, d2] }
  | _ => none }
def numCutsRow : OpenClaim := { program := "ytnljhdfmhhmdkaa", sum := "6b8d853e3f917eac6c919ffe461ed639a3725a6ea4ac3d920b4f785d71f17189", func := "broadside/broadsidelaw7.NumCuts", spec := "numCuts", apart := false }
def NumCutsSaid : Prop := numCutsRow.holds Try.pinned (OpenSpec.ofChange numCutsSpec)

/-- ITS FALSE NEIGHBOUR: 'it returns false'. Refute it at one input. -/
def numCutsWrong : ChangeSpec := { name := "numCuts", fn := fun _ => fun
  | [d1, d2] => { results := [.lit (.bool false)], args := [d1, d2] }
  | _ => none }
def NumCutsWrongFalsely : Prop := numCutsRow.holds Try.pinned (OpenSpec.ofChange numCutsWrong)

/-- 'broadsidelaw7.NumBack': WHATEVER THE INPUT: true; the input reads as it did. -/
def numBackSpec : ChangeSpec := { name := "numBack", fn := fun _ => fun
  | [d1, d2, d3, d4, d5, d6, d7] => { results := [.lit (.bool true)], args := [d1, d2, d3, d4, d5, d6, d7] }
  | _ => none }
def numBackRow : OpenClaim := { program := "ytnljhdfmhhmdkaa", sum := "6b8d853e3f917eac6c919ffe461ed639a3725a6ea4ac3d920b4f785d71f17189", func := "broadside/broadsidelaw7.NumBack", spec := "numBack", apart := false }
def NumBackSaid : Prop := numBackRow.holds Try.pinned (OpenSpec.ofChange numBackSpec)

/-- ITS FALSE NEIGHBOUR: 'it returns false'. Refute it at one input. -/
def numBackWrong : ChangeSpec := { name := "numBack", fn := fun _ => fun
  | [d1, d2, d3, d4, d5, d6, d7] => { results := [.lit (.bool false)], args := [d1, d2, d3, d4, d5, d6, d7] }
  | _ => none }
def NumBackWrongFalsely : Prop := numBackRow.holds Try.pinned (OpenSpec.ofChange numBackWrong)

/- THE SECOND FORM. 'bulk': how many values and letters a reading holds, each counted each time it is reached (what is shared counts as often as it is met; a slice's spare places count too). A statement '..UptoSaid' is the law's where the arguments, and the package variables that the reading takes, are together of bulk at most 1048576: NARROWER than '..Said'. Prove '..Said' where nothing that the law and all that it calls make is longer than what came in: it says more and counts as full. Else prove '..UptoSaid'. A law counts once. -/
mutual
def uptoBulk {H : Type} : DataW H → Nat
  | .lit (.string bytes) => bytes.length + 1
  | .lit _ => 1
  | .nil => 1
  | .ptr d => uptoBulk d + 1
  | .slice elems spare => uptoBulkAll elems + uptoBulkAll spare + 1
  | .agg parts => uptoBulkAll parts + 1
  | .iface _ d => uptoBulk d + 1
  | .map entries => uptoBulkEntries entries + 1
  | .held _ => 1
def uptoBulkAll {H : Type} : List (DataW H) → Nat
  | [] => 0
  | d :: r => uptoBulk d + uptoBulkAll r
def uptoBulkEntries {H : Type} : List (Lit × DataW H) → Nat
  | [] => 0
  | x :: r => uptoBulkEntry x + uptoBulkEntries r
def uptoBulkEntry {H : Type} : Lit × DataW H → Nat
  | (.string bytes, d) => bytes.length + uptoBulk d + 1
  | (_, d) => uptoBulk d + 1
 end
def uptoSmall : (H : Type) → List (DataW H) → Bool := fun _ ds => decide (uptoBulkAll ds ≤ 1048576)
def OpenSpec.upto (s : _root_.Go.ChangeSpec) : _root_.Go.OpenSpec := { _root_.Go.OpenSpec.ofChange s with cond := some uptoSmall }

/-- 'broadsidelaw7.NumRuns', WHERE WHAT IT READS IS OF BULK AT MOST 1048576: true; the input reads as it did. -/
def numRunsUptoRow : OpenClaim := { program := "ytnljhdfmhhmdkaa", sum := "6b8d853e3f917eac6c919ffe461ed639a3725a6ea4ac3d920b4f785d71f17189", func := "broadside/broadsidelaw7.NumRuns", spec := "numRuns", apart := false, narrowed := true }
def NumRunsUptoSaid : Prop := numRunsUptoRow.holds Try.pinned (OpenSpec.upto numRunsSpec)

/-- 'broadsidelaw7.NumOrder', WHERE WHAT IT READS IS OF BULK AT MOST 1048576: true; the input reads as it did. -/
def numOrderUptoRow : OpenClaim := { program := "ytnljhdfmhhmdkaa", sum := "6b8d853e3f917eac6c919ffe461ed639a3725a6ea4ac3d920b4f785d71f17189", func := "broadside/broadsidelaw7.NumOrder", spec := "numOrder", apart := false, narrowed := true }
def NumOrderUptoSaid : Prop := numOrderUptoRow.holds Try.pinned (OpenSpec.upto numOrderSpec)

/-- 'broadsidelaw7.NumMany', WHERE WHAT IT READS IS OF BULK AT MOST 1048576: true; the input reads as it did. -/
def numManyUptoRow : OpenClaim := { program := "ytnljhdfmhhmdkaa", sum := "6b8d853e3f917eac6c919ffe461ed639a3725a6ea4ac3d920b4f785d71f17189", func := "broadside/broadsidelaw7.NumMany", spec := "numMany", apart := false, narrowed := true }
def NumManyUptoSaid : Prop := numManyUptoRow.holds Try.pinned (OpenSpec.upto numManySpec)

/-- 'broadsidelaw7.NumCuts', WHERE WHAT IT READS IS OF BULK AT MOST 1048576: true; the input reads as it did. -/
def numCutsUptoRow : OpenClaim := { program := "ytnljhdfmhhmdkaa", sum := "6b8d853e3f917eac6c919ffe461ed639a3725a6ea4ac3d920b4f785d71f17189", func := "broadside/broadsidelaw7.NumCuts", spec := "numCuts", apart := false, narrowed := true }
def NumCutsUptoSaid : Prop := numCutsUptoRow.holds Try.pinned (OpenSpec.upto numCutsSpec)

/-- 'broadsidelaw7.NumBack', WHERE WHAT IT READS IS OF BULK AT MOST 1048576: true; the input reads as it did. -/
def numBackUptoRow : OpenClaim := { program := "ytnljhdfmhhmdkaa", sum := "6b8d853e3f917eac6c919ffe461ed639a3725a6ea4ac3d920b4f785d71f17189", func := "broadside/broadsidelaw7.NumBack", spec := "numBack", apart := false, narrowed := true }
def NumBackUptoSaid : Prop := numBackUptoRow.holds Try.pinned (OpenSpec.upto numBackSpec)

end Rows
end Go.Proofs.Ytnljhdfmhhmdkaa

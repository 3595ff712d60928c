/-
  NARROWER THAN 'FOR EVERY INPUT', by the rows' own cells (each row's printed sentence says how): CodeRuns: laid · CodeKinds: laid · WireRuns: laid · WireTurned: laid · CodeBack: laid · CodeOnly: laid · CodeNumbers: laid · CodeScripts: laid · WireSizes: laid · WireOnly: laid · WireTells: laid.
  DERIVED. THE GIVEN ROWS OF THIS SEAT. 11 by the template 'for every input the law returns true; each argument reads behind the call as it read before'; 0 by the template 'total and deterministic' (their statements: YtbplemhjhpfkgaaDoorTotals.lean).
  GIVEN WITH THE SEED: the statements are not yours to turn. If you find one false, say at which input.
  Laid BY PROGRAM, IN A SANDBOX (cutbox-rows.mjs): the forced cells as the released guide's own fill.sh prints them over the translation 5bf731983a10bd59… (all of the seat's roots in one cut). By AI agents, Wed Nov 11 2026. No macro, syntax, notation, axiom, sorry.
-/
import Derived.Test.YtbplemhjhpfkgaaDoorChecked
import GoSem.Claim
import GoSem.ClaimJoined
import GoSem.ClaimMapViews
import Derived.JoinedTies
import Derived.KernelRfl
namespace Go.Proofs.YtbplemhjhpfkgaaDoor
/- THE CELL 'sum', in the pinned program and in every row, IS THE sha256 OF THE DUMP (.gsa) THAT YtbplemhjhpfkgaaDoorProg.lean LOADS. Nothing in Lean hashes anything: it is a label: what it is worth is what the hold of that sum in a sandbox is worth. -/
noncomputable def Tryd.pinned : Pinned := { name := "ytbplemhjhpfkgaadoor", sum := "5bf731983a10bd5904e5ef6aef0c7714268810e06972bf261cc8b894f837fdcb", checked := Tryd.checked }
namespace Rows
def none {H : Type} : Left H := { results := [], args := [] }

/- WHAT THE LISTED PACKAGE-LEVEL VARIABLES READ AS WHEN THE CALL BEGINS. Each datum BY PROGRAM (the guide's laid-datum.mjs) off the statement by which the dump's own 'gosem.cut.vars' lays the variable. In a bare row this is a premise. The card (YtbplemhjhpfkgaaDoorCards.lean) ties it to the program's text. -/
def laid_errors_errorType {H : Type} : DataW H := .iface "internal/reflectlite.rtype" (.agg [.ptr (.lit (.string [101, 114, 114, 111, 114]))])

/-- 'broadsidelaw23.CodeRuns': WHATEVER THE INPUT: true; the input reads as it did. -/
def codeRunsSpec : ChangeSpec := { name := "codeRuns", fn := fun _ => fun
  | [] => { results := [.lit (.bool true)], args := [] }
  | _ => none }
def codeRunsRow : OpenClaim := { program := "ytbplemhjhpfkgaadoor", sum := "5bf731983a10bd5904e5ef6aef0c7714268810e06972bf261cc8b894f837fdcb", func := "broadside/broadsidelaw23.CodeRuns", spec := "codeRuns", inPlace := ["internal/reflectlite.ValueOf", "(internal/reflectlite.Value).Type", "(internal/reflectlite.Value).IsNil", "internal/reflectlite.TypeOf", "(internal/reflectlite.Value).Elem", "(internal/reflectlite.Value).Set"], unfollowed := true, recurses := true, named := ["errors.errorType"], plainKeys := false, apart := false, laid := [("errors.errorType", laid_errors_errorType)] }
def CodeRunsSaid : Prop := codeRunsRow.holds Tryd.pinned (OpenSpec.ofChange codeRunsSpec)

/-- ITS FALSE NEIGHBOUR: 'it returns false'. Refute it at one input. -/
def codeRunsWrong : ChangeSpec := { name := "codeRuns", fn := fun _ => fun
  | [] => { results := [.lit (.bool false)], args := [] }
  | _ => none }
def CodeRunsWrongFalsely : Prop := codeRunsRow.holds Tryd.pinned (OpenSpec.ofChange codeRunsWrong)

/-- 'broadsidelaw23.CodeKinds': WHATEVER THE INPUT: true; the input reads as it did. -/
def codeKindsSpec : ChangeSpec := { name := "codeKinds", fn := fun _ => fun
  | [d1, d2, d3, d4] => { results := [.lit (.bool true)], args := [d1, d2, d3, d4] }
  | _ => none }
def codeKindsRow : OpenClaim := { program := "ytbplemhjhpfkgaadoor", sum := "5bf731983a10bd5904e5ef6aef0c7714268810e06972bf261cc8b894f837fdcb", func := "broadside/broadsidelaw23.CodeKinds", spec := "codeKinds", inPlace := ["internal/reflectlite.ValueOf", "(internal/reflectlite.Value).Type", "(internal/reflectlite.Value).IsNil", "internal/reflectlite.TypeOf", "(internal/reflectlite.Value).Elem", "(internal/reflectlite.Value).Set"], unfollowed := true, recurses := true, named := ["errors.errorType"], plainKeys := false, apart := false, laid := [("errors.errorType", laid_errors_errorType)] }
def CodeKindsSaid : Prop := codeKindsRow.holds Tryd.pinned (OpenSpec.ofChange codeKindsSpec)

/-- ITS FALSE NEIGHBOUR: 'it returns false'. Refute it at one input. -/
def codeKindsWrong : ChangeSpec := { name := "codeKinds", fn := fun _ => fun
  | [d1, d2, d3, d4] => { results := [.lit (.bool false)], args := [d1, d2, d3, d4] }
  | _ => none }
def CodeKindsWrongFalsely : Prop := codeKindsRow.holds Tryd.pinned (OpenSpec.ofChange codeKindsWrong)

/-- 'broadsidelaw8.WireRuns': WHATEVER THE INPUT: true; the input reads as it did. -/
def wireRunsSpec : ChangeSpec := { name := "wireRuns", fn := fun _ => fun
  | [] => { results := [.lit (.bool true)], args := [] }
  | _ => none }
def wireRunsRow : OpenClaim := { program := "ytbplemhjhpfkgaadoor", sum := "5bf731983a10bd5904e5ef6aef0c7714268810e06972bf261cc8b894f837fdcb", func := "broadside/broadsidelaw8.WireRuns", spec := "wireRuns", inPlace := ["internal/reflectlite.ValueOf", "(internal/reflectlite.Value).Type", "(internal/reflectlite.Value).IsNil", "internal/reflectlite.TypeOf", "(internal/reflectlite.Value).Elem", "(internal/reflectlite.Value).Set"], unfollowed := true, recurses := true, named := ["errors.errorType"], plainKeys := false, apart := false, laid := [("errors.errorType", laid_errors_errorType)] }
def WireRunsSaid : Prop := wireRunsRow.holds Tryd.pinned (OpenSpec.ofChange wireRunsSpec)

/-- ITS FALSE NEIGHBOUR: 'it returns false'. Refute it at one input. -/
def wireRunsWrong : ChangeSpec := { name := "wireRuns", fn := fun _ => fun
  | [] => { results := [.lit (.bool false)], args := [] }
  | _ => none }
def WireRunsWrongFalsely : Prop := wireRunsRow.holds Tryd.pinned (OpenSpec.ofChange wireRunsWrong)

/-- 'broadsidelaw8.WireTurned': WHATEVER THE INPUT: true; the input reads as it did. -/
def wireTurnedSpec : ChangeSpec := { name := "wireTurned", fn := fun _ => fun
  | [d1, d2, d3] => { results := [.lit (.bool true)], args := [d1, d2, d3] }
  | _ => none }
def wireTurnedRow : OpenClaim := { program := "ytbplemhjhpfkgaadoor", sum := "5bf731983a10bd5904e5ef6aef0c7714268810e06972bf261cc8b894f837fdcb", func := "broadside/broadsidelaw8.WireTurned", spec := "wireTurned", inPlace := ["internal/reflectlite.ValueOf", "(internal/reflectlite.Value).Type", "(internal/reflectlite.Value).IsNil", "internal/reflectlite.TypeOf", "(internal/reflectlite.Value).Elem", "(internal/reflectlite.Value).Set"], unfollowed := true, recurses := true, named := ["errors.errorType"], plainKeys := false, apart := false, laid := [("errors.errorType", laid_errors_errorType)] }
def WireTurnedSaid : Prop := wireTurnedRow.holds Tryd.pinned (OpenSpec.ofChange wireTurnedSpec)

/-- ITS FALSE NEIGHBOUR: 'it returns false'. Refute it at one input. -/
def wireTurnedWrong : ChangeSpec := { name := "wireTurned", fn := fun _ => fun
  | [d1, d2, d3] => { results := [.lit (.bool false)], args := [d1, d2, d3] }
  | _ => none }
def WireTurnedWrongFalsely : Prop := wireTurnedRow.holds Tryd.pinned (OpenSpec.ofChange wireTurnedWrong)

/-- 'broadsidelaw23.CodeBack': WHATEVER THE INPUT: true; the input reads as it did. -/
def codeBackSpec : ChangeSpec := { name := "codeBack", fn := fun _ => fun
  | [d1, d2, d3] => { results := [.lit (.bool true)], args := [d1, d2, d3] }
  | _ => none }
def codeBackRow : OpenClaim := { program := "ytbplemhjhpfkgaadoor", sum := "5bf731983a10bd5904e5ef6aef0c7714268810e06972bf261cc8b894f837fdcb", func := "broadside/broadsidelaw23.CodeBack", spec := "codeBack", inPlace := ["internal/reflectlite.ValueOf", "(internal/reflectlite.Value).Type", "(internal/reflectlite.Value).IsNil", "internal/reflectlite.TypeOf", "(internal/reflectlite.Value).Elem", "(internal/reflectlite.Value).Set"], unfollowed := true, recurses := true, named := ["errors.errorType"], plainKeys := false, apart := false, laid := [("errors.errorType", laid_errors_errorType)] }
def CodeBackSaid : Prop := codeBackRow.holds Tryd.pinned (OpenSpec.ofChange codeBackSpec)

/-- ITS FALSE NEIGHBOUR: 'it returns false'. Refute it at one input. -/
def codeBackWrong : ChangeSpec := { name := "codeBack", fn := fun _ => fun
  | [d1, d2, d3] => { results := [.lit (.bool false)], args := [d1, d2, d3] }
  | _ => none }
def CodeBackWrongFalsely : Prop := codeBackRow.holds Tryd.pinned (OpenSpec.ofChange codeBackWrong)

/-- 'broadsidelaw23.CodeOnly': WHATEVER THE INPUT: true; the input reads as it did. -/
def codeOnlySpec : ChangeSpec := { name := "codeOnly", fn := fun _ => fun
  | [d1, d2, d3, d4, d5] => { results := [.lit (.bool true)], args := [d1, d2, d3, d4, d5] }
  | _ => none }
def codeOnlyRow : OpenClaim := { program := "ytbplemhjhpfkgaadoor", sum := "5bf731983a10bd5904e5ef6aef0c7714268810e06972bf261cc8b894f837fdcb", func := "broadside/broadsidelaw23.CodeOnly", spec := "codeOnly", inPlace := ["internal/reflectlite.ValueOf", "(internal/reflectlite.Value).Type", "(internal/reflectlite.Value).IsNil", "internal/reflectlite.TypeOf", "(internal/reflectlite.Value).Elem", "(internal/reflectlite.Value).Set"], unfollowed := true, recurses := true, named := ["errors.errorType"], plainKeys := false, apart := false, laid := [("errors.errorType", laid_errors_errorType)] }
def CodeOnlySaid : Prop := codeOnlyRow.holds Tryd.pinned (OpenSpec.ofChange codeOnlySpec)

/-- ITS FALSE NEIGHBOUR: 'it returns false'. Refute it at one input. -/
def codeOnlyWrong : ChangeSpec := { name := "codeOnly", fn := fun _ => fun
  | [d1, d2, d3, d4, d5] => { results := [.lit (.bool false)], args := [d1, d2, d3, d4, d5] }
  | _ => none }
def CodeOnlyWrongFalsely : Prop := codeOnlyRow.holds Tryd.pinned (OpenSpec.ofChange codeOnlyWrong)

/-- 'broadsidelaw23.CodeNumbers': WHATEVER THE INPUT: true; the input reads as it did. -/
def codeNumbersSpec : ChangeSpec := { name := "codeNumbers", fn := fun _ => fun
  | [d1, d2, d3, d4, d5] => { results := [.lit (.bool true)], args := [d1, d2, d3, d4, d5] }
  | _ => none }
def codeNumbersRow : OpenClaim := { program := "ytbplemhjhpfkgaadoor", sum := "5bf731983a10bd5904e5ef6aef0c7714268810e06972bf261cc8b894f837fdcb", func := "broadside/broadsidelaw23.CodeNumbers", spec := "codeNumbers", inPlace := ["internal/reflectlite.ValueOf", "(internal/reflectlite.Value).Type", "(internal/reflectlite.Value).IsNil", "internal/reflectlite.TypeOf", "(internal/reflectlite.Value).Elem", "(internal/reflectlite.Value).Set"], unfollowed := true, recurses := true, named := ["errors.errorType"], plainKeys := false, apart := false, laid := [("errors.errorType", laid_errors_errorType)] }
def CodeNumbersSaid : Prop := codeNumbersRow.holds Tryd.pinned (OpenSpec.ofChange codeNumbersSpec)

/-- ITS FALSE NEIGHBOUR: 'it returns false'. Refute it at one input. -/
def codeNumbersWrong : ChangeSpec := { name := "codeNumbers", fn := fun _ => fun
  | [d1, d2, d3, d4, d5] => { results := [.lit (.bool false)], args := [d1, d2, d3, d4, d5] }
  | _ => none }
def CodeNumbersWrongFalsely : Prop := codeNumbersRow.holds Tryd.pinned (OpenSpec.ofChange codeNumbersWrong)

/-- 'broadsidelaw23.CodeScripts': WHATEVER THE INPUT: true; the input reads as it did. -/
def codeScriptsSpec : ChangeSpec := { name := "codeScripts", fn := fun _ => fun
  | [d1, d2, d3, d4] => { results := [.lit (.bool true)], args := [d1, d2, d3, d4] }
  | _ => none }
def codeScriptsRow : OpenClaim := { program := "ytbplemhjhpfkgaadoor", sum := "5bf731983a10bd5904e5ef6aef0c7714268810e06972bf261cc8b894f837fdcb", func := "broadside/broadsidelaw23.CodeScripts", spec := "codeScripts", inPlace := ["internal/reflectlite.ValueOf", "(internal/reflectlite.Value).Type", "(internal/reflectlite.Value).IsNil", "internal/reflectlite.TypeOf", "(internal/reflectlite.Value).Elem", "(internal/reflectlite.Value).Set"], unfollowed := true, recurses := true, named := ["errors.errorType"], plainKeys := false, apart := false, laid := [("errors.errorType", laid_errors_errorType)] }
def CodeScriptsSaid : Prop := codeScriptsRow.holds Tryd.pinned (OpenSpec.ofChange codeScriptsSpec)

/-- ITS FALSE NEIGHBOUR: 'it returns false'. Refute it at one input. -/
def codeScriptsWrong : ChangeSpec := { name := "codeScripts", fn := fun _ => fun
  | [d1, d2, d3, d4] => { results := [.lit (.bool false)], args := [d1, d2, d3, d4] }
  | _ => none }
def CodeScriptsWrongFalsely : Prop := codeScriptsRow.holds Tryd.pinned (OpenSpec.ofChange codeScriptsWrong)

/-- 'broadsidelaw8.WireSizes': WHATEVER THE INPUT: true; the input reads as it did. -/
def wireSizesSpec : ChangeSpec := { name := "wireSizes", fn := fun _ => fun
  | [d1, d2, d3] => { results := [.lit (.bool true)], args := [d1, d2, d3] }
  | _ => none }
def wireSizesRow : OpenClaim := { program := "ytbplemhjhpfkgaadoor", sum := "5bf731983a10bd5904e5ef6aef0c7714268810e06972bf261cc8b894f837fdcb", func := "broadside/broadsidelaw8.WireSizes", spec := "wireSizes", inPlace := ["internal/reflectlite.ValueOf", "(internal/reflectlite.Value).Type", "(internal/reflectlite.Value).IsNil", "internal/reflectlite.TypeOf", "(internal/reflectlite.Value).Elem", "(internal/reflectlite.Value).Set"], unfollowed := true, recurses := true, named := ["errors.errorType"], plainKeys := false, apart := false, laid := [("errors.errorType", laid_errors_errorType)] }
def WireSizesSaid : Prop := wireSizesRow.holds Tryd.pinned (OpenSpec.ofChange wireSizesSpec)

/-- ITS FALSE NEIGHBOUR: 'it returns false'. Refute it at one input. -/
def wireSizesWrong : ChangeSpec := { name := "wireSizes", fn := fun _ => fun
  | [d1, d2, d3] => { results := [.lit (.bool false)], args := [d1, d2, d3] }
  | _ => none }
def WireSizesWrongFalsely : Prop := wireSizesRow.holds Tryd.pinned (OpenSpec.ofChange wireSizesWrong)

/-- 'broadsidelaw8.WireOnly': WHATEVER THE INPUT: true; the input reads as it did. -/
def wireOnlySpec : ChangeSpec := { name := "wireOnly", fn := fun _ => fun
  | [d1, d2, d3, d4, d5] => { results := [.lit (.bool true)], args := [d1, d2, d3, d4, d5] }
  | _ => none }
def wireOnlyRow : OpenClaim := { program := "ytbplemhjhpfkgaadoor", sum := "5bf731983a10bd5904e5ef6aef0c7714268810e06972bf261cc8b894f837fdcb", func := "broadside/broadsidelaw8.WireOnly", spec := "wireOnly", inPlace := ["internal/reflectlite.ValueOf", "(internal/reflectlite.Value).Type", "(internal/reflectlite.Value).IsNil", "internal/reflectlite.TypeOf", "(internal/reflectlite.Value).Elem", "(internal/reflectlite.Value).Set"], unfollowed := true, recurses := true, named := ["errors.errorType"], plainKeys := false, apart := false, laid := [("errors.errorType", laid_errors_errorType)] }
def WireOnlySaid : Prop := wireOnlyRow.holds Tryd.pinned (OpenSpec.ofChange wireOnlySpec)

/-- ITS FALSE NEIGHBOUR: 'it returns false'. Refute it at one input. -/
def wireOnlyWrong : ChangeSpec := { name := "wireOnly", fn := fun _ => fun
  | [d1, d2, d3, d4, d5] => { results := [.lit (.bool false)], args := [d1, d2, d3, d4, d5] }
  | _ => none }
def WireOnlyWrongFalsely : Prop := wireOnlyRow.holds Tryd.pinned (OpenSpec.ofChange wireOnlyWrong)

/-- 'broadsidelaw8.WireTells': WHATEVER THE INPUT: true; the input reads as it did. -/
def wireTellsSpec : ChangeSpec := { name := "wireTells", fn := fun _ => fun
  | [d1, d2, d3, d4] => { results := [.lit (.bool true)], args := [d1, d2, d3, d4] }
  | _ => none }
def wireTellsRow : OpenClaim := { program := "ytbplemhjhpfkgaadoor", sum := "5bf731983a10bd5904e5ef6aef0c7714268810e06972bf261cc8b894f837fdcb", func := "broadside/broadsidelaw8.WireTells", spec := "wireTells", inPlace := ["internal/reflectlite.ValueOf", "(internal/reflectlite.Value).Type", "(internal/reflectlite.Value).IsNil", "internal/reflectlite.TypeOf", "(internal/reflectlite.Value).Elem", "(internal/reflectlite.Value).Set"], unfollowed := true, recurses := true, named := ["errors.errorType"], plainKeys := false, apart := false, laid := [("errors.errorType", laid_errors_errorType)] }
def WireTellsSaid : Prop := wireTellsRow.holds Tryd.pinned (OpenSpec.ofChange wireTellsSpec)

/-- ITS FALSE NEIGHBOUR: 'it returns false'. Refute it at one input. -/
def wireTellsWrong : ChangeSpec := { name := "wireTells", fn := fun _ => fun
  | [d1, d2, d3, d4] => { results := [.lit (.bool false)], args := [d1, d2, d3, d4] }
  | _ => none }
def WireTellsWrongFalsely : Prop := wireTellsRow.holds Tryd.pinned (OpenSpec.ofChange wireTellsWrong)

/- THE SECOND FORM. 'bulk': how many values and letters a reading holds, each counted each time it is reached (what is shared counts as often as it is met; a slice's spare places count too). A statement '..UptoSaid' is the law's where the arguments, and the package variables that the reading takes, are together of bulk at most 1048576: NARROWER than '..Said'. Prove '..Said' where nothing that the law and all that it calls make is longer than what came in: it says more and counts as full. Else prove '..UptoSaid'. A law counts once. -/
mutual
def uptoBulk {H : Type} : DataW H → Nat
  | .lit (.string bytes) => bytes.length + 1
  | .lit _ => 1
  | .nil => 1
  | .ptr d => uptoBulk d + 1
  | .slice elems spare => uptoBulkAll elems + uptoBulkAll spare + 1
  | .agg parts => uptoBulkAll parts + 1
  | .iface _ d => uptoBulk d + 1
  | .map entries => uptoBulkEntries entries + 1
  | .held _ => 1
def uptoBulkAll {H : Type} : List (DataW H) → Nat
  | [] => 0
  | d :: r => uptoBulk d + uptoBulkAll r
def uptoBulkEntries {H : Type} : List (Lit × DataW H) → Nat
  | [] => 0
  | x :: r => uptoBulkEntry x + uptoBulkEntries r
def uptoBulkEntry {H : Type} : Lit × DataW H → Nat
  | (.string bytes, d) => bytes.length + uptoBulk d + 1
  | (_, d) => uptoBulk d + 1
 end
def uptoSmall : (H : Type) → List (DataW H) → Bool := fun _ ds => decide (uptoBulkAll ds ≤ 1048576)
def OpenSpec.upto (s : _root_.Go.ChangeSpec) : _root_.Go.OpenSpec := { _root_.Go.OpenSpec.ofChange s with cond := some uptoSmall }

/-- 'broadsidelaw23.CodeRuns', WHERE WHAT IT READS IS OF BULK AT MOST 1048576: true; the input reads as it did. -/
def codeRunsUptoRow : OpenClaim := { program := "ytbplemhjhpfkgaadoor", sum := "5bf731983a10bd5904e5ef6aef0c7714268810e06972bf261cc8b894f837fdcb", func := "broadside/broadsidelaw23.CodeRuns", spec := "codeRuns", inPlace := ["internal/reflectlite.ValueOf", "(internal/reflectlite.Value).Type", "(internal/reflectlite.Value).IsNil", "internal/reflectlite.TypeOf", "(internal/reflectlite.Value).Elem", "(internal/reflectlite.Value).Set"], unfollowed := true, recurses := true, named := ["errors.errorType"], plainKeys := false, apart := false, laid := [("errors.errorType", laid_errors_errorType)], narrowed := true }
def CodeRunsUptoSaid : Prop := codeRunsUptoRow.holds Tryd.pinned (OpenSpec.upto codeRunsSpec)

/-- 'broadsidelaw23.CodeKinds', WHERE WHAT IT READS IS OF BULK AT MOST 1048576: true; the input reads as it did. -/
def codeKindsUptoRow : OpenClaim := { program := "ytbplemhjhpfkgaadoor", sum := "5bf731983a10bd5904e5ef6aef0c7714268810e06972bf261cc8b894f837fdcb", func := "broadside/broadsidelaw23.CodeKinds", spec := "codeKinds", inPlace := ["internal/reflectlite.ValueOf", "(internal/reflectlite.Value).Type", "(internal/reflectlite.Value).IsNil", "internal/reflectlite.TypeOf", "(internal/reflectlite.Value).Elem", "(internal/reflectlite.Value).Set"], unfollowed := true, recurses := true, named := ["errors.errorType"], plainKeys := false, apart := false, laid := [("errors.errorType", laid_errors_errorType)], narrowed := true }
def CodeKindsUptoSaid : Prop := codeKindsUptoRow.holds Tryd.pinned (OpenSpec.upto codeKindsSpec)

/-- 'broadsidelaw8.WireRuns', WHERE WHAT IT READS IS OF BULK AT MOST 1048576: true; the input reads as it did. -/
def wireRunsUptoRow : OpenClaim := { program := "ytbplemhjhpfkgaadoor", sum := "5bf731983a10bd5904e5ef6aef0c7714268810e06972bf261cc8b894f837fdcb", func := "broadside/broadsidelaw8.WireRuns", spec := "wireRuns", inPlace := ["internal/reflectlite.ValueOf", "(internal/reflectlite.Value).Type", "(internal/reflectlite.Value).IsNil", "internal/reflectlite.TypeOf", "(internal/reflectlite.Value).Elem", "(internal/reflectlite.Value).Set"], unfollowed := true, recurses := true, named := ["errors.errorType"], plainKeys := false, apart := false, laid := [("errors.errorType", laid_errors_errorType)], narrowed := true }
def WireRunsUptoSaid : Prop := wireRunsUptoRow.holds Tryd.pinned (OpenSpec.upto wireRunsSpec)

/-- 'broadsidelaw8.WireTurned', WHERE WHAT IT READS IS OF BULK AT MOST 1048576: true; the input reads as it did. -/
def wireTurnedUptoRow : OpenClaim := { program := "ytbplemhjhpfkgaadoor", sum := "5bf731983a10bd5904e5ef6aef0c7714268810e06972bf261cc8b894f837fdcb", func := "broadside/broadsidelaw8.WireTurned", spec := "wireTurned", inPlace := ["internal/reflectlite.ValueOf", "(internal/reflectlite.Value).Type", "(internal/reflectlite.Value).IsNil", "internal/reflectlite.TypeOf", "(internal/reflectlite.Value).Elem", "(internal/reflectlite.Value).Set"], unfollowed := true, recurses := true, named := ["errors.errorType"], plainKeys := false, apart := false, laid := [("errors.errorType", laid_errors_errorType)], narrowed := true }
def WireTurnedUptoSaid : Prop := wireTurnedUptoRow.holds Tryd.pinned (OpenSpec.upto wireTurnedSpec)

/-- 'broadsidelaw23.CodeBack', WHERE WHAT IT READS IS OF BULK AT MOST 1048576: true; the input reads as it did. -/
def codeBackUptoRow : OpenClaim := { program := "ytbplemhjhpfkgaadoor", sum := "5bf731983a10bd5904e5ef6aef0c7714268810e06972bf261cc8b894f837fdcb", func := "broadside/broadsidelaw23.CodeBack", spec := "codeBack", inPlace := ["internal/reflectlite.ValueOf", "(internal/reflectlite.Value).Type", "(internal/reflectlite.Value).IsNil", "internal/reflectlite.TypeOf", "(internal/reflectlite.Value).Elem", "(internal/reflectlite.Value).Set"], unfollowed := true, recurses := true, named := ["errors.errorType"], plainKeys := false, apart := false, laid := [("errors.errorType", laid_errors_errorType)], narrowed := true }
def CodeBackUptoSaid : Prop := codeBackUptoRow.holds Tryd.pinned (OpenSpec.upto codeBackSpec)

/-- 'broadsidelaw23.CodeOnly', WHERE WHAT IT READS IS OF BULK AT MOST 1048576: true; the input reads as it did. -/
def codeOnlyUptoRow : OpenClaim := { program := "ytbplemhjhpfkgaadoor", sum := "5bf731983a10bd5904e5ef6aef0c7714268810e06972bf261cc8b894f837fdcb", func := "broadside/broadsidelaw23.CodeOnly", spec := "codeOnly", inPlace := ["internal/reflectlite.ValueOf", "(internal/reflectlite.Value).Type", "(internal/reflectlite.Value).IsNil", "internal/reflectlite.TypeOf", "(internal/reflectlite.Value).Elem", "(internal/reflectlite.Value).Set"], unfollowed := true, recurses := true, named := ["errors.errorType"], plainKeys := false, apart := false, laid := [("errors.errorType", laid_errors_errorType)], narrowed := true }
def CodeOnlyUptoSaid : Prop := codeOnlyUptoRow.holds Tryd.pinned (OpenSpec.upto codeOnlySpec)

/-- 'broadsidelaw23.CodeNumbers', WHERE WHAT IT READS IS OF BULK AT MOST 1048576: true; the input reads as it did. -/
def codeNumbersUptoRow : OpenClaim := { program := "ytbplemhjhpfkgaadoor", sum := "5bf731983a10bd5904e5ef6aef0c7714268810e06972bf261cc8b894f837fdcb", func := "broadside/broadsidelaw23.CodeNumbers", spec := "codeNumbers", inPlace := ["internal/reflectlite.ValueOf", "(internal/reflectlite.Value).Type", "(internal/reflectlite.Value).IsNil", "internal/reflectlite.TypeOf", "(internal/reflectlite.Value).Elem", "(internal/reflectlite.Value).Set"], unfollowed := true, recurses := true, named := ["errors.errorType"], plainKeys := false, apart := false, laid := [("errors.errorType", laid_errors_errorType)], narrowed := true }
def CodeNumbersUptoSaid : Prop := codeNumbersUptoRow.holds Tryd.pinned (OpenSpec.upto codeNumbersSpec)

/-- 'broadsidelaw23.CodeScripts', WHERE WHAT IT READS IS OF BULK AT MOST 1048576: true; the input reads as it did. -/
def codeScriptsUptoRow : OpenClaim := { program := "ytbplemhjhpfkgaadoor", sum := "5bf731983a10bd5904e5ef6aef0c7714268810e06972bf261cc8b894f837fdcb", func := "broadside/broadsidelaw23.CodeScripts", spec := "codeScripts", inPlace := ["internal/reflectlite.ValueOf", "(internal/reflectlite.Value).Type", "(internal/reflectlite.Value).IsNil", "internal/reflectlite.TypeOf", "(internal/reflectlite.Value).Elem", "(internal/reflectlite.Value).Set"], unfollowed := true, recurses := true, named := ["errors.errorType"], plainKeys := false, apart := false, laid := [("errors.errorType", laid_errors_errorType)], narrowed := true }
def CodeScriptsUptoSaid : Prop := codeScriptsUptoRow.holds Tryd.pinned (OpenSpec.upto codeScriptsSpec)

/-- 'broadsidelaw8.WireSizes', WHERE WHAT IT READS IS OF BULK AT MOST 1048576: true; the input reads as it did. -/
def wireSizesUptoRow : OpenClaim := { program := "ytbplemhjhpfkgaadoor", sum := "5bf731983a10bd5904e5ef6aef0c7714268810e06972bf261cc8b894f837fdcb", func := "broadside/broadsidelaw8.WireSizes", spec := "wireSizes", inPlace := ["internal/reflectlite.ValueOf", "(internal/reflectlite.Value).Type", "(internal/reflectlite.Value).IsNil", "internal/reflectlite.TypeOf", "(internal/reflectlite.Value).Elem", "(internal/reflectlite.Value).Set"], unfollowed := true, recurses := true, named := ["errors.errorType"], plainKeys := false, apart := false, laid := [("errors.errorType", laid_errors_errorType)], narrowed := true }
def WireSizesUptoSaid : Prop := wireSizesUptoRow.holds Tryd.pinned (OpenSpec.upto wireSizesSpec)

/-- 'broadsidelaw8.WireOnly', WHERE WHAT IT READS IS OF BULK AT MOST 1048576: true; the input reads as it did. -/
def wireOnlyUptoRow : OpenClaim := { program := "ytbplemhjhpfkgaadoor", sum := "5bf731983a10bd5904e5ef6aef0c7714268810e06972bf261cc8b894f837fdcb", func := "broadside/broadsidelaw8.WireOnly", spec := "wireOnly", inPlace := ["internal/reflectlite.ValueOf", "(internal/reflectlite.Value).Type", "(internal/reflectlite.Value).IsNil", "internal/reflectlite.TypeOf", "(internal/reflectlite.Value).Elem", "(internal/reflectlite.Value).Set"], unfollowed := true, recurses := true, named := ["errors.errorType"], plainKeys := false, apart := false, laid := [("errors.errorType", laid_errors_errorType)], narrowed := true }
def WireOnlyUptoSaid : Prop := wireOnlyUptoRow.holds Tryd.pinned (OpenSpec.upto wireOnlySpec)

/-- 'broadsidelaw8.WireTells', WHERE WHAT IT READS IS OF BULK AT MOST 1048576: true; the input reads as it did. -/
def wireTellsUptoRow : OpenClaim := { program := "ytbplemhjhpfkgaadoor", sum := "5bf731983a10bd5904e5ef6aef0c7714268810e06972bf261cc8b894f837fdcb", func := "broadside/broadsidelaw8.WireTells", spec := "wireTells", inPlace := ["internal/reflectlite.ValueOf", "(internal/reflectlite.Value).Type", "(internal/reflectlite.Value).IsNil", "internal/reflectlite.TypeOf", "(internal/reflectlite.Value).Elem", "(internal/reflectlite.Value).Set"], unfollowed := true, recurses := true, named := ["errors.errorType"], plainKeys := false, apart := false, laid := [("errors.errorType", laid_errors_errorType)], narrowed := true }
def WireTellsUptoSaid : Prop := wireTellsUptoRow.holds Tryd.pinned (OpenSpec.upto wireTellsSpec)

end Rows
end Go.Proofs.YtbplemhjhpfkgaaDoor

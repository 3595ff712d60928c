/-
  CodeNumbers' walk at the arguments of its row.
-/
import Derived.Test.YtbplemhjhpfkgaaDoorNumbers
import Derived.OpenShut
namespace Go.Proofs.YtbplemhjhpfkgaaDoor.Cd
open Go.RowKit Go.ChangeShapes Go.WideShapes Go.Proofs.YtbplemhjhpfkgaaDoorW.PrintWords Go.Proofs.YtbplemhjhpfkgaaDoorW.PrintLast Go.Proofs.YtbplemhjhpfkgaaDoorW.PrintMore Go.Proofs.YtbplemhjhpfkgaaDoor.Rd
open Go.Proofs.YtbplemhjhpfkgaaDoor.Ft (Door)
set_option linter.unusedVariables false
theorem codeNumbers_law (n m c : Int) (s : ByteArray) (kind : Int) (w : World) (hg : Door w) (hn : (Lit.int .i64 n).wf = true) (hm : (Lit.int .i64 m).wf = true) (hc : (Lit.int .i64 c).wf = true) (hs : s.size ≤ 140737488351232) (hk : (Lit.int .i64 kind).wf = true) :
    Calls Tryd.prog 9 #[.int .i64 n, .int .i64 m, .int .i64 c, .string s, .int .i64 kind] w fun e w' => e = .returned (.bool true) ∧ Below w.heap.size w w' :=
  codeNumbers_calls n m c s kind w hg (bounds_i64 hn) (bounds_i64 hm) (bounds_i64 hc) hs
end Go.Proofs.YtbplemhjhpfkgaaDoor.Cd

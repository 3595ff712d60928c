/-
  CodeBack's walk at the arguments of its row.
-/
import Derived.Test.YtbplemhjhpfkgaaDoorCodeBack
namespace Go.Proofs.YtbplemhjhpfkgaaDoor.Cd
open Go.RowKit Go.Proofs.YtbplemhjhpfkgaaDoorW.PrintWords Go.Proofs.YtbplemhjhpfkgaaDoorW.PrintLast Go.Proofs.YtbplemhjhpfkgaaDoorW.PrintMore Go.Proofs.YtbplemhjhpfkgaaDoor.Rd
open Go.Proofs.YtbplemhjhpfkgaaDoor.Ft (Door)
set_option linter.unusedVariables false
theorem codeBack_law (a b : OpX) (plain : Bool) (w : World) (hg : Door w) (ha : OpIn w a) (hb : OpIn w b) :
    Calls Tryd.prog 7 #[oX a, oX b, .bool plain] w fun e w' => e = .returned (.bool true) ∧ Below w.heap.size w w' :=
  codeBack_calls a b plain w hg ha hb
end Go.Proofs.YtbplemhjhpfkgaaDoor.Cd

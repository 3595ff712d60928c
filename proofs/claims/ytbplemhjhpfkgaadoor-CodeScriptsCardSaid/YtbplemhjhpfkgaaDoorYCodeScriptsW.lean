/-
 CodeScripts' walk at the arguments of its row.
-/
import Derived.Test.YtbplemhjhpfkgaaDoorYCodeScripts
import Derived.Test.YtbplemhjhpfkgaaDoorYPart22
namespace Go.Proofs.YtbplemhjhpfkgaaDoor.Cs
open Go.RowKit YtbplemhjhpfkgaaDoorW.PrintWords YtbplemhjhpfkgaaDoorW.PrintLast YtbplemhjhpfkgaaDoorW.PrintMore Rd
open Go.Proofs.YtbplemhjhpfkgaaDoor.Ft (Door)
theorem codeScripts_law (g : GKey) (x : SopX) (cut bad : Int) (w : World) (hg : Door w) (hx : GKeyIn w g) (hy : SopIn w x) (_ : (Lit.int .i64 cut).wf = true) (_ : (Lit.int .i64 bad).wf = true) :
  Calls Tryd.prog 10 #[gW g, .slice x.A x.l.length x.c, .int .i64 cut, .int .i64 bad] w fun e w' => e = .returned (.bool true) ∧ Below w.heap.size w w' :=
 codeScripts_calls g x.A x.c x.l cut bad w hg hx hy.C hy.i hy.le
end Go.Proofs.YtbplemhjhpfkgaaDoor.Cs

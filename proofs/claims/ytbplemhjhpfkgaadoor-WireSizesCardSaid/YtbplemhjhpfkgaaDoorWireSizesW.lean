/-
  WireSizes' walk at the arguments of its row.
-/
import Derived.Test.YtbplemhjhpfkgaaDoorWireSizes
namespace Go.Proofs.YtbplemhjhpfkgaaDoor.Wr
open Go.RowKit Go.Proofs.YtbplemhjhpfkgaaDoorW.PrintWords Go.Proofs.YtbplemhjhpfkgaaDoorW.PrintLast Go.Proofs.YtbplemhjhpfkgaaDoorW.PrintMore Go.Proofs.YtbplemhjhpfkgaaDoor.Rd
open Go.Proofs.YtbplemhjhpfkgaaDoor.Ft (Door)
theorem wireSizes_law (x y : KeyM) (n : Int) (w : World) (hg : Door w) (hx : KeyIn w x) (hy : KeyIn w y) (_ : (Lit.int .i64 n).wf = true) :
    Calls Tryd.prog 11 #[kW x, kW y, .int .i64 n] w fun e w' => e = .returned (.bool true) ∧ Below w.heap.size w w' :=
  wireSizes_calls x y n w hg hx hy
end Go.Proofs.YtbplemhjhpfkgaaDoor.Wr

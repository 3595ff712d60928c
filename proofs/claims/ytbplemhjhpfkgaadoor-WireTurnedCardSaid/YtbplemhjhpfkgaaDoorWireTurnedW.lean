/-
  WireTurned's walk at the arguments of its row.
-/
import Derived.Test.YtbplemhjhpfkgaaDoorWireTurned
import Derived.Test.YtbplemhjhpfkgaaDoorOpenKey
namespace Go.Proofs.YtbplemhjhpfkgaaDoor.Wr
open Go.RowKit Go.Proofs.YtbplemhjhpfkgaaDoorW.PrintWords Go.Proofs.YtbplemhjhpfkgaaDoorW.PrintLast Go.Proofs.YtbplemhjhpfkgaaDoorW.PrintMore Go.Proofs.YtbplemhjhpfkgaaDoor.Rd
open Go.Proofs.YtbplemhjhpfkgaaDoor.Ft (Door)
theorem wireTurned_law (x : KeyM) (what n : Int) (w : World) (hg : Door w) (hx : KeyIn w x) (_ : (Lit.int .i64 what).wf = true) (_ : (Lit.int .i64 n).wf = true) :
    Calls Tryd.prog 6 #[kW x, .int .i64 what, .int .i64 n] w fun e w' => e = .returned (.bool true) ∧ Below w.heap.size w w' :=
  wireTurned_calls x.a0 x.a1 x.a2 x.a3 x.a4 x.p.A x.p.c x.p.l x.q.A x.q.c x.q.l x.r.A x.r.c x.r.l x.s.A x.s.c x.s.l what n w hg hx.p.C hx.p.le hx.q.C hx.q.le hx.r.C hx.r.le hx.s.C hx.s.le
end Go.Proofs.YtbplemhjhpfkgaaDoor.Wr

/-
  WireOnly's walk at the arguments of its row.
-/
import Derived.Test.YtbplemhjhpfkgaaDoorWireOnly
import Derived.Test.YtbplemhjhpfkgaaDoorOpenKey
import Derived.Test.YtbplemhjhpfkgaaDoorRowAt
namespace Go.Proofs.YtbplemhjhpfkgaaDoor.Wr
open Go.RowKit Go.Proofs.YtbplemhjhpfkgaaDoorW.PrintWords Go.Proofs.YtbplemhjhpfkgaaDoorW.PrintLast Go.Proofs.YtbplemhjhpfkgaaDoorW.PrintMore Go.Proofs.YtbplemhjhpfkgaaDoor.Rd
open Go.Proofs.YtbplemhjhpfkgaaDoor.Ft (Door)
theorem wireOnly_law (x : KeyM) (a1 : Option Addr) (n1 c1 : Nat) (z1 : List Int) (at_ c how : Int) (w : World) (hg : Door w) (hx : KeyIn w x) (h1 : RowAt .u8 w a1 n1 c1 z1) (_ : n1 * 1 ≤ 140737488351232) (_ : (Lit.int .i64 at_).wf = true) (h3 : (Lit.int .u8 c).wf = true) (_ : (Lit.int .i64 how).wf = true) :
    Calls Tryd.prog 12 #[kW x, .slice a1 n1 c1, .int .i64 at_, .int .u8 c, .int .i64 how] w fun e w' => e = .returned (.bool true) ∧ Below w.heap.size w w' := by
  obtain ⟨x1, rfl, k1, l1, _, v1⟩ := h1.use
  have hc := bounds_u8 h3
  exact wireOnly_calls x.a0 x.a1 x.a2 x.a3 x.a4 x.p.A x.p.c x.p.l x.q.A x.q.c x.q.l x.r.A x.r.c x.r.l x.s.A x.s.c x.s.l a1 c1 x1 at_ c how w hg hx.p.C hx.p.le hx.q.C hx.q.le hx.r.C hx.r.le hx.s.C hx.s.le k1 (byt_wf v1) l1 (by omega)
end Go.Proofs.YtbplemhjhpfkgaaDoor.Wr

/-
  CodeOnly's walk at the arguments of its row.
-/
import Derived.Test.YtbplemhjhpfkgaaDoorCodeOnly
namespace Go.Proofs.YtbplemhjhpfkgaaDoor.Cd
open Go.RowKit Go.ChangeShapes Go.WideShapes Go.Proofs.YtbplemhjhpfkgaaDoorW.PrintWords Go.Proofs.YtbplemhjhpfkgaaDoorW.PrintLast Go.Proofs.YtbplemhjhpfkgaaDoorW.PrintMore Go.Proofs.YtbplemhjhpfkgaaDoor.Rd
open Go.Proofs.YtbplemhjhpfkgaaDoor.Ft (Door)
set_option linter.unusedVariables false
/-- A row of whole numbers as a law's row lays it. -/
abbrev RowIs (k : IntKind) (w : World) (a : Option Addr) (len cap : Nat) (zs : List Int) : Prop :=
  (a = none ∧ len = 0 ∧ cap = 0 ∧ zs = []) ∨
  ∃ x, a = some x ∧ len ≤ cap ∧ cap ≤ maxLen ∧ zs.length = cap ∧ (∀ i, i < zs.length → w.cell? (x.add i) = some (.int k (zs.getD i 0))) ∧ ∀ n ∈ zs, (Lit.int k n).wf = true
theorem RowIs.use {k : IntKind} {w : World} {a : Option Addr} {len cap : Nat} {zs : List Int} (h : RowIs k w a len cap zs) :
    ∃ xs : List Int, len = xs.length ∧ Kd.C (Kd.int k) w a xs.length xs ∧ xs.length ≤ cap ∧ ∀ x ∈ xs, (Lit.int k x).wf = true := by
  rcases h with ⟨rfl, rfl, rfl, rfl⟩ | ⟨x, rfl, hl, hm, hz, hc, hw⟩
  · exact ⟨[], rfl, ⟨rfl, by simp, fun h => absurd h (by simp)⟩, by simp, fun x hx => by cases hx⟩
  · have e : (zs.take len).length = len := by rw [List.length_take]; omega
    have hm' : cap ≤ 9223372036854775807 := hm
    refine ⟨zs.take len, e.symm, ?_, by omega, fun y hy => hw y (List.mem_of_mem_take hy)⟩
    rw [e]
    refine Kd.C_of_reads (d := (0 : Int)) (h1 := fun _ => rfl) ⟨e, by omega, fun _ => ⟨x, rfl, fun j hj => ?_⟩⟩
    rw [hc j (by omega)]
    simp [List.getD_eq_getElem?_getD, hj]
theorem codeOnly_law (x : OpX) (a1 : Option Addr) (n1 c1 : Nat) (z1 : List Int) (at_ c how : Int) (w : World) (hg : Door w) (hx : OpIn w x) (h1 : RowIs .u8 w a1 n1 c1 z1) (y1 : n1 * 1 ≤ 140737488351232) (h2 : (Lit.int .i64 at_).wf = true) (h3 : (Lit.int .u8 c).wf = true) (h4 : (Lit.int .i64 how).wf = true) :
    Calls Tryd.prog 8 #[oX x, .slice a1 n1 c1, .int .i64 at_, .int .u8 c, .int .i64 how] w fun e w' => e = .returned (.bool true) ∧ Below w.heap.size w w' := by
  obtain ⟨xs, rfl, k1, l1, v1⟩ := h1.use
  have hc := bounds_u8 h3
  exact codeOnly_calls x a1 c1 xs at_ c how w hg hx k1 (fun y hy => by have := bounds_u8 (v1 y hy); constructor <;> omega) l1 ⟨by omega, by omega⟩
end Go.Proofs.YtbplemhjhpfkgaaDoor.Cd

/-
  CodeKinds' walk at the arguments of its row.
-/
import Derived.Test.YtbplemhjhpfkgaaDoorCodeKinds
namespace Go.Proofs.YtbplemhjhpfkgaaDoor.Cd
open Go.RowKit Go.Proofs.YtbplemhjhpfkgaaDoorW.PrintWords Go.Proofs.YtbplemhjhpfkgaaDoorW.PrintLast Go.Proofs.YtbplemhjhpfkgaaDoorW.PrintMore Go.Proofs.YtbplemhjhpfkgaaDoor.Rd
open Go.Proofs.YtbplemhjhpfkgaaDoor.Ft (Door)
set_option linter.unusedVariables false
/-- A row of whole numbers as a law's row lays it. -/
abbrev RowAt (k : IntKind) (w : World) (a : Option Addr) (len cap : Nat) (zs : List Int) : Prop :=
  (a = none ∧ len = 0 ∧ cap = 0 ∧ zs = []) ∨
  ∃ x, a = some x ∧ len ≤ cap ∧ cap ≤ maxLen ∧ zs.length = cap ∧ (∀ i, i < zs.length → w.cell? (x.add i) = some (.int k (zs.getD i 0))) ∧ ∀ n ∈ zs, (Lit.int k n).wf = true
theorem RowAt.use {k : IntKind} {w : World} {a : Option Addr} {len cap : Nat} {zs : List Int} (h : RowAt k w a len cap zs) :
    ∃ xs : List Int, len = xs.length ∧ Kd.C (Kd.int k) w a xs.length xs ∧ xs.length ≤ cap ∧ cap ≤ 9223372036854775807 ∧ ∀ x ∈ xs, (Lit.int k x).wf = true := by
  rcases h with ⟨rfl, rfl, rfl, rfl⟩ | ⟨x, rfl, hl, hm, hz, hc, hw⟩
  · exact ⟨[], rfl, ⟨rfl, by simp, fun h => absurd h (by simp)⟩, by simp, by omega, fun x hx => by cases hx⟩
  · have e : (zs.take len).length = len := by rw [List.length_take]; omega
    have hm' : cap ≤ 9223372036854775807 := hm
    refine ⟨zs.take len, e.symm, ?_, by omega, hm', fun y hy => hw y (List.mem_of_mem_take hy)⟩
    rw [e]
    refine Kd.C_of_reads (d := (0 : Int)) (h1 := fun _ => rfl) ⟨e, by omega, fun _ => ⟨x, rfl, fun j hj => ?_⟩⟩
    rw [hc j (by omega)]
    simp [List.getD_eq_getElem?_getD, hj]
theorem byt_wf {xs : List Int} (h : ∀ x ∈ xs, (Lit.int .u8 x).wf = true) : Byt xs := by
  intro x hx
  have := h x hx
  simp [Lit.wf, IntKind.min, IntKind.max, IntKind.bits, IntKind.signed] at this
  omega
theorem codeKinds_law (n : Int) (a1 : Option Addr) (n1 c1 : Nat) (z1 : List Int) (a2 : Option Addr) (n2 c2 : Nat) (z2 : List Int) (a3 : Option Addr) (n3 c3 : Nat) (z3 : List Int) (a4 : Option Addr) (n4 c4 : Nat) (z4 : List Int) (a5 : Option Addr) (n5 c5 : Nat) (z5 : List Int) (w : World) (hg : Door w)
    (h0 : (Lit.int .i64 n).wf = true) (h1 : RowAt .u8 w a1 n1 c1 z1) (y1 : n1 * 1 ≤ 140737488351232) (h2 : RowAt .i64 w a2 n2 c2 z2) (h3 : RowAt .i64 w a3 n3 c3 z3) (h4 : RowAt .i64 w a4 n4 c4 z4) (h5 : RowAt .i64 w a5 n5 c5 z5) :
    Calls Tryd.prog 4 #[.int .i64 n, .slice a1 n1 c1, .agg #[.slice a2 n2 c2, .slice a3 n3 c3], .agg #[.slice a4 n4 c4, .slice a5 n5 c5]] w fun e w' => e = .returned (.bool true) ∧ Below w.heap.size w w' := by
  obtain ⟨x1, rfl, k1, l1, m1, v1⟩ := h1.use
  obtain ⟨x2, rfl, k2, l2, m2, v2⟩ := h2.use
  obtain ⟨x3, rfl, k3, l3, m3, v3⟩ := h3.use
  obtain ⟨x4, rfl, k4, l4, m4, v4⟩ := h4.use
  obtain ⟨x5, rfl, k5, l5, m5, v5⟩ := h5.use
  exact codeKinds_calls n a1 c1 x1 a2 c2 x2 a3 c3 x3 a4 c4 x4 a5 c5 x5 w hg k1 (byt_wf v1) l1 m1 k2 l2 k3 l3 k4 l4 k5 l5
end Go.Proofs.YtbplemhjhpfkgaaDoor.Cd

/-
 The numbers of which a message is made, as they come in.
-/
import Derived.Test.YtbplemhjhpfkgaaDoorZWirePure
import Derived.Deep.Slices
import Derived.OpenShut
import Derived.ChangeArms
import Derived.Lib.SmallJoins
namespace Go.Proofs.YtbplemhjhpfkgaaDoor.Wr
open Go.ChangeShapes Go.WideShapes Go.RowKit YtbplemhjhpfkgaaDoorW.PrintWords YtbplemhjhpfkgaaDoorW.PrintLast YtbplemhjhpfkgaaDoorW.PrintMore Rd
set_option linter.unusedVariables false
set_option linter.unusedSimpArgs false
set_option maxRecDepth 100000
structure RowX where
 A : Option Addr
 c : Nat
 l : List Int
structure KeyM where
 a0 : Int
 a1 : Int
 a2 : Int
 a3 : Int
 a4 : Int
 p : RowX
 q : RowX
 r : RowX
 s : RowX
abbrev kW (x : KeyM) : Value := .agg #[.int .i64 x.a0, .int .i64 x.a1, .int .i64 x.a2, .int .i64 x.a3, .int .i64 x.a4, .slice x.p.A x.p.l.length x.p.c, .slice x.q.A x.q.l.length x.q.c, .slice x.r.A x.r.l.length x.r.c, .slice x.s.A x.s.l.length x.s.c]
structure RowIn (w : World) (x : RowX) : Prop where
 C : Kd.C (Kd.int .i64) w x.A x.l.length x.l
 le : x.l.length ≤ x.c
structure KeyIn (w : World) (x : KeyM) : Prop where
 p : RowIn w x.p
 q : RowIn w x.q
 r : RowIn w x.r
 s : RowIn w x.s
section
variable {H : Type} {enc : TypeId × Value → H} {w : World} {base : Nat} {spare : Nat → Bool} {held : Bool}
theorem listedK {α : Type} {R : Nat → α → Prop} : ∀ n, (∀ i, i < n → ∃ y, R i y) → ∃ xs : List α, xs.length = n ∧ ∀ i y, xs[i]? = some y → R i y
 | 0, _ => ⟨[], rfl, by simp⟩
 | n + 1, h => by
  obtain ⟨xs, hl, hx⟩ := listedK n (fun i hi => h i (by omega)); obtain ⟨y, hy⟩ := h n (by omega); refine ⟨xs ++ [y], by simp [hl], fun i z hz => ?_⟩
  by_cases hi : i < xs.length
  ·rw [List.getElem?_append_left hi] at hz; exact hx i z hz
  ·rw [List.getElem?_append_right (by omega)] at hz; rcases hk : i - xs.length with _ | k
   ·rw [hk] at hz; obtain rfl : y = z := by simpa using hz
    obtain rfl : i = n := by omega
    exact hy
   ·rw [hk] at hz; simp at hz
theorem open_rowK {fuel : Nat} {cs : List Value} {x : DataW H × List MemPlace} (h : DataW.trod enc Tryd.prog w base spare held fuel 34 cs = some x) :
  ∃ y : RowX, cs = [.slice y.A y.l.length y.c] ∧ RowIn w y := by
 rcases Go.Deep.open_slice Tryd.underlying34 h with ⟨rfl, _⟩ | ⟨a, len, cap, m, n, D, Pl, rfl, hb, hle, hm, hmm, _, hx⟩
 ·exact ⟨⟨none, 0, []⟩, rfl, ⟨⟨rfl, by simp, fun h => absurd h (by simp)⟩, by simp⟩⟩
 ·have hlm : len ≤ m := by rw [hmm]; split <;> omega
  obtain ⟨xs, hxl, hxs⟩ := listedK (R := fun i (y : Int) => w.cells? base (a.add (i * 1)) 1 = some [Value.int .i64 y]) len (fun i hi => by
   obtain ⟨cs', h1, h2⟩ := hx i (by omega); obtain ⟨k1, e1, _, w1⟩ := DataW.trod_int Tryd.underlying3 h2; subst e1; rw [show Tryd.prog.cellsOf 3 = 1 by kernel_rfl] at h1; exact ⟨k1, h1⟩)
  subst hxl; have hm' : cap ≤ 9223372036854775807 := hm; refine ⟨⟨some a, cap, xs⟩, rfl, ⟨⟨rfl, by show xs.length ≤ _; omega, fun _ => ⟨a, rfl, fun i y hy => ⟨[Value.int .i64 y], rfl, rfl, fun j u hu => ?_⟩⟩⟩, hle⟩⟩; have hc := hxs i y hy; obtain ⟨_, hlen, hcell⟩ := World.cells?_some hc; have hj : j < 1 := by simpa using (List.getElem?_eq_some_iff.1 hu).1
  have := hcell j hj; rw [add_add] at this; exact this.trans hu
theorem open_twoK {fuel : Nat} {t : TypeId} {f0 f1 : Field} {cs : List Value} {x : DataW H × List MemPlace} (hs : Tryd.prog.underlying t = some (.struct #[f0, f1])) (h0 : f0.type = 34 ∧ f0.offset = 0) (h1 : f1.type = 34 ∧ f1.offset = 1) (hC : Tryd.prog.cellsOf t = 2) (h : DataW.trod enc Tryd.prog w base spare held fuel t cs = some x) :
  ∃ y z : RowX, cs = [.slice y.A y.l.length y.c, .slice z.A z.l.length z.c] ∧ RowIn w y ∧ RowIn w z := by
 obtain ⟨ys, n, _, _, hl, hlen, hf⟩ := DataW.trod_struct hs h; rw [hC] at hl; have g0 := hf 0 f0 rfl; have g1 := hf 1 f1 rfl
 match ys, hlen, cs, hl with
 | [y0, y1], _, [v0, v1], _ =>
  simp [h0.1, h0.2, h1.1, h1.2, show Tryd.prog.cellsOf 34 = 1 by kernel_rfl] at g0 g1
  obtain ⟨r0, e0, k0⟩ := open_rowK g0; obtain ⟨r1, e1, k1⟩ := open_rowK g1; simp at e0 e1; subst e0 e1; exact ⟨r0, r1, rfl, k0, k1⟩
theorem open_key {r : Reach} {b0 : Nat} {v : Value} {d : DataW H} {p : List MemPlace} (hv : Value.okWide Tryd.prog w r b0 53 v) (h : DataW.Trod enc Tryd.prog w base spare held 53 v d p) :
  ∃ x : KeyM, v = kW x ∧ KeyIn w x := by
 obtain ⟨cs, rfl, hsz⟩ := okWide_struct Tryd.underlying53 hv; rw [show Tryd.prog.cellsOf 53 = 9 by kernel_rfl] at hsz; obtain ⟨l⟩ := cs; obtain ⟨fuel, hf0⟩ := h; obtain ⟨ys, n, _, _, hl, hlen, hf⟩ := DataW.trod_struct Tryd.underlying53 hf0; have g0 := hf 0 _ rfl; have g1 := hf 1 _ rfl; have g2 := hf 2 _ rfl; have g3 := hf 3 _ rfl; have g4 := hf 4 _ rfl; have g5 := hf 5 _ rfl; have g6 := hf 6 _ rfl
 match l, hsz, ys, hlen with
 | [c0, c1, c2, c3, c4, c5, c6, c7, c8], _, [y0, y1, y2, y3, y4, y5, y6], _ =>
  simp [Value.cells, show Tryd.prog.cellsOf 3 = 1 by kernel_rfl, show Tryd.prog.cellsOf 36 = 2 by kernel_rfl, show Tryd.prog.cellsOf 37 = 2 by kernel_rfl] at g0 g1 g2 g3 g4 g5 g6
  obtain ⟨k0, e0, _, w0⟩ := DataW.trod_int Tryd.underlying3 g0; obtain ⟨k1, e1, _, w1⟩ := DataW.trod_int Tryd.underlying3 g1; obtain ⟨k2, e2, _, w2⟩ := DataW.trod_int Tryd.underlying3 g2; obtain ⟨k3, e3, _, w3⟩ := DataW.trod_int Tryd.underlying3 g3; obtain ⟨k4, e4, _, w4⟩ := DataW.trod_int Tryd.underlying3 g4; obtain ⟨x5, x6, e5, i5, i6⟩ := open_twoK Tryd.underlying36 ⟨rfl, rfl⟩ ⟨rfl, rfl⟩ (by kernel_rfl) g5; obtain ⟨x7, x8, e7, i7, i8⟩ := open_twoK Tryd.underlying37 ⟨rfl, rfl⟩ ⟨rfl, rfl⟩ (by kernel_rfl) g6; simp at e0 e1 e2 e3 e4 e5 e7; obtain ⟨e5, e6⟩ := e5; obtain ⟨e7, e8⟩ := e7; subst e0 e1 e2 e3 e4 e5 e6 e7 e8; exact ⟨⟨k0, k1, k2, k3, k4, x5, x6, x7, x8⟩, rfl, ⟨i5, i6, i7, i8⟩⟩
end
end Go.Proofs.YtbplemhjhpfkgaaDoor.Wr

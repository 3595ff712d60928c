/-
  An operation that comes in, opened: its fields, where its lists lie.
-/
import Derived.Test.YtbplemhjhpfkgaaDoorOpRow
import Derived.Test.YtbplemhjhpfkgaaDoorRound
import Derived.Deep.Slices
import Derived.OpenShut
import Derived.ChangeArms
import Derived.Lib.SmallJoins
namespace Go.Proofs.YtbplemhjhpfkgaaDoor.Cd
open Go.ChangeShapes Go.WideShapes Go.RowKit Go.Proofs.YtbplemhjhpfkgaaDoorW.PrintWords Go.Proofs.YtbplemhjhpfkgaaDoorW.PrintLast Go.Proofs.YtbplemhjhpfkgaaDoorW.PrintMore Go.Proofs.YtbplemhjhpfkgaaDoor.Rd
set_option linter.unusedVariables false
set_option linter.unusedSimpArgs false
set_option maxRecDepth 100000
section
variable {H : Type} {enc : TypeId × Value → H} {w : World} {base : Nat} {spare : Nat → Bool} {held : Bool}
theorem listed {α : Type} {R : Nat → α → Prop} : ∀ n, (∀ i, i < n → ∃ y, R i y) → ∃ xs : List α, xs.length = n ∧ ∀ i y, xs[i]? = some y → R i y
  | 0, _ => ⟨[], rfl, by simp⟩
  | n + 1, h => by
    obtain ⟨xs, hl, hx⟩ := listed n (fun i hi => h i (by omega))
    obtain ⟨y, hy⟩ := h n (by omega)
    refine ⟨xs ++ [y], by simp [hl], fun i z hz => ?_⟩
    by_cases hi : i < xs.length
    · rw [List.getElem?_append_left hi] at hz
      exact hx i z hz
    · rw [List.getElem?_append_right (by omega)] at hz
      rcases hk : i - xs.length with _ | k
      · rw [hk] at hz
        obtain rfl : y = z := by simpa using hz
        obtain rfl : i = n := by omega
        exact hy
      · rw [hk] at hz
        simp at hz
theorem open_flat {α : Type} {en : α → List Value} {sz : Nat} {hl : ∀ x, (en x).length = sz} {h1 : ∀ x u, u ∈ en x → u.oneCell' = true} {Q : α → Prop} {t e : TypeId} {fuel : Nat} {cs : List Value} {x : DataW H × List MemPlace}
    (ht : Tryd.prog.underlying t = some (.slice e)) (hce : Tryd.prog.cellsOf e = sz) (hE : ∀ fuel cs x, DataW.trod enc Tryd.prog w base spare held fuel e cs = some x → ∃ y, cs = en y ∧ Q y) (h : DataW.trod enc Tryd.prog w base spare held fuel t cs = some x) :
    ∃ (A : Option Addr) (c : Nat) (xs : List α), cs = [.slice A xs.length c] ∧ xs.length ≤ c ∧ c ≤ maxLen ∧ Kd.C (flat sz en hl h1) w A xs.length xs ∧ ∀ y ∈ xs, Q y := by
  rcases Go.Deep.open_slice ht h with ⟨rfl, _⟩ | ⟨a, len, cap, m, n, D, Pl, rfl, hb, hle, hm, hmm, _, hx⟩
  · exact ⟨none, 0, [], rfl, by simp, by simp, ⟨rfl, by simp, fun h => absurd h (by simp)⟩, fun y hy => by cases hy⟩
  · have hlm : len ≤ m := by rw [hmm]; split <;> omega
    obtain ⟨xs, hxl, hxs⟩ := listed (R := fun i (y : α) => w.cells? base (a.add (i * sz)) sz = some (en y) ∧ Q y) len (fun i hi => by
      obtain ⟨cs', h1, h2⟩ := hx i (by omega)
      obtain ⟨y, rfl, hq⟩ := hE _ _ _ h2
      rw [hce] at h1
      exact ⟨y, h1, hq⟩)
    subst hxl
    have hm' : cap ≤ 9223372036854775807 := hm
    refine ⟨some a, cap, xs, rfl, hle, hm, ⟨rfl, by omega, fun _ => ⟨a, rfl, fun i y hy => ⟨en y, hl y, rfl, fun j u hu => ?_⟩⟩⟩, fun y hy => ?_⟩
    · obtain ⟨hc, _⟩ := hxs i y hy
      obtain ⟨_, hlen, hcell⟩ := World.cells?_some hc
      have hj : j < sz := by rw [← hl y]; exact (List.getElem?_eq_some_iff.1 hu).1
      have := hcell j hj
      rw [add_add] at this
      exact this.trans hu
    · obtain ⟨i, hi⟩ := List.getElem?_of_mem hy
      exact (hxs i y hi).2
theorem cellsStr : Tryd.prog.cellsOf 9 = 1 := by kernel_rfl
theorem cellsInt : Tryd.prog.cellsOf 3 = 1 := by kernel_rfl
theorem cellsBool : Tryd.prog.cellsOf 4 = 1 := by kernel_rfl
theorem open_coE {fuel : Nat} {cs : List Value} {x : DataW H × List MemPlace} (h : DataW.trod enc Tryd.prog w base spare held fuel 44 cs = some x) :
    ∃ y : Co, cs = [.string y.1, .int .i64 y.2.1, .int .i64 y.2.2.1, .int .i64 y.2.2.2.1, .string y.2.2.2.2] ∧ InI64 y.2.1 ∧ WfC y := by
  obtain ⟨ys, n, _, _, hl, hlen, hf⟩ := DataW.trod_struct Tryd.underlying44 h
  rw [show Tryd.prog.cellsOf 44 = 5 by kernel_rfl] at hl
  have g0 := hf 0 _ rfl
  have g1 := hf 1 _ rfl
  have g2 := hf 2 _ rfl
  have g3 := hf 3 _ rfl
  have g4 := hf 4 _ rfl
  match ys, hlen, cs, hl with
  | [y0, y1, y2, y3, y4], _, [v0, v1, v2, v3, v4], _ =>
    simp [cellsStr, cellsInt] at g0 g1 g2 g3 g4
    obtain ⟨s0, e0, _, _⟩ := DataW.trod_string Tryd.underlying9 g0
    obtain ⟨k1, e1, _, w1⟩ := DataW.trod_int Tryd.underlying3 g1
    obtain ⟨k2, e2, _, w2⟩ := DataW.trod_int Tryd.underlying3 g2
    obtain ⟨k3, e3, _, w3⟩ := DataW.trod_int Tryd.underlying3 g3
    obtain ⟨s4, e4, _, _⟩ := DataW.trod_string Tryd.underlying9 g4
    simp at e0 e1 e2 e3 e4
    subst e0 e1 e2 e3 e4
    exact ⟨(s0, k1, k2, k3, s4), rfl, bounds_i64 w1, bounds_i64 w2, bounds_i64 w3⟩
theorem open_atE {fuel : Nat} {cs : List Value} {x : DataW H × List MemPlace} (h : DataW.trod enc Tryd.prog w base spare held fuel 59 cs = some x) :
    ∃ y : At, cs = [.string y.1, .bool y.2.1, .int .i64 y.2.2.1, .string y.2.2.2] ∧ WfA y := by
  obtain ⟨ys, n, _, _, hl, hlen, hf⟩ := DataW.trod_struct Tryd.underlying59 h
  rw [show Tryd.prog.cellsOf 59 = 4 by kernel_rfl] at hl
  have g0 := hf 0 _ rfl
  have g1 := hf 1 _ rfl
  match ys, hlen, cs, hl with
  | [y0, y1], _, [v0, v1, v2, v3], _ =>
    simp [cellsStr, show Tryd.prog.cellsOf 57 = 3 by kernel_rfl] at g0 g1
    obtain ⟨s0, e0, _, _⟩ := DataW.trod_string Tryd.underlying9 g0
    obtain ⟨zs, n2, _, _, hl2, hlen2, hf2⟩ := DataW.trod_struct Tryd.underlying57 g1
    have k0 := hf2 0 _ rfl
    have k1 := hf2 1 _ rfl
    have k2 := hf2 2 _ rfl
    match zs, hlen2 with
    | [z0, z1, z2], _ =>
      simp [cellsStr, cellsInt, cellsBool] at k0 k1 k2
      obtain ⟨b1, e1, _⟩ := DataW.trod_bool Tryd.underlying4 k0
      obtain ⟨m2, e2, _, w2⟩ := DataW.trod_int Tryd.underlying3 k1
      obtain ⟨s3, e3, _, _⟩ := DataW.trod_string Tryd.underlying9 k2
      simp at e0 e1 e2 e3
      subst e0 e1 e2 e3
      exact ⟨(s0, b1, m2, s3), rfl, bounds_i64 w2⟩
theorem open_byE {fuel : Nat} {cs : List Value} {x : DataW H × List MemPlace} (h : DataW.trod enc Tryd.prog w base spare held fuel 5 cs = some x) :
    ∃ y : Int, cs = [.int .u8 y] ∧ 0 ≤ y ∧ y < 256 := by
  obtain ⟨k1, e1, _, w1⟩ := DataW.trod_int Tryd.underlying5 h
  have := bounds_u8 w1
  exact ⟨k1, e1, by omega, by omega⟩
/-- What is known of an operation that comes in. -/
structure OpIn (w : World) (x : OpX) : Prop where
  lies : LiesX w x
  byt : Byt x.1.r
  wf : WfD x.1
  kinds : ∀ y ∈ x.1.p, InI64 y.2.1
  kind : InI64 x.1.k
  lens : x.1.p.length ≤ x.2.1.2 ∧ x.1.s.length ≤ x.2.2.1.2 ∧ x.1.r.length ≤ x.2.2.2.2
  caps : x.2.1.2 ≤ maxLen ∧ x.2.2.1.2 ≤ maxLen ∧ x.2.2.2.2 ≤ maxLen
/-- The operation itself. -/
theorem open_op {r : Reach} {b0 : Nat} {v : Value} {d : DataW H} {p : List MemPlace} (hv : Value.okWide Tryd.prog w r b0 30 v) (h : DataW.Trod enc Tryd.prog w base spare held 30 v d p) :
    ∃ x : OpX, v = oX x ∧ OpIn w x := by
  obtain ⟨cs, rfl, hsz⟩ := okWide_struct Tryd.underlying30 hv
  rw [show Tryd.prog.cellsOf 30 = 9 by kernel_rfl] at hsz
  obtain ⟨l⟩ := cs
  obtain ⟨fuel, hf0⟩ := h
  obtain ⟨ys, n, _, _, hl, hlen, hf⟩ := DataW.trod_struct Tryd.underlying30 hf0
  have g0 := hf 0 _ rfl
  have g1 := hf 1 _ rfl
  have g2 := hf 2 _ rfl
  have g3 := hf 3 _ rfl
  have g4 := hf 4 _ rfl
  have g5 := hf 5 _ rfl
  have g6 := hf 6 _ rfl
  have g7 := hf 7 _ rfl
  have g8 := hf 8 _ rfl
  match l, hsz, ys, hlen with
  | [c0, c1, c2, c3, c4, c5, c6, c7, c8], _, [y0, y1, y2, y3, y4, y5, y6, y7, y8], _ =>
    simp [Value.cells, cellsInt, show Tryd.prog.cellsOf 27 = 1 by kernel_rfl, show Tryd.prog.cellsOf 28 = 1 by kernel_rfl, show Tryd.prog.cellsOf 22 = 1 by kernel_rfl] at g0 g1 g2 g3 g4 g5 g6 g7 g8
    obtain ⟨k0, e0, _, w0⟩ := DataW.trod_int Tryd.underlying3 g0
    obtain ⟨k1, e1, _, w1⟩ := DataW.trod_int Tryd.underlying3 g1
    obtain ⟨k2, e2, _, w2⟩ := DataW.trod_int Tryd.underlying3 g2
    obtain ⟨k3, e3, _, w3⟩ := DataW.trod_int Tryd.underlying3 g3
    obtain ⟨k4, e4, _, w4⟩ := DataW.trod_int Tryd.underlying3 g4
    obtain ⟨k5, e5, _, w5⟩ := DataW.trod_int Tryd.underlying3 g5
    obtain ⟨A6, m6, xs6, e6, l6, q6, hC6, hQ6⟩ := open_flat (en := fun x : Co => [.string x.1, .int .i64 x.2.1, .int .i64 x.2.2.1, .int .i64 x.2.2.2.1, .string x.2.2.2.2]) (sz := 5) (hl := fun _ => rfl) (h1 := by intro x u hu; simp at hu; rcases hu with rfl | rfl | rfl | rfl | rfl <;> rfl) (Q := fun y => InI64 y.2.1 ∧ WfC y) Tryd.underlying27 (by kernel_rfl) (fun _ _ _ h => open_coE h) g6
    obtain ⟨A7, m7, xs7, e7, l7, q7, hC7, hQ7⟩ := open_flat (en := fun x : At => [.string x.1, .bool x.2.1, .int .i64 x.2.2.1, .string x.2.2.2]) (sz := 4) (hl := fun _ => rfl) (h1 := by intro x u hu; simp at hu; rcases hu with rfl | rfl | rfl | rfl <;> rfl) (Q := WfA) Tryd.underlying28 (by kernel_rfl) (fun _ _ _ h => open_atE h) g7
    obtain ⟨A8, m8, xs8, e8, l8, q8, hC8, hQ8⟩ := open_flat (en := fun y : Int => [.int .u8 y]) (sz := 1) (hl := fun _ => rfl) (h1 := by intro x u hu; simp at hu; subst hu; rfl) (Q := fun y => 0 ≤ y ∧ y < 256) Tryd.underlying22 (by kernel_rfl) (fun _ _ _ h => open_byE h) g8
    simp at e0 e1 e2 e3 e4 e5 e6 e7 e8
    subst e0 e1 e2 e3 e4 e5 e6 e7 e8
    exact ⟨(⟨k0, k1, k2, k3, k4, k5, xs6, xs7, xs8⟩, (A6, m6), (A7, m7), (A8, m8)), rfl, ⟨⟨hC6, hC7, hC8⟩, fun y hy => hQ8 y hy, ⟨bounds_i64 w1, bounds_i64 w2, bounds_i64 w3, bounds_i64 w4, bounds_i64 w5, fun y hy => (hQ6 y hy).2, hQ7⟩, fun y hy => (hQ6 y hy).1, bounds_i64 w0, ⟨l6, l7, l8⟩, ⟨q6, q7, q8⟩⟩⟩
end
end Go.Proofs.YtbplemhjhpfkgaaDoor.Cd

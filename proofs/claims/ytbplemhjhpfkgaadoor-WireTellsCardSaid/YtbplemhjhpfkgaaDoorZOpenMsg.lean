/-
 A raw message that comes in, opened: its fields, where its lists lie.
-/
import Derived.Test.YtbplemhjhpfkgaaDoorZOpenKey
import Derived.Test.YtbplemhjhpfkgaaDoorZMsgPure
namespace Go.Proofs.YtbplemhjhpfkgaaDoor.Wr
open Go.ChangeShapes Go.WideShapes Go.RowKit YtbplemhjhpfkgaaDoorW.PrintWords YtbplemhjhpfkgaaDoorW.PrintLast YtbplemhjhpfkgaaDoorW.PrintMore Rd
open Go.Proofs.YtbplemhjhpfkgaaDoor.Cd (Co At kCo kAt at_Co at_At flat)
set_option linter.unusedVariables false
set_option linter.unusedSimpArgs false
set_option maxRecDepth 100000
theorem sm_max {s : ByteArray} (h : s.size ≤ maxLen) : Sm s := h
section
variable {H : Type} {enc : TypeId × Value → H} {w : World} {base : Nat} {spare : Nat → Bool} {held : Bool}
theorem open_flatM {α : Type} {en : α → List Value} {sz : Nat} {hl : ∀ x, (en x).length = sz} {h1 : ∀ x u, u ∈ en x → u.oneCell' = true} {Q : α → Prop} {t e : TypeId} {fuel : Nat} {cs : List Value} {x : DataW H × List MemPlace}
  (ht : Tryd.prog.underlying t = some (.slice e)) (hce : Tryd.prog.cellsOf e = sz) (hE : ∀ fuel cs x, DataW.trod enc Tryd.prog w base spare held fuel e cs = some x → ∃ y, cs = en y ∧ Q y) (h : DataW.trod enc Tryd.prog w base spare held fuel t cs = some x) :
  ∃ (A : Option Addr) (c : Nat) (xs : List α), cs = [.slice A xs.length c] ∧ xs.length ≤ c ∧ c ≤ maxLen ∧ Kd.C (flat sz en hl h1) w A xs.length xs ∧ ∀ y ∈ xs, Q y := by
 rcases Go.Deep.open_slice ht h with ⟨rfl, _⟩ | ⟨a, len, cap, m, n, D, Pl, rfl, hb, hle, hm, hmm, _, hx⟩
 ·exact ⟨none, 0, [], rfl, by simp, by simp, ⟨rfl, by simp, fun h => absurd h (by simp)⟩, fun y hy => by cases hy⟩
 ·have hlm : len ≤ m := by rw [hmm]; split <;> omega
  obtain ⟨xs, hxl, hxs⟩ := listedK (R := fun i (y : α) => w.cells? base (a.add (i * sz)) sz = some (en y) ∧ Q y) len (fun i hi => by
   obtain ⟨cs', h1, h2⟩ := hx i (by omega); obtain ⟨y, rfl, hq⟩ := hE _ _ _ h2; rw [hce] at h1; exact ⟨y, h1, hq⟩)
  subst hxl; have hm' : cap ≤ 9223372036854775807 := hm; refine ⟨some a, cap, xs, rfl, hle, hm, ⟨rfl, by omega, fun _ => ⟨a, rfl, fun i y hy => ⟨en y, hl y, rfl, fun j u hu => ?_⟩⟩⟩, fun y hy => ?_⟩
  ·obtain ⟨hc, _⟩ := hxs i y hy; obtain ⟨_, hlen, hcell⟩ := World.cells?_some hc; have hj : j < sz := by rw [← hl y]; exact (List.getElem?_eq_some_iff.1 hu).1
   have := hcell j hj; rw [add_add] at this; exact this.trans hu
  ·obtain ⟨i, hi⟩ := List.getElem?_of_mem hy; exact (hxs i y hi).2
theorem cellsStrM : Tryd.prog.cellsOf 9 = 1 := by kernel_rfl
theorem cellsIntM : Tryd.prog.cellsOf 3 = 1 := by kernel_rfl
theorem cellsBoolM : Tryd.prog.cellsOf 4 = 1 := by kernel_rfl
theorem open_coM {fuel : Nat} {cs : List Value} {x : DataW H × List MemPlace} (h : DataW.trod enc Tryd.prog w base spare held fuel 44 cs = some x) :
  ∃ y : Co, cs = [.string y.1, .int .i64 y.2.1, .int .i64 y.2.2.1, .int .i64 y.2.2.2.1, .string y.2.2.2.2] ∧ Sm y.1 ∧ (InI64 y.2.2.1 ∧ InI64 y.2.2.2.1) := by
 obtain ⟨ys, n, _, _, hl, hlen, hf⟩ := DataW.trod_struct Tryd.underlying44 h; rw [show Tryd.prog.cellsOf 44 = 5 by kernel_rfl] at hl; have g0 := hf 0 _ rfl; have g1 := hf 1 _ rfl; have g2 := hf 2 _ rfl; have g3 := hf 3 _ rfl; have g4 := hf 4 _ rfl
 match ys, hlen, cs, hl with
 | [y0, y1, y2, y3, y4], _, [v0, v1, v2, v3, v4], _ =>
  simp [cellsStrM, cellsIntM] at g0 g1 g2 g3 g4
  obtain ⟨s0, e0, _, hz0⟩ := DataW.trod_string Tryd.underlying9 g0; obtain ⟨k1, e1, _, w1⟩ := DataW.trod_int Tryd.underlying3 g1; obtain ⟨k2, e2, _, w2⟩ := DataW.trod_int Tryd.underlying3 g2; obtain ⟨k3, e3, _, w3⟩ := DataW.trod_int Tryd.underlying3 g3; obtain ⟨s4, e4, _, _⟩ := DataW.trod_string Tryd.underlying9 g4; simp at e0 e1 e2 e3 e4; subst e0 e1 e2 e3 e4; exact ⟨(s0, k1, k2, k3, s4), rfl, sm_max hz0, bounds_i64 w2, bounds_i64 w3⟩
theorem open_atM {fuel : Nat} {cs : List Value} {x : DataW H × List MemPlace} (h : DataW.trod enc Tryd.prog w base spare held fuel 59 cs = some x) :
  ∃ y : At, cs = [.string y.1, .bool y.2.1, .int .i64 y.2.2.1, .string y.2.2.2] ∧ Sm y.1 ∧ InI64 y.2.2.1 := by
 obtain ⟨ys, n, _, _, hl, hlen, hf⟩ := DataW.trod_struct Tryd.underlying59 h; rw [show Tryd.prog.cellsOf 59 = 4 by kernel_rfl] at hl; have g0 := hf 0 _ rfl; have g1 := hf 1 _ rfl
 match ys, hlen, cs, hl with
 | [y0, y1], _, [v0, v1, v2, v3], _ =>
  simp [cellsStrM, show Tryd.prog.cellsOf 57 = 3 by kernel_rfl] at g0 g1
  obtain ⟨s0, e0, _, hz0⟩ := DataW.trod_string Tryd.underlying9 g0; obtain ⟨zs, n2, _, _, hl2, hlen2, hf2⟩ := DataW.trod_struct Tryd.underlying57 g1; have k0 := hf2 0 _ rfl; have k1 := hf2 1 _ rfl; have k2 := hf2 2 _ rfl
  match zs, hlen2 with
  | [z0, z1, z2], _ =>
   simp [cellsStrM, cellsIntM, cellsBoolM] at k0 k1 k2
   obtain ⟨b1, e1, _⟩ := DataW.trod_bool Tryd.underlying4 k0; obtain ⟨m2, e2, _, w2⟩ := DataW.trod_int Tryd.underlying3 k1; obtain ⟨s3, e3, _, _⟩ := DataW.trod_string Tryd.underlying9 k2; simp at e0 e1 e2 e3; subst e0 e1 e2 e3; exact ⟨(s0, b1, m2, s3), rfl, sm_max hz0, bounds_i64 w2⟩
structure MsgX where
 m : MsgD
 A5 : Option Addr
 c5 : Nat
 A6 : Option Addr
 c6 : Nat
structure MsgIn (w : World) (x : MsgX) : Prop where
 lies : LiesM w x.m x.A5 x.A6
 l5 : x.m.p.length ≤ x.c5
 l6 : x.m.s.length ≤ x.c6
 sm : SmM x.m
 wf : WfM x.m
theorem cellsID : Tryd.prog.cellsOf 48 = 2 := by kernel_rfl
theorem open_idM {fuel : Nat} {cs : List Value} {x : DataW H × List MemPlace} (h : DataW.trod enc Tryd.prog w base spare held fuel 48 cs = some x) :
  ∃ a b : Int, cs = [.int .i64 a, .int .i64 b] ∧ InI64 b := by
 obtain ⟨ys, n, _, _, hl, hlen, hf⟩ := DataW.trod_struct Tryd.underlying48 h; rw [cellsID] at hl; have g0 := hf 0 _ rfl; have g1 := hf 1 _ rfl
 match ys, hlen, cs, hl with
 | [y0, y1], _, [v0, v1], _ =>
  simp [cellsIntM] at g0 g1
  obtain ⟨k0, e0, _, w0⟩ := DataW.trod_int Tryd.underlying3 g0; obtain ⟨k1, e1, _, w1⟩ := DataW.trod_int Tryd.underlying3 g1; simp at e0 e1; subst e0 e1; exact ⟨k0, k1, rfl, bounds_i64 w1⟩
theorem open_rawM {r : Reach} {b0 : Nat} {v : Value} {d : DataW H} {p : List MemPlace} (hv : Value.okWide Tryd.prog w r b0 50 v) (h : DataW.Trod enc Tryd.prog w base spare held 50 v d p) :
  ∃ x : MsgX, v = mW x.m x.A5 x.c5 x.A6 x.c6 ∧ MsgIn w x := by
 obtain ⟨cs, rfl, hsz⟩ := okWide_struct Tryd.underlying50 hv; rw [show Tryd.prog.cellsOf 50 = 7 by kernel_rfl] at hsz; obtain ⟨l⟩ := cs; obtain ⟨fuel, hf0⟩ := h; obtain ⟨ys, n, _, _, hl, hlen, hf⟩ := DataW.trod_struct Tryd.underlying50 hf0; have g0 := hf 0 _ rfl; have g1 := hf 1 _ rfl; have g2 := hf 2 _ rfl; have g3 := hf 3 _ rfl; have g4 := hf 4 _ rfl
 match l, hsz, ys, hlen with
 | [c0, c1, c2, c3, c4, c5, c6], _, [y0, y1, y2, y3, y4], _ =>
  simp [Value.cells, cellsIntM, cellsID, show Tryd.prog.cellsOf 27 = 1 by kernel_rfl, show Tryd.prog.cellsOf 28 = 1 by kernel_rfl] at g0 g1 g2 g3 g4
  obtain ⟨k0, e0, _, w0⟩ := DataW.trod_int Tryd.underlying3 g0; obtain ⟨k1, k2, e1, i2⟩ := open_idM g1; obtain ⟨k3, k4, e3, i4⟩ := open_idM g2; obtain ⟨A6, m6, xs6, e6, l6, q6, hC6, hQ6⟩ := open_flatM (en := fun x : Co => [.string x.1, .int .i64 x.2.1, .int .i64 x.2.2.1, .int .i64 x.2.2.2.1, .string x.2.2.2.2]) (sz := 5) (hl := fun _ => rfl) (h1 := by intro x u hu; simp at hu; rcases hu with rfl | rfl | rfl | rfl | rfl <;> rfl) (Q := fun y => Sm y.1 ∧ (InI64 y.2.2.1 ∧ InI64 y.2.2.2.1)) Tryd.underlying27 (by kernel_rfl) (fun _ _ _ h => open_coM h) g3; obtain ⟨A7, m7, xs7, e7, l7, q7, hC7, hQ7⟩ := open_flatM (en := fun x : At => [.string x.1, .bool x.2.1, .int .i64 x.2.2.1, .string x.2.2.2]) (sz := 4) (hl := fun _ => rfl) (h1 := by intro x u hu; simp at hu; rcases hu with rfl | rfl | rfl | rfl <;> rfl) (Q := fun y => Sm y.1 ∧ InI64 y.2.2.1) Tryd.underlying28 (by kernel_rfl) (fun _ _ _ h => open_atM h) g4; simp at e0 e1 e3 e6 e7; obtain ⟨e1, e2⟩ := e1; obtain ⟨e3, e4⟩ := e3; subst e0 e1 e2 e3 e4 e6 e7; exact ⟨⟨⟨k0, k1, k2, k3, k4, xs6, xs7⟩, A6, m6, A7, m7⟩, rfl, ⟨⟨hC6, hC7⟩, l6, l7, ⟨fun y hy => (hQ6 y hy).1, fun y hy => (hQ7 y hy).1⟩, ⟨i2, i4, fun y hy => (hQ6 y hy).2, fun y hy => (hQ7 y hy).2⟩⟩⟩
end
end Go.Proofs.YtbplemhjhpfkgaaDoor.Wr

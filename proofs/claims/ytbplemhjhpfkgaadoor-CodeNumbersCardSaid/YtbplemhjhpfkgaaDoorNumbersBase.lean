/-
  The two operations of CodeNumbers; rows of two.
-/
import Derived.Test.YtbplemhjhpfkgaaDoorRound
import Derived.Test.YtbplemhjhpfkgaaDoorAll
import Derived.Test.YtbplemhjhpfkgaaDoorBookSame
namespace Go.Proofs.YtbplemhjhpfkgaaDoor.Cd
open Go.RowKit Go.Proofs.YtbplemhjhpfkgaaDoorW.PrintWords Go.Proofs.YtbplemhjhpfkgaaDoorW.PrintLast Go.Proofs.YtbplemhjhpfkgaaDoorW.PrintMore Go.Proofs.YtbplemhjhpfkgaaDoor.Rd
set_option linter.unusedVariables false
set_option linter.unusedSimpArgs false
def nO (n m c kk : Int) (s : ByteArray) : OpD := ⟨4, c, 0, 0, 0, 0, [(s, kk, n, m, s), (⟨#[]⟩, 0, 0, 0, ⟨#[]⟩)], [], []⟩
def nP (n m c : Int) (s : ByteArray) : OpD := ⟨6, c, 0, n, 0, 0, [], [(s, true, m, s), (⟨#[]⟩, false, n, ⟨#[]⟩)], []⟩
theorem nO_right {n m c kk : Int} {s : ByteArray} (hk : 0 ≤ kk ∧ kk ≤ 255) (hs : s.size ≤ 60) : rightD (nO n m c kk s) = true := by
  have h1 : s.size ≤ 255 := by omega
  have h2 : (⟨#[]⟩ : ByteArray).size ≤ 255 := by decide
  simp [rightD, nO, known, sameD, askd, okC, h1, h2, hk.1, hk.2]
theorem nP_right {n m c : Int} {s : ByteArray} (hs : s.size ≤ 60) : rightD (nP n m c s) = true := by
  have h1 : s.size ≤ 255 := by omega
  have h2 : (⟨#[]⟩ : ByteArray).size ≤ 255 := by decide
  simp [rightD, nP, known, sameD, askd, okA, h1, h2]
theorem in64_0 : InI64 0 := ⟨by decide, by decide⟩
theorem nO_wf {n m c kk : Int} {s : ByteArray} (hn : InI64 n) (hm : InI64 m) (hc : InI64 c) : WfD (nO n m c kk s) :=
  ⟨hc, in64_0, in64_0, in64_0, in64_0, fun x hx => by simp [nO] at hx; (rcases hx with rfl | rfl; exact ⟨hn, hm⟩; exact ⟨in64_0, in64_0⟩), fun x hx => by simp [nO] at hx⟩
theorem nP_wf {n m c : Int} {s : ByteArray} (hn : InI64 n) (hm : InI64 m) (hc : InI64 c) : WfD (nP n m c s) :=
  ⟨hc, in64_0, hn, in64_0, in64_0, fun x hx => by simp [nP] at hx, fun x hx => by simp [nP] at hx; (rcases hx with rfl | rfl; exact hm; exact hn)⟩
theorem C_flat {α : Type} {en : α → List Value} {sz : Nat} {hl : ∀ x, (en x).length = sz} {h1 : ∀ x u, u ∈ en x → u.oneCell' = true} {w : World} {g : Nat} {t : TypeId} {xs : List α} {cs : Array Value} (h : w.heap[g]? = some (.cells cs t (0, 0))) (hn : xs.length ≤ 1000) (hc : ∀ i y, xs[i]? = some y → ∀ j u, (en y)[j]? = some u → cs[i * sz + j]? = some u) : Kd.C (flat sz en hl h1) w (some ⟨g, 0, none⟩) xs.length xs :=
  ⟨rfl, by omega, fun _ => ⟨⟨g, 0, none⟩, rfl, fun i y hy => ⟨en y, hl y, rfl, fun j u hu => by rw [add_plain, blk_cell h _]; exact hc i y hy j u hu⟩⟩⟩
theorem two_cases {α : Type} {a b y : α} {i : Nat} (h : [a, b][i]? = some y) : (i = 0 ∧ y = a) ∨ (i = 1 ∧ y = b) := by
  match i, h with
  | 0, h => exact .inl ⟨rfl, by simpa using h.symm⟩
  | 1, h => exact .inr ⟨rfl, by simpa using h.symm⟩
  | k + 2, h => simp at h
theorem nO_lies {n m c kk : Int} {s : ByteArray} {w : World} {b : Nat} {t : TypeId} (h : w.heap[b]? = some (.cells #[.string s, .int .i64 kk, .int .i64 n, .int .i64 m, .string s, .string ⟨#[]⟩, .int .i64 0, .int .i64 0, .int .i64 0, .string ⟨#[]⟩] t (0, 0))) : Lies w (nO n m c kk s) (some ⟨b, 0, none⟩) none none := by
  refine ⟨C_flat h (by simp [nO]) (fun i y hy j u hu => ?_), nilAt _, nilR _⟩
  rcases two_cases hy with ⟨rfl, rfl⟩ | ⟨rfl, rfl⟩
  · simpa using (show _ = some u from by
      match j, hu with
      | 0, h => exact h
      | 1, h => exact h
      | 2, h => exact h
      | 3, h => exact h
      | 4, h => exact h)
  · simpa using (show _ = some u from by
      match j, hu with
      | 0, h => exact h
      | 1, h => exact h
      | 2, h => exact h
      | 3, h => exact h
      | 4, h => exact h)
theorem nP_lies {n m c : Int} {s : ByteArray} {w : World} {b : Nat} {t : TypeId} (h : w.heap[b]? = some (.cells #[.string s, .bool true, .int .i64 m, .string s, .string ⟨#[]⟩, .bool false, .int .i64 n, .string ⟨#[]⟩] t (0, 0))) : Lies w (nP n m c s) none (some ⟨b, 0, none⟩) none := by
  refine ⟨nilCo _, C_flat h (by simp [nP]) (fun i y hy j u hu => ?_), nilR _⟩
  rcases two_cases hy with ⟨rfl, rfl⟩ | ⟨rfl, rfl⟩
  · simpa using (show _ = some u from by
      match j, hu with
      | 0, h => exact h
      | 1, h => exact h
      | 2, h => exact h
      | 3, h => exact h)
  · simpa using (show _ = some u from by
      match j, hu with
      | 0, h => exact h
      | 1, h => exact h
      | 2, h => exact h
      | 3, h => exact h)
theorem C_ops2 {x y : OpX} {w : World} {b : Nat} {t : TypeId} (h : w.heap[b]? = some (.cells #[.int .i64 x.1.k, .int .i64 x.1.c, .int .i64 x.1.q, .int .i64 x.1.h, .int .i64 x.1.a, .int .i64 x.1.t, .slice x.2.1.1 x.1.p.length x.2.1.2, .slice x.2.2.1.1 x.1.s.length x.2.2.1.2, .slice x.2.2.2.1 x.1.r.length x.2.2.2.2, .int .i64 y.1.k, .int .i64 y.1.c, .int .i64 y.1.q, .int .i64 y.1.h, .int .i64 y.1.a, .int .i64 y.1.t, .slice y.2.1.1 y.1.p.length y.2.1.2, .slice y.2.2.1.1 y.1.s.length y.2.2.1.2, .slice y.2.2.2.1 y.1.r.length y.2.2.2.2] t (0, 0))) : Kd.C kOp w (some ⟨b, 0, none⟩) 2 [x, y] := by
  refine C_flat h (by simp) (fun i z hz j u hu => ?_)
  rcases two_cases hz with ⟨rfl, rfl⟩ | ⟨rfl, rfl⟩
  · simpa using (show _ = some u from by
      match j, hu with
      | 0, h => exact h
      | 1, h => exact h
      | 2, h => exact h
      | 3, h => exact h
      | 4, h => exact h
      | 5, h => exact h
      | 6, h => exact h
      | 7, h => exact h
      | 8, h => exact h)
  · simpa using (show _ = some u from by
      match j, hu with
      | 0, h => exact h
      | 1, h => exact h
      | 2, h => exact h
      | 3, h => exact h
      | 4, h => exact h
      | 5, h => exact h
      | 6, h => exact h
      | 7, h => exact h
      | 8, h => exact h)
end Go.Proofs.YtbplemhjhpfkgaaDoor.Cd

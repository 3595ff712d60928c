/-
 Messages whose lists do not lie in a block that is written.
-/
import Derived.Test.YtbplemhjhpfkgaaDoorZTellsPure
namespace Go.Proofs.YtbplemhjhpfkgaaDoor.Wr
open Go.RowKit YtbplemhjhpfkgaaDoorW.PrintWords YtbplemhjhpfkgaaDoorW.PrintLast YtbplemhjhpfkgaaDoorW.PrintMore Rd
open Go.Proofs.YtbplemhjhpfkgaaDoor.Cd (Co At kCo kAt at_Co at_At)
set_option linter.unusedVariables false
set_option linter.unusedSimpArgs false
structure FreeM (g : Nat) (m : MsgD) (A5 A6 : Option Addr) : Prop where
 p : 0 < m.p.length → ∀ ad, A5 = some ad → ad.block ≠ g
 s : 0 < m.s.length → ∀ ad, A6 = some ad → ad.block ≠ g
theorem free_new {w : World} {m : MsgD} {A5 A6 : Option Addr} (h : LiesM w m A5 A6) : FreeM w.heap.size m A5 A6 := by
 refine ⟨fun hn ad e => ?_, fun hn ad e => ?_⟩
 ·subst e; obtain ⟨ad', x, e, hx, d0, _⟩ := at_Co h.p 0 hn; obtain rfl := Option.some.inj e; have := World.block_lt_of_cell? w _ d0; simp only [Nat.zero_mul, add_block] at this; omega
 ·subst e; obtain ⟨ad', x, e, hx, d0, _⟩ := at_At h.s 0 hn; obtain rfl := Option.some.inj e; have := World.block_lt_of_cell? w _ d0; simp only [Nat.zero_mul, add_block] at this; omega
theorem free_past {n g : Nat} {m : MsgD} {A5 A6 : Option Addr} (h5 : Past n A5) (h6 : Past n A6) (hg : g < n) : FreeM g m A5 A6 :=
 ⟨fun _ ad e => by have := h5 ad e; omega, fun _ ad e => by have := h6 ad e; omega⟩
theorem C_free {α : Type} {d : Kd α} (hK : ∀ W W' x cs, d.K W x cs → d.K W' x cs) {w w1 : World} {A : Option Addr} {n g : Nat} {xs : List α} (h : Kd.C d w A n xs) (hk : KeepBut w w1 g none) (hf : 0 < n → ∀ ad, A = some ad → ad.block ≠ g) : Kd.C d w1 A n xs :=
 ⟨h.1, h.2.1, fun hn => by
  obtain ⟨ad, e, hc⟩ := h.2.2 hn; refine ⟨ad, e, fun i x hx => ?_⟩; obtain ⟨cs, hl, hK', hcell⟩ := hc i x hx; exact ⟨cs, hl, hK _ _ _ _ hK', fun j u hu => keep_cell hk (hcell j u hu) (by rw [add_block]; exact hf hn ad e)⟩⟩
theorem LiesM.put {w w1 : World} {m : MsgD} {A5 A6 : Option Addr} {g : Nat} (h : LiesM w m A5 A6) (hf : FreeM g m A5 A6) (hk : KeepBut w w1 g none) : LiesM w1 m A5 A6 :=
 ⟨C_free (fun _ _ _ _ h => h) h.p hk hf.p, C_free (fun _ _ _ _ h => h) h.s hk hf.s⟩
theorem blk_keepT {w w1 : World} {b g : Nat} {o : Obj} (h : w.heap[b]? = some o) (hk : KeepBut w w1 g none) (hne : b ≠ g) : w1.heap[b]? = some o :=
 (hk.2 b (by rcases Nat.lt_or_ge b w.heap.size with h1 | h1; exact h1; rw [Array.getElem?_eq_none h1] at h; cases h) hne (by simp)).trans h
structure Good (m : MsgD) : Prop where
 right : rightM m = true
 sm : SmM m
 wf : WfM m
end Go.Proofs.YtbplemhjhpfkgaaDoor.Wr

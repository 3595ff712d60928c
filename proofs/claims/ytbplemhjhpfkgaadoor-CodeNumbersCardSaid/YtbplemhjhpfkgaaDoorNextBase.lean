/-
  code.next at the bytes of an operation that is right.
-/
import Derived.Test.YtbplemhjhpfkgaaDoorRound
namespace Go.Proofs.YtbplemhjhpfkgaaDoor.Cd
open Go.RowKit Go.Proofs.YtbplemhjhpfkgaaDoorW.PrintWords Go.Proofs.YtbplemhjhpfkgaaDoorW.PrintLast Go.Proofs.YtbplemhjhpfkgaaDoorW.PrintMore Go.Proofs.YtbplemhjhpfkgaaDoor.Rd
open Go.Proofs.YtbplemhjhpfkgaaDoor.Ft (Door Chain new_chain kind_calls chain_iface)
set_option linter.unusedVariables false
set_option linter.unusedSimpArgs false
theorem be8_by (x : Int) : Byt (be8 x) := by have := byt_be8s [x]; rwa [be8s_oneL] at this
theorem cut_u8 (A : Option Addr) (c : Nat) (l : List Int) (j : Int) (n : Nat) (hn : j.toNat = n) (h0 : 0 ≤ j) (hj : j ≤ l.length) (hc : l.length ≤ c) :
    (∀ W : World, (Instr.slice 22 (.slice A l.length c) none (some (.int .i64 j)) none).run Tryd.prog W = .ok (.slice A n c) W) ∧ (∀ w, Kd.C (Kd.int .u8) w A l.length l → Kd.C (Kd.int .u8) w A n (l.take n)) ∧ (l.take n).length = n := by
  obtain ⟨i0, hi0, _, hsz0, _⟩ := info_parts infoU8
  obtain ⟨h1, h2, h3⟩ := print_take_of (P := Tryd.prog) (Value.int .u8) 0 22 5 .i64 Tryd.underlying22 hi0 hsz0 A c l j h0 hj hc
  subst hn
  have hl : (l.take j.toNat).length = j.toNat := by rw [List.length_take]; omega
  rw [hl] at h1
  refine ⟨h1, fun w h => ?_, hl⟩
  have := Kd.C_of_reads (h1 := fun _ => rfl) (h2 w (Kd.reads_of_C h))
  rw [hl] at this
  exact this
theorem off_u8 (A : Option Addr) (c : Nat) (l : List Int) (m : Nat) (hm : m ≤ l.length) (hc : l.length ≤ c) :
    ∃ A' : Option Addr, (∀ W : World, (Instr.slice 22 (.slice A l.length c) (some (.int .i64 (m : Int))) none none).run Tryd.prog W = .ok (.slice A' (l.drop m).length (c - m)) W) ∧ (∀ w, Kd.C (Kd.int .u8) w A l.length l → Kd.C (Kd.int .u8) w A' (l.drop m).length (l.drop m)) ∧ (l.drop m).length ≤ c - m := by
  obtain ⟨i0, hi0, _, hsz0, _⟩ := info_parts infoU8
  obtain ⟨A', h1, h2⟩ := print_cut (P := Tryd.prog) 22 5 .i64 Tryd.underlying22 hi0 hsz0 A l.length c m hm
  refine ⟨A', fun W => by rw [List.length_drop]; exact h1 W, fun w h => ?_, by rw [List.length_drop]; omega⟩
  have := h2 w .u8 l hc (Kd.reads_of_C (d := (0 : Int)) h)
  rw [← List.length_drop] at this
  exact Kd.C_of_reads (d := (0 : Int)) (h1 := fun _ => rfl) this
end Go.Proofs.YtbplemhjhpfkgaaDoor.Cd

/-
 Small facts on what broadsidekeep makes of numbers; the print's rows as ours.
-/
import Derived.Test.YtbplemhjhpfkgaaDoorZKinds8
import Derived.Test.YtbplemhjhpfkgaaDoorZDoorBase
namespace Go.Proofs.YtbplemhjhpfkgaaDoor.Wr
open Go.RowKit YtbplemhjhpfkgaaDoorW.PrintWords YtbplemhjhpfkgaaDoorW.PrintLast YtbplemhjhpfkgaaDoorW.PrintMore Rd
open PCodeKinds
open Go.Proofs.YtbplemhjhpfkgaaDoor.Cd (Co At kCo kAt)
set_option linter.unusedVariables false
set_option linter.unusedSimpArgs false
theorem wr_id {n : Int} (h0 : -9223372036854775808 ≤ n) (h1 : n < 9223372036854775808) : wrap64 n = n := by
 unfold wrap64; omega
theorem within_some (a m : Int) (h0 : 0 ≤ m) (h1 : m ≤ 1000) : ∃ r, broadsidebook_Within.f a 0 m = some r ∧ 0 ≤ r ∧ r ≤ m := by
 have e1 : wrap64 (wrap64 (m - 0) + 1) = m + 1 := by rw [wr_id (n := m - 0) (by omega) (by omega), wr_id (by omega) (by omega)]; omega
 have b1 := Int.tmod_lt_of_pos a (show 0 < m + 1 by omega); have b2 := Int.lt_tmod_of_pos a (show 0 < m + 1 by omega); unfold broadsidebook_Within.f; rw [e1, if_neg (by omega)]; generalize Int.tmod a (m + 1) = t at b1 b2
 by_cases ht : t < 0
 ·rw [if_pos ht]; refine ⟨_, rfl, ?_⟩; rw [wr_id (n := t + m) (by omega) (by omega), wr_id (n := t + m - 0) (by omega) (by omega), wr_id (n := t + m - 0 + 1) (by omega) (by omega), wr_id (by omega) (by omega)]; omega
 ·rw [if_neg ht]; refine ⟨_, rfl, ?_⟩; rw [wr_id (by omega) (by omega)]; omega
theorem texts_some : ∃ l, broadsidekeep_texts.f = some l ∧ l.length = 7 := ⟨_, rfl, rfl⟩
theorem names_some : ∃ l, broadsidekeep_Names.f = some l ∧ l.length = 7 := ⟨_, rfl, rfl⟩
theorem pick_some (l : List Int) (i : Int) (h : 0 ≤ i) : ∃ r, broadsidekeep_pick.f l i = some r := by
 unfold broadsidekeep_pick.f
 split
 ·exact ⟨_, rfl⟩
 ·rename_i hn
  have hp : 0 < (l.length : Int) := by omega
  rw [if_pos (Int.tmod_nonneg _ h), if_pos (Int.tmod_lt_of_pos i hp)]; exact ⟨_, rfl⟩
theorem C_map {α β : Type} {d : Kd α} {e : Kd β} (f : α → β) (hs : d.sz = e.sz) (hk : ∀ W x cs, d.K W x cs → e.K W (f x) cs) {w : World} {A : Option Addr} {n : Nat} {xs : List α} (h : Kd.C d w A n xs) : Kd.C e w A n (xs.map f) := by
 refine ⟨by rw [List.length_map]; exact h.1, h.2.1, fun hn => ?_⟩; obtain ⟨ad, ea, hc⟩ := h.2.2 hn; refine ⟨ad, ea, fun i x hx => ?_⟩; rw [List.getElem?_map] at hx; obtain ⟨y, hy, rfl⟩ := Option.map_eq_some_iff.1 hx; obtain ⟨c, h1, h2, h3⟩ := hc i y hy; exact ⟨c, by rw [← hs]; exact h1, hk _ _ _ h2, by rw [← hs]; exact h3⟩
def toCo (x : S44) : Co := (x.f0, x.f1, x.f2, x.f3, x.f4)
def toAt (x : S59) : At := (x.f0, x.f1.f0, x.f1.f1, x.f1.f2)
theorem C_Co {w : World} {A : Option Addr} {n : Nat} {xs : List S44} (h : Kd.C k44 w A n xs) : Kd.C kCo w A n (xs.map toCo) := C_map toCo rfl (fun W x cs h => k44_open h) h
theorem C_At {w : World} {A : Option Addr} {n : Nat} {xs : List S59} (h : Kd.C k59 w A n xs) : Kd.C kAt w A n (xs.map toAt) := C_map toAt rfl (fun W x cs h => k59_open h) h
end Go.Proofs.YtbplemhjhpfkgaaDoor.Wr

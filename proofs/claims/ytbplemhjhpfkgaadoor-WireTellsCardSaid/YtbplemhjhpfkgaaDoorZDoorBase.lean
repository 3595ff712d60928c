/-
 Rows of constraints and attributes; their bytes.
-/
import Derived.Test.YtbplemhjhpfkgaaDoorZDoorTool
namespace Go.Proofs.YtbplemhjhpfkgaaDoor.Cd
open Go.RowKit YtbplemhjhpfkgaaDoorW.PrintWords YtbplemhjhpfkgaaDoorW.PrintLast YtbplemhjhpfkgaaDoorW.PrintMore Rd
set_option linter.unusedVariables false
set_option linter.unusedSimpArgs false
def flat {α : Type} (n : Nat) (enc : α → List Value) (hl : ∀ x, (enc x).length = n) (h1 : ∀ x u, u ∈ enc x → u.oneCell' = true) : Kd α where
 sz := n
 E := []
 K := fun _ x cs => cs = enc x
 M := fun _ _ _ x cs => cs = enc x
 K_len := fun h => by rw [h]; exact hl _
 K_one := fun h u hu => h1 _ u (by rw [← h]; exact hu)
 K_below := fun _ h => h
 K_of_M := fun h => h
 M_mono := fun _ h => h
 M_bound := fun h => h
 M_move := fun _ h => h
 M_lower := fun _ h => h
theorem flatKM {α : Type} {n : Nat} {enc : α → List Value} {hl : ∀ x, (enc x).length = n} {h1 : ∀ x u, u ∈ enc x → u.oneCell' = true} : ∀ W base ok x cs, (flat n enc hl h1).K W x cs → (flat n enc hl h1).M W base ok x cs := fun _ _ _ _ _ h => h
abbrev Co := ByteArray × Int × Int × Int × ByteArray
abbrev At := ByteArray × Bool × Int × ByteArray
def kCo : Kd Co := flat 5 (fun x => [.string x.1, .int .i64 x.2.1, .int .i64 x.2.2.1, .int .i64 x.2.2.2.1, .string x.2.2.2.2]) (fun _ => rfl) (by intro x u hu; simp at hu; rcases hu with rfl | rfl | rfl | rfl | rfl <;> rfl)
def kAt : Kd At := flat 4 (fun x => [.string x.1, .bool x.2.1, .int .i64 x.2.2.1, .string x.2.2.2]) (fun _ => rfl) (by intro x u hu; simp at hu; rcases hu with rfl | rfl | rfl | rfl <;> rfl)
theorem at_Co {w : World} {A : Option Addr} {n : Nat} {xs : List Co} (h : Kd.C kCo w A n xs) (i : Nat) (h1 : i < n) : ∃ (ad : Addr) (x : Co), A = some ad ∧ xs[i]? = some x ∧ w.cell? (ad.add (i * 5)) = some (.string x.1) ∧
  w.cell? ⟨(ad.add (i * 5)).block, (ad.add (i * 5)).off + 1, none⟩ = some (.int .i64 x.2.1) ∧ w.cell? ⟨(ad.add (i * 5)).block, (ad.add (i * 5)).off + 2, none⟩ = some (.int .i64 x.2.2.1) ∧ w.cell? ⟨(ad.add (i * 5)).block, (ad.add (i * 5)).off + 3, none⟩ = some (.int .i64 x.2.2.2.1) ∧ w.cell? ⟨(ad.add (i * 5)).block, (ad.add (i * 5)).off + 4, none⟩ = some (.string x.2.2.2.2) := by
 obtain ⟨ad, e, hc⟩ := h.2.2 (by omega); have hl : i < xs.length := by have := h.1; omega
 obtain ⟨c, hs, hr, hcell⟩ := hc i _ (List.getElem?_eq_getElem hl); have hr' : c = [.string xs[i].1, .int .i64 xs[i].2.1, .int .i64 xs[i].2.2.1, .int .i64 xs[i].2.2.2.1, .string xs[i].2.2.2.2] := hr; subst hr'; have hcell' : ∀ j u, [Value.string xs[i].1, .int .i64 xs[i].2.1, .int .i64 xs[i].2.2.1, .int .i64 xs[i].2.2.2.1, .string xs[i].2.2.2.2][j]? = some u → w.cell? (ad.add (i * 5 + j)) = some u := hcell; exact ⟨ad, xs[i], e, List.getElem?_eq_getElem hl, hcell' 0 _ rfl, by rw [← add_field _ _ 1 (by omega)]; exact hcell' 1 _ rfl, by rw [← add_field _ _ 2 (by omega)]; exact hcell' 2 _ rfl, by rw [← add_field _ _ 3 (by omega)]; exact hcell' 3 _ rfl, by rw [← add_field _ _ 4 (by omega)]; exact hcell' 4 _ rfl⟩
theorem at_At {w : World} {A : Option Addr} {n : Nat} {xs : List At} (h : Kd.C kAt w A n xs) (i : Nat) (h1 : i < n) : ∃ (ad : Addr) (x : At), A = some ad ∧ xs[i]? = some x ∧ w.cell? (ad.add (i * 4)) = some (.string x.1) ∧
  w.cell? ⟨(ad.add (i * 4)).block, (ad.add (i * 4)).off + 1, none⟩ = some (.bool x.2.1) ∧ w.cell? ⟨(ad.add (i * 4)).block, (ad.add (i * 4)).off + 2, none⟩ = some (.int .i64 x.2.2.1) ∧ w.cell? ⟨(ad.add (i * 4)).block, (ad.add (i * 4)).off + 3, none⟩ = some (.string x.2.2.2) := by
 obtain ⟨ad, e, hc⟩ := h.2.2 (by omega); have hl : i < xs.length := by have := h.1; omega
 obtain ⟨c, hs, hr, hcell⟩ := hc i _ (List.getElem?_eq_getElem hl); have hr' : c = [.string xs[i].1, .bool xs[i].2.1, .int .i64 xs[i].2.2.1, .string xs[i].2.2.2] := hr; subst hr'; have hcell' : ∀ j u, [Value.string xs[i].1, .bool xs[i].2.1, .int .i64 xs[i].2.2.1, .string xs[i].2.2.2][j]? = some u → w.cell? (ad.add (i * 4 + j)) = some u := hcell; exact ⟨ad, xs[i], e, List.getElem?_eq_getElem hl, hcell' 0 _ rfl, by rw [← add_field _ _ 1 (by omega)]; exact hcell' 1 _ rfl, by rw [← add_field _ _ 2 (by omega)]; exact hcell' 2 _ rfl, by rw [← add_field _ _ 3 (by omega)]; exact hcell' 3 _ rfl⟩
theorem C_blk64 {w : World} {g : Nat} {t : TypeId} {xs : List Int} (h : w.heap[g]? = some (.cells (nums .i64 xs).toArray t (0, 0))) (hm : xs.length ≤ 9223372036854775807) : Kd.C (Kd.int .i64) w (some ⟨g, 0, none⟩) xs.length xs := by
 refine Kd.C_of_reads (d := (0 : Int)) (h1 := fun _ => rfl) ⟨rfl, hm, fun _ => ⟨_, rfl, fun j hj => ?_⟩⟩; rw [add_plain, blk_cell h j]
 simp [nums, List.getD_eq_getElem?_getD, List.getElem?_eq_getElem hj]

def fl (b : Bool) : Int := if b = true then 1 else 0
def aB (x : At) : List Int := text8 x.1 ++ [fl x.2.1] ++ be8s [x.2.2.1] ++ text8 x.2.2.2
theorem text8_le (s : ByteArray) : (text8 s).length ≤ 256 := by
 unfold text8
 split
 ·simp
 ·simp only [List.length_cons, bytesOf_length]; omega
theorem flatMap_le {α : Type} (f : α → List Int) (m : Nat) (h : ∀ x, (f x).length ≤ m) : ∀ l : List α, (l.flatMap f).length ≤ m * l.length
 | [] => by simp
 | x :: l => by
  have h1 := flatMap_le f m h l; have h2 := h x; rw [List.flatMap_cons, List.length_append, List.length_cons, Nat.mul_succ]; omega
theorem take_snocF {α : Type} (f : α → List Int) {l : List α} {j : Nat} {x : α} (h : l[j]? = some x) : (l.take (j + 1)).flatMap f = (l.take j).flatMap f ++ f x := by
 rw [List.take_add_one, h]
 simp
end Go.Proofs.YtbplemhjhpfkgaaDoor.Cd

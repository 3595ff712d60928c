/-
  code.Right of CodeKinds' last four operations.
-/
import Derived.Test.YtbplemhjhpfkgaaDoorKindsLaw1
namespace Go.Proofs.YtbplemhjhpfkgaaDoor.Cd
open Go.RowKit Go.Proofs.YtbplemhjhpfkgaaDoorW.PrintWords Go.Proofs.YtbplemhjhpfkgaaDoorW.PrintLast Go.Proofs.YtbplemhjhpfkgaaDoorW.PrintMore Go.Proofs.YtbplemhjhpfkgaaDoor.Rd
set_option linter.unusedVariables false
set_option linter.unusedSimpArgs false
def zs8 (n : Nat) : Array Value := (nums .u8 (List.replicate n 0)).toArray
set_option maxRecDepth 100000 in
theorem made_zs8 (n : Nat) (hn : n ≤ 1000000) : ∀ W : World, (Instr.makeSlice 22 (.int .i64 (n : Int)) (.int .i64 (n : Int))).run Tryd.prog W = .ok (.slice (some ⟨W.heap.size, 0, none⟩) n n) (W.alloc (.cells (zs8 n) 5)) := by
  intro W
  obtain ⟨i0, hi0, hz0, hsz0, hb0⟩ := info_parts infoU8
  have h := run_make (P := Tryd.prog) W 22 5 i0 _ Tryd.underlying22 hi0 hz0 .i64 .i64 (n : Int) (n : Int) (by omega) (Int.le_refl _) (by rw [hb0]; omega) (by omega)
  simp only [Int.toNat_natCast, hsz0, Nat.mul_one] at h
  rw [h]
  congr 4
  apply Array.ext
  · simp [size_madeCells, zs8, nums]
  · intro i h1 h2
    simp [madeCells, zs8, nums, Value.cells, Nat.mod_one]
theorem C_blk8 {w : World} {g : Nat} {t : TypeId} {xs : List Int} (h : w.heap[g]? = some (.cells (nums .u8 xs).toArray t (0, 0))) (hm : xs.length ≤ 9223372036854775807) : Kd.C (Kd.int .u8) w (some ⟨g, 0, none⟩) xs.length xs := by
  refine Kd.C_of_reads (d := (0 : Int)) (h1 := fun _ => rfl) ⟨rfl, hm, fun _ => ⟨_, rfl, fun j hj => ?_⟩⟩
  rw [add_plain, blk_cell h j]
  simp [nums, List.getD_eq_getElem?_getD, List.getElem?_eq_getElem hj]
theorem C_one {w : World} {g : Nat} {t : TypeId} (x : Co) (h : w.heap[g]? = some (.cells #[.string x.1, .int .i64 x.2.1, .int .i64 x.2.2.1, .int .i64 x.2.2.2.1, .string x.2.2.2.2] t (0, 0))) : Kd.C kCo w (some ⟨g, 0, none⟩) 1 [x] := by
  refine ⟨rfl, by decide, fun _ => ⟨⟨g, 0, none⟩, rfl, fun i y hy => ?_⟩⟩
  obtain ⟨rfl, rfl⟩ : i = 0 ∧ y = x := by
    rcases i with _ | i
    · exact ⟨rfl, (Option.some.inj hy).symm⟩
    · simp at hy
  refine ⟨[.string y.1, .int .i64 y.2.1, .int .i64 y.2.2.1, .int .i64 y.2.2.2.1, .string y.2.2.2.2], rfl, rfl, fun j u hu => ?_⟩
  rw [add_plain, blk_cell h _]
  simpa using hu
theorem right_len (r : List Int) (h : 255 < r.length) : rightD ⟨9, 0, 0, 0, 0, 0, [], [], r⟩ = false := by
  unfold rightD
  have e : decide (([] : List Co).length ≤ 200 ∧ ([] : List At).length ≤ 200 ∧ r.length ≤ 255) = false := decide_eq_false (by rintro ⟨_, _, h3⟩; omega)
  show (known 9 && sameD (askd ⟨9, 0, 0, 0, 0, 0, [], [], r⟩) ⟨9, 0, 0, 0, 0, 0, [], [], r⟩ && decide (([] : List Co).length ≤ 200 ∧ ([] : List At).length ≤ 200 ∧ r.length ≤ 255) && _ && _) = false
  rw [e]
  simp
theorem right_longN (N : Nat) (h255 : 255 < N) (hN : N ≤ 1000000) (g : Nat) (w : World) (h : w.heap[g]? = some (.cells (zs8 N) 5 (0, 0))) :
    Calls Tryd.prog 20 #[opV 9 0 0 0 0 0 none 0 0 none 0 0 (some ⟨g, 0, none⟩) N N] w fun e w' => e = .returned (.bool false) ∧ Below w.heap.size w w' := by
  have e1 : (List.replicate N (0 : Int)).length = N := List.length_replicate ..
  have hb : Byt (List.replicate N (0 : Int)) := fun x hx => by obtain rfl := List.eq_of_mem_replicate hx; exact ⟨by decide, by decide⟩
  have hC : Kd.C (Kd.int .u8) w (some ⟨g, 0, none⟩) (List.replicate N (0 : Int)).length (List.replicate N (0 : Int)) := C_blk8 h (by omega)
  have e2 := right_len (List.replicate N (0 : Int)) (by omega)
  generalize List.replicate N (0 : Int) = r at *
  subst e1
  have hr := right_calls ⟨9, 0, 0, 0, 0, 0, [], [], r⟩ none 0 none 0 (some ⟨g, 0, none⟩) r.length w ⟨nilCo _, nilAt _, hC⟩ hb
  rw [e2] at hr
  exact hr
theorem right_odd (g : Nat) (w : World) (h : w.heap[g]? = some (.cells #[.string ⟨#[]⟩, .int .i64 256, .int .i64 0, .int .i64 0, .string ⟨#[]⟩] 44 (0, 0))) :
    Calls Tryd.prog 20 #[opV 4 0 0 0 0 0 (some ⟨g, 0, none⟩) 1 1 none 0 0 none 0 0] w fun e w' => e = .returned (.bool false) ∧ Below w.heap.size w w' := by
  have hr := right_calls ⟨4, 0, 0, 0, 0, 0, [(⟨#[]⟩, 256, 0, 0, ⟨#[]⟩)], [], []⟩ (some ⟨g, 0, none⟩) 1 none 0 none 0 w ⟨C_one _ h, nilAt _, nilR _⟩ (fun x hx => by cases hx)
  have e2 : rightD ⟨4, 0, 0, 0, 0, 0, [(⟨#[]⟩, 256, 0, 0, ⟨#[]⟩)], [], []⟩ = false := by simp [rightD, okC]
  rw [e2] at hr
  exact hr
theorem right_zero (w : World) : Calls Tryd.prog 20 #[opV 0 0 0 0 0 0 none 0 0 none 0 0 none 0 0] w fun e w' => e = .returned (.bool false) ∧ Below w.heap.size w w' := by
  have hr := right_calls ⟨0, 0, 0, 0, 0, 0, [], [], []⟩ none 0 none 0 none 0 w ⟨nilCo _, nilAt _, nilR _⟩ (fun x hx => by cases hx)
  have e2 : rightD ⟨0, 0, 0, 0, 0, 0, [], [], []⟩ = false := by simp [rightD, known]
  rw [e2] at hr
  exact hr
theorem right_one (n : Int) (g : Nat) (w : World) (h : w.heap[g]? = some (.cells #[.string ⟨#[]⟩, .int .i64 255, .int .i64 n, .int .i64 0, .string ⟨#[113]⟩] 44 (0, 0))) :
    Calls Tryd.prog 20 #[opV 4 0 0 0 0 0 (some ⟨g, 0, none⟩) 1 1 none 0 0 none 0 0] w fun e w' => e = .returned (.bool true) ∧ Below w.heap.size w w' := by
  have hr := right_calls ⟨4, 0, 0, 0, 0, 0, [(⟨#[]⟩, 255, n, 0, ⟨#[113]⟩)], [], []⟩ (some ⟨g, 0, none⟩) 1 none 0 none 0 w ⟨C_one _ h, nilAt _, nilR _⟩ (fun x hx => by cases hx)
  have e3 : (⟨#[113]⟩ : ByteArray).size ≤ 255 := by decide
  have e4 : (⟨#[]⟩ : ByteArray).size ≤ 255 := by decide
  have e2 : rightD ⟨4, 0, 0, 0, 0, 0, [(⟨#[]⟩, 255, n, 0, ⟨#[113]⟩)], [], []⟩ = true := by simp [rightD, okC, known, sameD, askd, e3, e4]
  rw [e2] at hr
  exact hr
end Go.Proofs.YtbplemhjhpfkgaaDoor.Cd

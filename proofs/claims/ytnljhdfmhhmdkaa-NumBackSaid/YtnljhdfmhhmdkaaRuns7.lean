/-
  The closed sentence of chapter 7: NumRuns returns true, whatever the memory.
-/
import Derived.Test.YtnljhdfmhhmdkaaNum
namespace Go.Proofs.Ytnljhdfmhhmdkaa.Rd
open Go.RowKit Go.Proofs.YtnljhdfmhhmdkaaW.PrintWords Go.Proofs.YtnljhdfmhhmdkaaW.PrintLast Go.Proofs.YtnljhdfmhhmdkaaW.PrintMore
set_option linter.unusedVariables false
set_option linter.unusedSimpArgs false

theorem runs_a : text1 [2, 97] false = (⟨#[]⟩, [97], true) := by simp [text1, byte1, takes, strOfNums]
theorem runs_b : be8s [1] = [0, 0, 0, 0, 0, 0, 0, 1] := by decide
theorem runs_c : text8 ⟨#[97, 98]⟩ = [2, 97, 98] := by decide
theorem byt_a : Byt [2, 97] := by intro b hb; simp at hb; omega

/-- What a call of Number, Text hands back: a slice that reads as these bytes, in a world in which nothing elder has turned. -/
theorem made_reads {P : Program} {f : FuncId} {args : Array Value} {w : World} {l : List Int} (h : Calls P f args w fun e w' => ∃ v, e = .returned v ∧ Kd.R (Kd.int .u8) 5 w' w.heap.size (fun _ => True) v l ∧ Below w.heap.size w w') :
    Calls P f args w fun e w' => ∃ A c, e = .returned (.slice A l.length c) ∧ l.length ≤ c ∧ Kd.C (Kd.int .u8) w' A l.length l ∧ Below w.heap.size w w' :=
  h.mono fun e w' ⟨v, he, hr, hb⟩ => by
    obtain ⟨A, c, rfl, hc, hC⟩ := Kd.R_reads hr
    exact ⟨A, c, he, hc, hC, hb⟩

set_option maxHeartbeats 1600000 in
theorem runs_calls (w : World) : Calls Try.prog 3 #[] w fun e w' => e = .returned (.bool true) ∧ Below w.heap.size w w' := by
  go_enter Try.func3, Try.ntmps3
  go_wp2_with fail
  refine (read_calls (some ⟨w.heap.size, 0, none⟩) 2 [2, 97] _ (C_lit .u8 [2, 97] w 5 (by simp)) byt_a (by simp)).mono ?_
  rintro e w1 ⟨w0, g, rfl, hI, hB0, hB1⟩
  have HB0 := Aside0.mk (below_step (below_alloc (Below.refl w.heap.size w) _) hB0)
  have HT := Lib.hid (text_calls g [2, 97] false w0 w1 hI hB1)
  clear hI hB0 hB1
  rw [runs_a] at HT
  go_wp2_with fail
  refine HT.out.mono ?_
  rintro e w2 ⟨rfl, hI, hB, hK⟩
  have HI := Aside0.mk hI
  have HB := Aside0.mk hB
  clear hI hB hK HT
  go_wp2_with fail
  refine (made_reads (num_calls (some ⟨w2.heap.size, 0, none⟩) 1 [1] _ (C_lit .i64 [1] w2 3 (by simp)) (by simp))).mono ?_
  rintro e w3 ⟨A3, c3, rfl, hc3, hC3, hB3⟩
  rw [runs_b] at hC3 hc3 ⊢
  have HB3 := Aside0.mk hB3
  have HC3 := Aside0.mk hC3
  clear hB3 hC3
  go_wp2_with fail
  refine (same_u8 A3 c3 [0, 0, 0, 0, 0, 0, 0, 1] (some ⟨w3.heap.size, 0, none⟩) 8 [0, 0, 0, 0, 0, 0, 0, 1] _ (Kd.C_alloc HC3.out _) (C_lit .u8 [0, 0, 0, 0, 0, 0, 0, 1] w3 5 (by simp))).mono ?_
  rintro e w4 ⟨rfl, hD4⟩
  have HD4 := Aside0.mk hD4.below
  clear hD4
  simp only [decide_true]
  go_wp2_with fail
  refine (made_reads (txt_calls ⟨#[97, 98]⟩ _)).mono ?_
  rintro e w5 ⟨A5, c5, rfl, hc5, hC5, hB5⟩
  rw [runs_c] at hC5 hc5 ⊢
  have HB5 := Aside0.mk hB5
  have HC5 := Aside0.mk hC5
  clear hB5 hC5
  go_wp2_with fail
  refine (same_u8 A5 c5 [2, 97, 98] (some ⟨w5.heap.size, 0, none⟩) 3 [2, 97, 98] _ (Kd.C_alloc HC5.out _) (C_lit .u8 [2, 97, 98] w5 5 (by simp))).mono ?_
  rintro e w6 ⟨rfl, hD6⟩
  have HD6 := Aside0.mk hD6.below
  clear hD6
  simp only [decide_true]
  have b3 := below_step (below_alloc (Below.refl w2.heap.size w2) _) HB3.out
  have b4 := below_step (below_alloc b3 _) HD4.out
  have b5 := below_step b4 HB5.out
  have b6 := below_step (below_alloc b5 _) HD6.out
  have HI6 := Aside0.mk (HI.out.below b6)
  have HB6 := Aside0.mk (below_then HB0.out HB0.out.size (below_then HB.out HB.out.size b6))
  clear b3 b4 b5 b6 HB3 HD4 HB5 HD6 HB0 HB HC3 HC5 HI
  go_wp2_with (first | (go_at_call 13; refine (good_calls g [97] true w0 w6 HI6.out).mono ?_; rintro e w' ⟨rfl, rfl⟩) | (go_at_call 14; refine (done_calls g [97] true w0 w6 HI6.out).mono ?_; rintro e w' ⟨rfl, rfl⟩))
  go_ret
  exact ⟨rfl, HB6.out⟩
end Go.Proofs.Ytnljhdfmhhmdkaa.Rd

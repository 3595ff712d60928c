/-
  Roomy and Intact of broadsidebook, at bytes: a list in new memory with 80 marks behind it; is it as it was?
-/
import Derived.Test.YtbplemhjhpfkgaaDoorNumD
import Derived.Laws.CopyOwn
namespace Go.Proofs.YtbplemhjhpfkgaaDoor.Rd
open Go.RowKit Go.Proofs.YtbplemhjhpfkgaaDoorW.PrintWords Go.Proofs.YtbplemhjhpfkgaaDoorW.PrintLast Go.Proofs.YtbplemhjhpfkgaaDoorW.PrintMore
set_option linter.unusedVariables false
set_option linter.unusedSimpArgs false

theorem take_set_succ {α : Type} (L : List α) (k : Nat) (v : α) (h : k < L.length) : (L.set k v).take (k + 1) = L.take k ++ [v] := by
  rw [List.take_succ_eq_append_getElem (by simpa using h), List.take_set, List.set_eq_of_length_le (by simp; omega)]
  simp
theorem nums_one (k : IntKind) (xs : List Int) : ∀ v ∈ nums k xs, v.oneCell' = true := by
  intro v hv
  simp only [nums, List.mem_map] at hv
  obtain ⟨x, _, rfl⟩ := hv
  rfl
theorem reads_cells {k : IntKind} {w0 : World} {A : Option Addr} {xs : List Int} (h : Kd.C (Kd.int k) w0 A xs.length xs) (w : World) (o : Obj) (hp : 0 < xs.length) (hw : w = w0 := by rfl) :
    ∃ ad, A = some ad ∧ ∀ j v, (nums k xs)[j]? = some v → (w.alloc o).cell? (ad.add j) = some v := by
  subst hw
  have h2 := Kd.reads_of_C (d := (0 : Int)) (Kd.C_alloc h o)
  obtain ⟨ad, e, hc⟩ := h2.2.2 hp
  refine ⟨ad, e, fun j v hj => ?_⟩
  have hjl : j < xs.length := by
    have := (List.getElem?_eq_some_iff.1 hj).1
    simpa [nums] using this
  rw [hc j hjl]
  rw [nums, List.getElem?_map, List.getElem?_eq_getElem hjl] at hj
  simp at hj
  simp [List.getD_eq_getElem?_getD, List.getElem?_eq_getElem hjl, hj]
theorem C_block {k : IntKind} {w : World} {g : Nat} {t : TypeId} {xs : List Int} (h : w.heap[g]? = some (.cells (nums k xs).toArray t (0, 0))) (hm : xs.length ≤ 9223372036854775807) : Kd.C (Kd.int k) w (some ⟨g, 0, none⟩) xs.length xs := by
  refine Kd.C_of_reads (d := (0 : Int)) (h1 := fun _ => rfl) ⟨rfl, hm, fun _ => ⟨_, rfl, fun j hj => ?_⟩⟩
  rw [add_plain, blk_cell h j]
  simp [nums, List.getD_eq_getElem?_getD, List.getElem?_eq_getElem hj]

set_option maxHeartbeats 1600000 in
theorem roomy_u8 (A : Option Addr) (c : Nat) (xs : List Int) (mark : Int) (w : World) (hr : Kd.C (Kd.int .u8) w A xs.length xs) (hm : xs.length ≤ 1000000) :
    Calls Tryd.prog 38 #[.slice A xs.length c, .int .u8 mark] w fun e w' => ∃ A' c', e = .returned (.slice A' (xs.length + 80) c') ∧ xs.length + 80 ≤ c' ∧ Kd.C (Kd.int .u8) w' A' (xs.length + 80) (xs ++ List.replicate 80 mark) ∧ Below w.heap.size w w' := by
  obtain ⟨M, hM, hmk⟩ : ∃ M : List Value, M.length = xs.length + 80 ∧ ∀ W : World, (Instr.makeSlice 22 (.int .i64 ((xs.length : Int) + 80)) (.int .i64 ((xs.length : Int) + 80))).run Tryd.prog W = .ok (.slice (some ⟨W.heap.size, 0, none⟩) (xs.length + 80) (xs.length + 80)) (W.alloc (.cells M.toArray 5)) := by
    obtain ⟨i0, hi0, hz0, hsz0, hb0⟩ := info_parts infoU8
    refine ⟨(madeCells (Value.int .u8 0).cells ((xs.length + 80) * i0.size)).toList, by simp [size_madeCells, hsz0], fun W => ?_⟩
    have h := run_make (P := Tryd.prog) W 22 5 i0 _ Tryd.underlying22 hi0 hz0 .i64 .i64 ((xs.length : Int) + 80) ((xs.length : Int) + 80) (by omega) (Int.le_refl _) (by rw [hb0]; omega) (by omega)
    rw [show ((xs.length : Int) + 80).toNat = xs.length + 80 by omega] at h
    simpa using h
  have HR := Aside0.mk hr
  have HM := Lib.hid hM
  clear hr hM
  go_enter Tryd.func38, Tryd.ntmps38
  go_wp2_with (first | (with_reducible refine wpList_copy_splice rfl (.tmp 11) (.tmp 12) 22 22 rfl 5 Tryd.underlying22 (by kernel_rfl) (some ⟨w.heap.size, 0, none⟩) A (xs.length + 80) (xs.length + 80) xs.length c rfl rfl w.heap.size 0 M 5 ?hg (nums .u8 xs) ?hn ?hp ?hf ?h1 w.heap.size w ?hb (Nat.le_refl _) ?_; (case hg => exact blk_new w _); (case hn => simp [nums_length]); (case hp => exact fun hpos => ⟨rfl, reads_cells HR.out w _ (by simpa [nums_length] using hpos)⟩); (case hf => rw [HM.out, nums_length]; omega); (case h1 => exact nums_one _ _); (case hb => exact below_alloc (Below.refl _ _) _); intro w1 hg1 hb1; have HG := Lib.hid hg1.out; have HB := Aside0.mk hb1; clear hg1 hb1))
  go_loopw [6] (fun i wr => ∃ k : Nat, xs.length ≤ k ∧ k ≤ xs.length + 80 ∧ i = .int .i64 k ∧ Aside0 (∃ L : List Value, wr.heap[w.heap.size]? = some (.cells L.toArray 5 (0, 0)) ∧ L.length = xs.length + 80 ∧ L.take k = nums .u8 (xs ++ List.replicate (k - xs.length) mark)) ∧ Aside0 (Below w.heap.size w wr)) (fun i _ => xs.length + 80 - (intOf i).toNat)
  case atStart =>
    refine ⟨xs.length, Nat.le_refl _, by omega, rfl, ⟨splice M 0 (nums .u8 xs), HG.out, ?_, ?_⟩, HB⟩
    · rw [length_splice _ _ _ (by rw [HM.out, nums_length]; omega), HM.out]
    · simp [splice, nums]
  case round =>
    obtain ⟨k, hk1, hk2, rfl, HL, HB1⟩ := hrel
    obtain ⟨L, hL1, hL2, hL3⟩ := HL.out
    by_cases hlt : k < xs.length + 80
    · have hcell : wr.cell? ⟨w.heap.size, k, none⟩ = some (L.getD k undef) := by
        rw [blk_cell hL1 k]; simp [List.getD_eq_getElem?_getD, List.getElem?_eq_getElem (show k < L.length by omega)]
      have hfz := blk_frozen hL1 k
      have H1 := Lib.hid hL1
      have H2 := Lib.hid hL2
      have H3 := Lib.hid hL3
      generalize L.getD k undef = old at hcell
      clear hL1 hL2 hL3 HL
      go_wp2
      go_roundw
      case rel =>
        refine ⟨k + 1, by omega, by omega, by go_num, ⟨L.set k (.int .u8 mark), ?_, by simp [H2.out], ?_⟩, ⟨HB1.out.setCell (Nat.le_refl _) _⟩⟩
        · have := blk_set H1.out k (.int .u8 mark)
          simpa using this
        · rw [take_set_succ L k _ (by rw [H2.out]; exact hlt), H3.out, show k + 1 - xs.length = (k - xs.length) + 1 by omega, List.replicate_succ', ← List.append_assoc, nums_append _ (xs ++ _)]
          rfl
      case measure => simp [intOf]; omega
    · obtain rfl : k = xs.length + 80 := by omega
      have HF : Hid (L = nums .u8 (xs ++ List.replicate 80 mark)) := Lib.hid (by rw [Nat.add_sub_cancel_left, List.take_of_length_le (by omega)] at hL3; exact hL3)
      have H1 := Lib.hid hL1
      clear hL1 hL2 hL3 HL
      go_wp2
      go_ret
      have hl : (xs ++ List.replicate 80 mark).length = xs.length + 80 := by simp
      refine ⟨some ⟨w.heap.size, 0, none⟩, xs.length + 80, rfl, Nat.le_refl _, ?_, HB1.out⟩
      have h1 := H1.out
      rw [HF.out] at h1
      have h2 := C_block h1 (by rw [hl]; omega)
      rw [hl] at h2
      exact h2

set_option maxHeartbeats 1600000 in
theorem intact_u8 (A : Option Addr) (c : Nat) (xs : List Int) (mark : Int) (B : Option Addr) (d : Nat) (w : World) (hr : Kd.C (Kd.int .u8) w A (xs.length + 80) (xs ++ List.replicate 80 mark)) (hc : xs.length + 80 ≤ c) (hs : Kd.C (Kd.int .u8) w B xs.length xs) (hm : xs.length ≤ 1000000) :
    Calls Tryd.prog 39 #[.slice A (xs.length + 80) c, .slice B xs.length d, .int .u8 mark] w fun e w' => e = .returned (.bool true) ∧ Drawn0 w w' := by
  have hl : (xs ++ List.replicate 80 mark).length = xs.length + 80 := by simp
  obtain ⟨i0, hi0, _, hsz0, _⟩ := info_parts infoU8
  obtain ⟨hcut, hA, hC⟩ := print_take_of (P := Tryd.prog) (Value.int .u8) 0 22 5 .i64 Tryd.underlying22 hi0 hsz0 A c (xs ++ List.replicate 80 mark) (xs.length : Int) (by omega) (by rw [hl]; omega) (by rw [hl]; exact hc)
  have ht : (xs ++ List.replicate 80 mark).take (xs.length : Int).toNat = xs := by simp
  have hr1 := Kd.C_of_reads (h1 := fun _ => rfl) (hA _ (Kd.reads_of_C (by rw [hl]; exact hr)))
  rw [ht] at hr1 hC hcut
  rw [hl] at hcut
  have hcut' := hcut
  clear hcut
  have HR1 := Aside0.mk hr1
  have HS := Aside0.mk hs
  have HR := Aside0.mk hr
  clear hr1 hs hr hA hi0 hsz0 ht hl
  go_enter Tryd.func39, Tryd.ntmps39
  go_wp2_with (first | (go_at_call 22; refine (same_u8 A c xs B d xs _ HR1.out HS.out).mono ?_; rintro e w' ⟨rfl, ⟨nd, rfl⟩⟩; simp only [decide_true]))
  go_loopw [7] (fun i wr => ∃ k : Nat, xs.length ≤ k ∧ k ≤ xs.length + 80 ∧ i = .int .i64 k ∧ Drawn0 w wr) (fun i _ => xs.length + 80 - (intOf i).toNat)
  case atStart => exact ⟨xs.length, Nat.le_refl _, by omega, rfl, Drawn0.step (Drawn0.refl _) _⟩
  case round =>
    obtain ⟨k, hk1, hk2, rfl, ⟨q, rfl⟩⟩ := hrel
    by_cases hlt : k < xs.length + 80
    · obtain ⟨ad, rfl, hcx⟩ := bytes_at HR.out k hlt
      have hg : (xs ++ List.replicate 80 mark).getD k 0 = mark := by
        rw [List.getD_eq_getElem?_getD, List.getElem?_append_right hk1, List.getElem?_replicate, if_pos (by omega)]; rfl
      rw [hg] at hcx
      have HG := Lib.hid hg
      clear hg
      go_wp2
      go_roundw
      case rel => exact ⟨k + 1, by omega, by omega, by go_num, by repeat (first | exact Drawn0.refl _ | apply Drawn0.step)⟩
      case measure => simp [intOf]; omega
    · obtain rfl : k = xs.length + 80 := by omega
      go_wp2
      go_ret
      exact ⟨rfl, by repeat (first | exact Drawn0.refl _ | apply Drawn0.step)⟩

end Go.Proofs.YtbplemhjhpfkgaaDoor.Rd

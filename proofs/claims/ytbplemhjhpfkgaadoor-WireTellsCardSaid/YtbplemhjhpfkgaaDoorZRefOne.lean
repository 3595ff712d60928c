/-
 The reference's Name, RightValue, RightOne, RightID say what the program's say.
-/
import Derived.Test.YtbplemhjhpfkgaaDoorZWirePure
import Derived.Test.YtbplemhjhpfkgaaDoorZWords
import Derived.Laws.Cover1
namespace Go.Proofs.YtbplemhjhpfkgaaDoor.Wr
open Go.RowKit YtbplemhjhpfkgaaDoorW.PrintWords YtbplemhjhpfkgaaDoorW.PrintLast YtbplemhjhpfkgaaDoorW.PrintMore Rd
open Go.Proofs.YtbplemhjhpfkgaaDoor.Cd (Co At kCo kAt at_Co at_At)
set_option linter.unusedVariables false
set_option linter.unusedSimpArgs false
theorem empty_size (s : ByteArray) : s.toList.isEmpty = decide (s.size = 0) := by
 rw [ByteArray.toList_eq]
 show s.data.toList.isEmpty = decide (s.data.size = 0)
 rw [Bool.eq_iff_iff, decide_eq_true_iff, List.isEmpty_iff]
 constructor
 ·intro h; rw [← Array.length_toList, h]; rfl
 ·intro h; exact List.eq_nil_of_length_eq_zero (by rw [Array.length_toList]; exact h)
set_option maxHeartbeats 2000000 in
theorem rid_right (c s : Int) (w : World) : Calls Tryd.prog 71 #[.agg #[.int .i64 c, .int .i64 s]] w fun e w' => e = .returned (.bool (idOk c s)) ∧ Below w.heap.size w w' := by
 by_cases h0 : 0 ≤ c
 case neg =>
  have b0 : decide (0 ≤ c) = false := decide_eq_false h0; have HF : Hid (idOk c s = false) := Lib.hid (by simp only [idOk, b0, Bool.false_and]); clear h0
  go_enter Tryd.func71, Tryd.ntmps71
  go_wp2; go_ret; exact ⟨by rw [HF.out]; rfl, by repeat (first | exact Below.refl _ _ | apply below_alloc)⟩
 have b0 : decide (0 ≤ c) = true := decide_eq_true h0
 by_cases h1 : c < 32
 case neg =>
  have b1 : decide (c < 32) = false := decide_eq_false h1; have HF : Hid (idOk c s = false) := Lib.hid (by simp only [idOk, b0, b1, Bool.false_and, Bool.and_false]); clear h0 h1
  go_enter Tryd.func71, Tryd.ntmps71
  go_wp2; go_ret; exact ⟨by rw [HF.out]; rfl, by repeat (first | exact Below.refl _ _ | apply below_alloc)⟩
 have b1 : decide (c < 32) = true := decide_eq_true h1; have HF : Hid (idOk c s = decide (0 ≤ s)) := Lib.hid (by simp only [idOk, b0, b1, Bool.true_and]); clear h0 h1
 go_enter Tryd.func71, Tryd.ntmps71
 go_wp2; go_ret; exact ⟨by rw [HF.out]; rfl, by repeat (first | exact Below.refl _ _ | apply below_alloc)⟩
set_option maxHeartbeats 4000000 in
theorem rname_calls (s : ByteArray) (hs : Sm s) (w : World) : Calls Tryd.prog 98 #[.string s] w fun e w' => e = .returned (.bool (nameOk s)) ∧ Below w.heap.size w w' := by
 have hm : s.size ≤ 9223372036854775807 := hs
 go_enter Tryd.func98, Tryd.ntmps98
 go_wp2
 go_loopw [3] (fun i wr => ∃ j : Nat, j ≤ s.size ∧ i = .int .i64 (j : Int) ∧ Aside0 ((List.range j).all (letter s) = true) ∧ Aside0 (Below w.heap.size w wr)) (fun i _ => s.size - (intOf i).toNat)
 case atStart => exact ⟨0, Nat.zero_le _, rfl, ⟨rfl⟩, ⟨by repeat (first | exact Below.refl _ _ | apply below_alloc | apply below_drew)⟩⟩
 case round =>
  obtain ⟨j, hj, rfl, HAll, HW⟩ := hrel
  by_cases hlt : j < s.size
  ·obtain ⟨cc, hcd⟩ : ∃ cc, bt s (j : Int) = cc := ⟨_, rfl⟩; have hcc : ((s[j]'hlt).toNat : Int) = cc := (bt_at s j hlt).trans hcd; have HC := Lib.hid hcd; clear hcd
   by_cases h1 : cc < 97
   ·have b1 : decide (cc < 97) = true := decide_eq_true h1; have HF : Hid (nameOk s = false) := Lib.hid (by unfold nameOk; rw [range_not (f := letter s) (j := j) (by unfold letter; rw [HC.out]; exact decide_eq_false (by omega)) hlt]; rfl); go_wp2; go_ret; exact ⟨by rw [HF.out]; rfl, HW.out⟩
   have b1 : decide (cc < 97) = false := decide_eq_false h1
   by_cases h2 : 122 < cc
   ·have b2 : decide (122 < cc) = true := decide_eq_true h2; have HF : Hid (nameOk s = false) := Lib.hid (by unfold nameOk; rw [range_not (f := letter s) (j := j) (by unfold letter; rw [HC.out]; exact decide_eq_false (by omega)) hlt]; rfl); go_wp2; go_ret; exact ⟨by rw [HF.out]; rfl, HW.out⟩
   have b2 : decide (122 < cc) = false := decide_eq_false h2; have HS := Lib.hid (range_snoc (f := letter s) HAll.out (by unfold letter; rw [HC.out]; exact decide_eq_true (by omega))); go_wp2
   go_roundw
   case rel => exact ⟨j + 1, by omega, by go_num, ⟨HS.out⟩, HW⟩
   case measure => simp [intOf]; omega
  ·obtain rfl : j = s.size := by omega
   by_cases h3 : s.size = 0
   ·have HF : Hid (nameOk s = false) := Lib.hid (by unfold nameOk; rw [empty_size, decide_eq_true h3]; simp); have b3 : decide ((1 : Int) ≤ (s.size : Int)) = false := decide_eq_false (by omega); go_wp2; go_ret; exact ⟨by rw [HF.out]; rfl, HW.out⟩
   have b3 : 0 < s.size := by omega
   have b4 : (1 : Int) ≤ (s.size : Int) := by omega
   have HF : Hid (nameOk s = decide ((s.size : Int) ≤ 12)) := Lib.hid (by unfold nameOk; rw [empty_size, decide_eq_false h3, HAll.out]; simp); clear h3; go_wp2; go_ret; exact ⟨by rw [HF.out]; rfl, HW.out⟩
set_option maxHeartbeats 2000000 in
theorem rval_calls (t : Bool) (n : Int) (x : ByteArray) (w : World) : Calls Tryd.prog 99 #[.agg #[.bool t, .int .i64 n, .string x]] w fun e w' => e = .returned (.bool (valOk t n x)) ∧ Below w.heap.size w w' := by
 cases t
 ·go_enter Tryd.func99, Tryd.ntmps99
  go_wp2; go_ret; exact ⟨rfl, by repeat (first | exact Below.refl _ _ | apply below_alloc)⟩
 by_cases h0 : n = 0
 ·subst h0; have HF : Hid (valOk true 0 x = decide ((x.size : Int) ≤ 12)) := Lib.hid (by simp [valOk])
  go_enter Tryd.func99, Tryd.ntmps99
  go_wp2; go_ret; exact ⟨by rw [HF.out]; rfl, by repeat (first | exact Below.refl _ _ | apply below_alloc)⟩
 have b0 : (n == 0) = false := by simp [h0]
 have HF : Hid (valOk true n x = false) := Lib.hid (by simp [valOk, h0]); clear h0
 go_enter Tryd.func99, Tryd.ntmps99
 go_wp2; go_ret; exact ⟨by rw [HF.out]; rfl, by repeat (first | exact Below.refl _ _ | apply below_alloc)⟩
set_option maxHeartbeats 8000000 in
theorem rone_calls (nm : ByteArray) (kd lo hi : Int) (tx : ByteArray) (hs : Sm nm) (w : World) : Calls Tryd.prog 97 #[.agg #[.string nm, .int .i64 kd, .int .i64 lo, .int .i64 hi, .string tx]] w fun e w' => e = .returned (.bool (oneOk (nm, kd, lo, hi, tx))) ∧ Below w.heap.size w w' := by
 have HS := sd hs; clear hs; have HB := sd (below_alloc (Below.refl w.heap.size w) (.cells #[.string nm, .int .i64 kd, .int .i64 lo, .int .i64 hi, .string tx] 44)); have HX := sd (blk_new w (.cells #[.string nm, .int .i64 kd, .int .i64 lo, .int .i64 hi, .string tx] 44)); obtain ⟨b, hb⟩ : ∃ b, nameOk nm = b := ⟨_, rfl⟩; have HN := Lib.hid hb; clear hb
 have HZ : Hid (oneOk (nm, kd, lo, hi, tx) = (b && (if kd = 1 then decide (lo ≤ hi) && tx.toList.isEmpty
  else if kd = 3 then !decide ((tx.size : Int) = 12) && (decide (lo = 0) && (decide (hi = 0) && decide ((tx.size : Int) ≤ 12)))
  else if kd = 2 then decide (lo = 0) && (decide (hi = 0) && decide ((tx.size : Int) ≤ 12))
  else false))) := Lib.hid (by unfold oneOk; rw [HN.out])
 by_cases k1 : kd = 1
 ·subst k1; cases b
  case false =>
   have HF : Hid (oneOk (nm, 1, lo, hi, tx) = false) := Lib.hid (by rw [HZ.out]; simp [] <;> (intros; omega))
   go_enter Tryd.func97, Tryd.ntmps97
   go_wp2_with (first | (go_at_call 98; refine (rname_calls nm HS.out _).mono ?_; rintro e w1 ⟨he, hB⟩; rw [HN.out] at he; subst he; replace HX := sd (blk_below HX.out hB); have q0 := blk_cell HX.out 0; have q1 := blk_cell HX.out 1; have q2 := blk_cell HX.out 2; have q3 := blk_cell HX.out 3; have q4 := blk_cell HX.out 4; replace HB := sd (below_step HB.out hB); clear hB)); go_ret; exact ⟨by rw [HF.out]; rfl, HB.out⟩
  by_cases t0 : tx.toList.isEmpty = true
  case neg =>
   have b0 : tx.toList.isEmpty = false := Bool.eq_false_iff.mpr t0; have HF : Hid (oneOk (nm, 1, lo, hi, tx) = false) := Lib.hid (by rw [HZ.out]; simp [b0] <;> (intros; omega))
   go_enter Tryd.func97, Tryd.ntmps97
   go_wp2_with (first | (go_at_call 98; refine (rname_calls nm HS.out _).mono ?_; rintro e w1 ⟨he, hB⟩; rw [HN.out] at he; subst he; replace HX := sd (blk_below HX.out hB); have q0 := blk_cell HX.out 0; have q1 := blk_cell HX.out 1; have q2 := blk_cell HX.out 2; have q3 := blk_cell HX.out 3; have q4 := blk_cell HX.out 4; replace HB := sd (below_step HB.out hB); clear hB)); go_ret; exact ⟨by rw [HF.out]; rfl, HB.out⟩
  by_cases l1 : lo ≤ hi
  case neg =>
   have b1 : decide (lo ≤ hi) = false := decide_eq_false l1; have HF : Hid (oneOk (nm, 1, lo, hi, tx) = false) := Lib.hid (by rw [HZ.out]; simp [l1] <;> (intros; omega))
   go_enter Tryd.func97, Tryd.ntmps97
   go_wp2_with (first | (go_at_call 98; refine (rname_calls nm HS.out _).mono ?_; rintro e w1 ⟨he, hB⟩; rw [HN.out] at he; subst he; replace HX := sd (blk_below HX.out hB); have q0 := blk_cell HX.out 0; have q1 := blk_cell HX.out 1; have q2 := blk_cell HX.out 2; have q3 := blk_cell HX.out 3; have q4 := blk_cell HX.out 4; replace HB := sd (below_step HB.out hB); clear hB)); go_ret; exact ⟨by rw [HF.out]; rfl, HB.out⟩
  have b1 : decide (lo ≤ hi) = true := decide_eq_true l1; have HF : Hid (oneOk (nm, 1, lo, hi, tx) = true) := Lib.hid (by rw [HZ.out]; simp [l1, t0] <;> (intros; omega))
  go_enter Tryd.func97, Tryd.ntmps97
  go_wp2_with (first | (go_at_call 98; refine (rname_calls nm HS.out _).mono ?_; rintro e w1 ⟨he, hB⟩; rw [HN.out] at he; subst he; replace HX := sd (blk_below HX.out hB); have q0 := blk_cell HX.out 0; have q1 := blk_cell HX.out 1; have q2 := blk_cell HX.out 2; have q3 := blk_cell HX.out 3; have q4 := blk_cell HX.out 4; replace HB := sd (below_step HB.out hB); clear hB)); go_ret; exact ⟨by rw [HF.out]; rfl, HB.out⟩
 have kb1 : (kd == 1) = false := by simp [k1]
 by_cases k2 : kd = 2
 ·subst k2; cases b
  case false =>
   have HF : Hid (oneOk (nm, 2, lo, hi, tx) = false) := Lib.hid (by rw [HZ.out]; simp [] <;> (intros; omega))
   go_enter Tryd.func97, Tryd.ntmps97
   go_wp2_with (first | (go_at_call 98; refine (rname_calls nm HS.out _).mono ?_; rintro e w1 ⟨he, hB⟩; rw [HN.out] at he; subst he; replace HX := sd (blk_below HX.out hB); have q0 := blk_cell HX.out 0; have q1 := blk_cell HX.out 1; have q2 := blk_cell HX.out 2; have q3 := blk_cell HX.out 3; have q4 := blk_cell HX.out 4; replace HB := sd (below_step HB.out hB); clear hB)); go_ret; exact ⟨by rw [HF.out]; rfl, HB.out⟩
  by_cases l0 : lo = 0
  case neg =>
   have b0 : (lo == 0) = false := by simp [l0]
   have HF : Hid (oneOk (nm, 2, lo, hi, tx) = false) := Lib.hid (by rw [HZ.out]; simp [l0] <;> (intros; omega))
   go_enter Tryd.func97, Tryd.ntmps97
   go_wp2_with (first | (go_at_call 98; refine (rname_calls nm HS.out _).mono ?_; rintro e w1 ⟨he, hB⟩; rw [HN.out] at he; subst he; replace HX := sd (blk_below HX.out hB); have q0 := blk_cell HX.out 0; have q1 := blk_cell HX.out 1; have q2 := blk_cell HX.out 2; have q3 := blk_cell HX.out 3; have q4 := blk_cell HX.out 4; replace HB := sd (below_step HB.out hB); clear hB)); go_ret; exact ⟨by rw [HF.out]; rfl, HB.out⟩
  subst l0
  by_cases l1 : hi = 0
  case neg =>
   have b1 : (hi == 0) = false := by simp [l1]
   have HF : Hid (oneOk (nm, 2, 0, hi, tx) = false) := Lib.hid (by rw [HZ.out]; simp [l1] <;> (intros; omega))
   go_enter Tryd.func97, Tryd.ntmps97
   go_wp2_with (first | (go_at_call 98; refine (rname_calls nm HS.out _).mono ?_; rintro e w1 ⟨he, hB⟩; rw [HN.out] at he; subst he; replace HX := sd (blk_below HX.out hB); have q0 := blk_cell HX.out 0; have q1 := blk_cell HX.out 1; have q2 := blk_cell HX.out 2; have q3 := blk_cell HX.out 3; have q4 := blk_cell HX.out 4; replace HB := sd (below_step HB.out hB); clear hB)); go_ret; exact ⟨by rw [HF.out]; rfl, HB.out⟩
  subst l1
  by_cases s1 : (tx.size : Int) < 12
  case pos =>
   have b2 : decide ((tx.size : Int) < 12) = true := decide_eq_true s1; have t2 : ¬ tx.size = 12 := by omega
   have t3 : tx.size ≤ 12 := by omega
   have t4 : tx.size < 12 := by omega
   have HF : Hid (oneOk (nm, 2, 0, 0, tx) = true) := Lib.hid (by rw [HZ.out]; simp [t2, t3] <;> (intros; omega))
   go_enter Tryd.func97, Tryd.ntmps97
   go_wp2_with (first | (go_at_call 98; refine (rname_calls nm HS.out _).mono ?_; rintro e w1 ⟨he, hB⟩; rw [HN.out] at he; subst he; replace HX := sd (blk_below HX.out hB); have q0 := blk_cell HX.out 0; have q1 := blk_cell HX.out 1; have q2 := blk_cell HX.out 2; have q3 := blk_cell HX.out 3; have q4 := blk_cell HX.out 4; replace HB := sd (below_step HB.out hB); clear hB)); go_ret; exact ⟨by rw [HF.out]; rfl, HB.out⟩
  have b2 : decide ((tx.size : Int) < 12) = false := decide_eq_false s1; have t6 : 12 ≤ tx.size := by omega
  by_cases s2 : (tx.size : Int) = 12
  case pos =>
   have b3 : ((tx.size : Int) == 12) = true := beq_iff_eq.mpr s2; have t3 : tx.size ≤ 12 := by omega
   have HF : Hid (oneOk (nm, 2, 0, 0, tx) = true) := Lib.hid (by rw [HZ.out]; simp [t3] <;> (intros; omega))
   go_enter Tryd.func97, Tryd.ntmps97
   go_wp2_with (first | (go_at_call 98; refine (rname_calls nm HS.out _).mono ?_; rintro e w1 ⟨he, hB⟩; rw [HN.out] at he; subst he; replace HX := sd (blk_below HX.out hB); have q0 := blk_cell HX.out 0; have q1 := blk_cell HX.out 1; have q2 := blk_cell HX.out 2; have q3 := blk_cell HX.out 3; have q4 := blk_cell HX.out 4; replace HB := sd (below_step HB.out hB); clear hB)); go_ret; exact ⟨by rw [HF.out]; rfl, HB.out⟩
  have b3 : ((tx.size : Int) == 12) = false := beq_eq_false_iff_ne.mpr s2; have t3 : ¬ tx.size ≤ 12 := by omega
  have HF : Hid (oneOk (nm, 2, 0, 0, tx) = false) := Lib.hid (by rw [HZ.out]; simp [t3] <;> (intros; omega))
  go_enter Tryd.func97, Tryd.ntmps97
  go_wp2_with (first | (go_at_call 98; refine (rname_calls nm HS.out _).mono ?_; rintro e w1 ⟨he, hB⟩; rw [HN.out] at he; subst he; replace HX := sd (blk_below HX.out hB); have q0 := blk_cell HX.out 0; have q1 := blk_cell HX.out 1; have q2 := blk_cell HX.out 2; have q3 := blk_cell HX.out 3; have q4 := blk_cell HX.out 4; replace HB := sd (below_step HB.out hB); clear hB)); go_ret; exact ⟨by rw [HF.out]; rfl, HB.out⟩
 have kb2 : (kd == 2) = false := by simp [k2]
 by_cases k3 : kd = 3
 ·subst k3; cases b
  case false =>
   have HF : Hid (oneOk (nm, 3, lo, hi, tx) = false) := Lib.hid (by rw [HZ.out]; simp [] <;> (intros; omega))
   go_enter Tryd.func97, Tryd.ntmps97
   go_wp2_with (first | (go_at_call 98; refine (rname_calls nm HS.out _).mono ?_; rintro e w1 ⟨he, hB⟩; rw [HN.out] at he; subst he; replace HX := sd (blk_below HX.out hB); have q0 := blk_cell HX.out 0; have q1 := blk_cell HX.out 1; have q2 := blk_cell HX.out 2; have q3 := blk_cell HX.out 3; have q4 := blk_cell HX.out 4; replace HB := sd (below_step HB.out hB); clear hB)); go_ret; exact ⟨by rw [HF.out]; rfl, HB.out⟩
  by_cases l0 : lo = 0
  case neg =>
   have b0 : (lo == 0) = false := by simp [l0]
   have HF : Hid (oneOk (nm, 3, lo, hi, tx) = false) := Lib.hid (by rw [HZ.out]; simp [l0] <;> (intros; omega))
   go_enter Tryd.func97, Tryd.ntmps97
   go_wp2_with (first | (go_at_call 98; refine (rname_calls nm HS.out _).mono ?_; rintro e w1 ⟨he, hB⟩; rw [HN.out] at he; subst he; replace HX := sd (blk_below HX.out hB); have q0 := blk_cell HX.out 0; have q1 := blk_cell HX.out 1; have q2 := blk_cell HX.out 2; have q3 := blk_cell HX.out 3; have q4 := blk_cell HX.out 4; replace HB := sd (below_step HB.out hB); clear hB)); go_ret; exact ⟨by rw [HF.out]; rfl, HB.out⟩
  subst l0
  by_cases l1 : hi = 0
  case neg =>
   have b1 : (hi == 0) = false := by simp [l1]
   have HF : Hid (oneOk (nm, 3, 0, hi, tx) = false) := Lib.hid (by rw [HZ.out]; simp [l1] <;> (intros; omega))
   go_enter Tryd.func97, Tryd.ntmps97
   go_wp2_with (first | (go_at_call 98; refine (rname_calls nm HS.out _).mono ?_; rintro e w1 ⟨he, hB⟩; rw [HN.out] at he; subst he; replace HX := sd (blk_below HX.out hB); have q0 := blk_cell HX.out 0; have q1 := blk_cell HX.out 1; have q2 := blk_cell HX.out 2; have q3 := blk_cell HX.out 3; have q4 := blk_cell HX.out 4; replace HB := sd (below_step HB.out hB); clear hB)); go_ret; exact ⟨by rw [HF.out]; rfl, HB.out⟩
  subst l1
  by_cases s1 : (tx.size : Int) < 12
  case pos =>
   have b2 : decide ((tx.size : Int) < 12) = true := decide_eq_true s1; have t2 : ¬ tx.size = 12 := by omega
   have t3 : tx.size ≤ 12 := by omega
   have t4 : tx.size < 12 := by omega
   have HF : Hid (oneOk (nm, 3, 0, 0, tx) = true) := Lib.hid (by rw [HZ.out]; simp [t2, t3] <;> (intros; omega))
   go_enter Tryd.func97, Tryd.ntmps97
   go_wp2_with (first | (go_at_call 98; refine (rname_calls nm HS.out _).mono ?_; rintro e w1 ⟨he, hB⟩; rw [HN.out] at he; subst he; replace HX := sd (blk_below HX.out hB); have q0 := blk_cell HX.out 0; have q1 := blk_cell HX.out 1; have q2 := blk_cell HX.out 2; have q3 := blk_cell HX.out 3; have q4 := blk_cell HX.out 4; replace HB := sd (below_step HB.out hB); clear hB)); go_ret; exact ⟨by rw [HF.out]; rfl, HB.out⟩
  have b2 : decide ((tx.size : Int) < 12) = false := decide_eq_false s1; have t5 : ¬ tx.size < 12 := by omega
  have t6 : 12 ≤ tx.size := by omega
  have HQ : Hid (tx.size ≤ 12 → tx.size = 12) := Lib.hid (by omega); have HF : Hid (oneOk (nm, 3, 0, 0, tx) = false) := Lib.hid (by rw [HZ.out]; simp [] <;> (intros; omega))
  go_enter Tryd.func97, Tryd.ntmps97
  go_wp2_with (first | (go_at_call 98; refine (rname_calls nm HS.out _).mono ?_; rintro e w1 ⟨he, hB⟩; rw [HN.out] at he; subst he; replace HX := sd (blk_below HX.out hB); have q0 := blk_cell HX.out 0; have q1 := blk_cell HX.out 1; have q2 := blk_cell HX.out 2; have q3 := blk_cell HX.out 3; have q4 := blk_cell HX.out 4; replace HB := sd (below_step HB.out hB); clear hB)); go_ret; exact ⟨by rw [HF.out]; rfl, HB.out⟩
 have kb3 : (kd == 3) = false := by simp [k3]
 have HF : Hid (oneOk (nm, kd, lo, hi, tx) = false) := Lib.hid (by rw [HZ.out]; simp [k1, k2, k3] <;> (intros; omega))
 go_enter Tryd.func97, Tryd.ntmps97
 go_wp2_with (first | (go_at_call 98; refine (rname_calls nm HS.out _).mono ?_; rintro e w1 ⟨he, hB⟩; rw [HN.out] at he; subst he; replace HX := sd (blk_below HX.out hB); have q0 := blk_cell HX.out 0; have q1 := blk_cell HX.out 1; have q2 := blk_cell HX.out 2; have q3 := blk_cell HX.out 3; have q4 := blk_cell HX.out 4; replace HB := sd (below_step HB.out hB); clear hB)); go_ret; exact ⟨by rw [HF.out]; rfl, HB.out⟩
end Go.Proofs.YtbplemhjhpfkgaaDoor.Wr

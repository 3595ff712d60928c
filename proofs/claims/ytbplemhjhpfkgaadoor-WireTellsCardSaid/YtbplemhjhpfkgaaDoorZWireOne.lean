/-
 tuple.Name, value.Right, pred.RightOne, pred.Right, tuple.Right, wire.parts, wire.rightID: what they say.
-/
import Derived.Test.YtbplemhjhpfkgaaDoorZWirePure
import Derived.Test.YtbplemhjhpfkgaaDoorZWords
import Derived.Laws.Cover1
namespace Go.Proofs.YtbplemhjhpfkgaaDoor.Wr
open Go.RowKit YtbplemhjhpfkgaaDoorW.PrintWords YtbplemhjhpfkgaaDoorW.PrintLast YtbplemhjhpfkgaaDoorW.PrintMore Rd
open Go.Proofs.YtbplemhjhpfkgaaDoor.Cd (Co At kCo kAt at_Co at_At)
set_option linter.unusedVariables false
set_option linter.unusedSimpArgs false
theorem wanted_undef {ops : Array Oper} {a : Act} {o og : Oper} {g : Nat} {t : Tmp} {u : Bool} (hg : o.guard = some (g, u)) (ho : ops[g]? = some og) (hd : og.dst = some t) (hv : a.tmps[t]? = some undef) : Region.wanted o (yielded ops a.tmps) = false := by
 cases u <;> simp_all [Region.wanted, yielded, undef]
set_option maxHeartbeats 2000000 in
theorem parts_calls (k : Int) (w : World) : Calls Tryd.prog 55 #[.int .i64 k] w fun e w' => ∃ n, e = .returned (.tuple #[.int .i64 n, .bool (kindOk k)]) ∧ (Go.bits .and .i64 n 1 == 0) = (!asksI k) ∧ (Go.bits .and .i64 n 2 == 0) = (!asksP k) ∧ (Go.bits .and .i64 n 4 == 0) = (!asksS k) ∧ Below w.heap.size w w' := by
 by_cases h5 : k = 5
 ·subst h5
  go_enter Tryd.func55, Tryd.ntmps55
  go_wp2; go_ret2; exact ⟨_, rfl, by kernel_rfl, by kernel_rfl, by kernel_rfl, by repeat (first | exact Below.refl _ _ | apply below_alloc)⟩
 by_cases h3 : k = 3
 ·subst h3
  go_enter Tryd.func55, Tryd.ntmps55
  go_wp2; go_ret2; exact ⟨_, rfl, by kernel_rfl, by kernel_rfl, by kernel_rfl, by repeat (first | exact Below.refl _ _ | apply below_alloc)⟩
 by_cases h4 : k = 4
 ·subst h4
  go_enter Tryd.func55, Tryd.ntmps55
  go_wp2; go_ret2; exact ⟨_, rfl, by kernel_rfl, by kernel_rfl, by kernel_rfl, by repeat (first | exact Below.refl _ _ | apply below_alloc)⟩
 by_cases h1 : k = 1
 ·subst h1
  go_enter Tryd.func55, Tryd.ntmps55
  go_wp2; go_ret2; exact ⟨_, rfl, by kernel_rfl, by kernel_rfl, by kernel_rfl, by repeat (first | exact Below.refl _ _ | apply below_alloc)⟩
 by_cases h2 : k = 2
 ·subst h2
  go_enter Tryd.func55, Tryd.ntmps55
  go_wp2; go_ret2; exact ⟨_, rfl, by kernel_rfl, by kernel_rfl, by kernel_rfl, by repeat (first | exact Below.refl _ _ | apply below_alloc)⟩
 have b5 : (k == 5) = false := by simp [h5]
 have b3 : (k == 3) = false := by simp [h3]
 have b4 : (k == 4) = false := by simp [h4]
 have b1 : (k == 1) = false := by simp [h1]
 have b2 : (k == 2) = false := by simp [h2]
 have HK : Hid (kindOk k = false ∧ asksI k = false ∧ asksP k = false ∧ asksS k = false) := Lib.hid (by simp only [kindOk, asksI, asksP, asksS, decide_eq_false_iff_not]; omega)
 go_enter Tryd.func55, Tryd.ntmps55
 go_wp2; go_ret2; obtain ⟨e1, e2, e3, e4⟩ := HK.out; exact ⟨0, by rw [e1]; rfl, by rw [e2]; kernel_rfl, by rw [e3]; kernel_rfl, by rw [e4]; kernel_rfl, by repeat (first | exact Below.refl _ _ | apply below_alloc)⟩
set_option maxHeartbeats 2000000 in
theorem rightID_calls (c s : Int) (w : World) : Calls Tryd.prog 56 #[.agg #[.int .i64 c, .int .i64 s]] w fun e w' => e = .returned (.bool (idOk c s)) ∧ Below w.heap.size w w' := by
 by_cases h0 : 0 ≤ c
 case neg =>
  have b0 : decide (0 ≤ c) = false := decide_eq_false h0; have HF : Hid (idOk c s = false) := Lib.hid (by simp only [idOk, b0, Bool.false_and]); clear h0
  go_enter Tryd.func56, Tryd.ntmps56
  go_wp2; go_ret; exact ⟨by rw [HF.out]; rfl, by repeat (first | exact Below.refl _ _ | apply below_alloc)⟩
 have b0 : decide (0 ≤ c) = true := decide_eq_true h0
 by_cases h1 : c < 32
 case neg =>
  have b1 : decide (c < 32) = false := decide_eq_false h1; have HF : Hid (idOk c s = false) := Lib.hid (by simp only [idOk, b0, b1, Bool.false_and, Bool.and_false]); clear h0 h1
  go_enter Tryd.func56, Tryd.ntmps56
  go_wp2; go_ret; exact ⟨by rw [HF.out]; rfl, by repeat (first | exact Below.refl _ _ | apply below_alloc)⟩
 have b1 : decide (c < 32) = true := decide_eq_true h1; have HF : Hid (idOk c s = decide (0 ≤ s)) := Lib.hid (by simp only [idOk, b0, b1, Bool.true_and]); clear h0 h1
 go_enter Tryd.func56, Tryd.ntmps56
 go_wp2; go_ret; exact ⟨by rw [HF.out]; rfl, by repeat (first | exact Below.refl _ _ | apply below_alloc)⟩
set_option maxHeartbeats 4000000 in
theorem name_calls (s : ByteArray) (hs : Sm s) (w : World) : Calls Tryd.prog 88 #[.string s] w fun e w' => e = .returned (.bool (nameOk s)) ∧ Below w.heap.size w w' := by
 have hm : s.size ≤ 9223372036854775807 := hs
 go_enter Tryd.func88, Tryd.ntmps88
 go_wp2
 go_loopw [6] (fun i wr => ∃ j : Nat, j ≤ s.size ∧ i = .int .i64 (j : Int) ∧ Aside0 ((List.range j).all (letter s) = true) ∧ Aside0 (Below w.heap.size w wr)) (fun i _ => s.size - (intOf i).toNat)
 case atStart => exact ⟨0, Nat.zero_le _, rfl, ⟨rfl⟩, ⟨by repeat (first | exact Below.refl _ _ | apply below_alloc | apply below_drew)⟩⟩
 case round =>
  obtain ⟨j, hj, rfl, HAll, HW⟩ := hrel
  by_cases hlt : j < s.size
  ·obtain ⟨cc, hcd⟩ : ∃ cc, bt s (j : Int) = cc := ⟨_, rfl⟩; have hcc : ((s[j]'hlt).toNat : Int) = cc := (bt_at s j hlt).trans hcd; have HC := Lib.hid hcd; clear hcd
   by_cases h1 : cc < 97
   ·have b1 : decide (cc < 97) = true := decide_eq_true h1; have HF : Hid (nameOk s = false) := Lib.hid (by unfold nameOk; rw [range_not (f := letter s) (j := j) (by unfold letter; rw [HC.out]; exact decide_eq_false (by omega)) hlt]; rfl); go_wp2; go_ret; exact ⟨by rw [HF.out]; rfl, HW.out⟩
   have b1 : decide (cc < 97) = false := decide_eq_false h1
   by_cases h2 : 122 < cc
   ·have b2 : decide (122 < cc) = true := decide_eq_true h2; have HF : Hid (nameOk s = false) := Lib.hid (by unfold nameOk; rw [range_not (f := letter s) (j := j) (by unfold letter; rw [HC.out]; exact decide_eq_false (by omega)) hlt]; rfl); go_wp2; go_ret; exact ⟨by rw [HF.out]; rfl, HW.out⟩
   have b2 : decide (122 < cc) = false := decide_eq_false h2; have HS := Lib.hid (range_snoc (f := letter s) HAll.out (by unfold letter; rw [HC.out]; exact decide_eq_true (by omega))); go_wp2
   go_roundw
   case rel => exact ⟨j + 1, by omega, by go_num, ⟨HS.out⟩, HW⟩
   case measure => simp [intOf]; omega
  ·obtain rfl : j = s.size := by omega
   have hlb : decide ((s.size : Int) < (s.size : Int)) = false := decide_eq_false (by omega)
   by_cases h3 : s.toList.isEmpty = true
   ·have b3 : s.toList.isEmpty = true := h3; have HF : Hid (nameOk s = false) := Lib.hid (by unfold nameOk; rw [b3]; simp); clear h3; go_wp2; go_ret; exact ⟨by rw [HF.out]; rfl, HW.out⟩
   have b3 : s.toList.isEmpty = false := Bool.eq_false_iff.mpr h3; have HF : Hid (nameOk s = decide ((s.size : Int) ≤ 12)) := Lib.hid (by unfold nameOk; rw [b3, HAll.out]; simp); clear h3; go_wp2; go_ret; exact ⟨by rw [HF.out]; rfl, HW.out⟩
set_option maxHeartbeats 2000000 in
theorem val_calls (t : Bool) (n : Int) (x : ByteArray) (w : World) : Calls Tryd.prog 89 #[.agg #[.bool t, .int .i64 n, .string x]] w fun e w' => e = .returned (.bool (valOk t n x)) ∧ Below w.heap.size w w' := by
 cases t
 ·go_enter Tryd.func89, Tryd.ntmps89
  go_wp2; go_ret; exact ⟨rfl, by repeat (first | exact Below.refl _ _ | apply below_alloc)⟩
 by_cases h0 : n = 0
 ·subst h0; have HF : Hid (valOk true 0 x = decide ((x.size : Int) ≤ 12)) := Lib.hid (by simp [valOk])
  go_enter Tryd.func89, Tryd.ntmps89
  go_wp2; go_ret; exact ⟨by rw [HF.out]; rfl, by repeat (first | exact Below.refl _ _ | apply below_alloc)⟩
 have b0 : (n == 0) = false := by simp [h0]
 have HF : Hid (valOk true n x = false) := Lib.hid (by simp [valOk, h0]); clear h0
 go_enter Tryd.func89, Tryd.ntmps89
 go_wp2; go_ret; exact ⟨by rw [HF.out]; rfl, by repeat (first | exact Below.refl _ _ | apply below_alloc)⟩
set_option maxHeartbeats 8000000 in
theorem one_calls (nm : ByteArray) (kd lo hi : Int) (tx : ByteArray) (hs : Sm nm) (w : World) : Calls Tryd.prog 87 #[.agg #[.string nm, .int .i64 kd, .int .i64 lo, .int .i64 hi, .string tx]] w fun e w' => e = .returned (.bool (oneOk (nm, kd, lo, hi, tx))) ∧ Below w.heap.size w w' := by
 have HS := sd hs; clear hs; have HB := sd (below_alloc (Below.refl w.heap.size w) (.cells #[.string nm, .int .i64 kd, .int .i64 lo, .int .i64 hi, .string tx] 44)); have HX := sd (blk_new w (.cells #[.string nm, .int .i64 kd, .int .i64 lo, .int .i64 hi, .string tx] 44)); obtain ⟨b, hb⟩ : ∃ b, nameOk nm = b := ⟨_, rfl⟩; have HN := Lib.hid hb; clear hb
 have HZ : Hid (oneOk (nm, kd, lo, hi, tx) = (b && (if kd = 1 then decide (lo ≤ hi) && tx.toList.isEmpty
  else if kd = 3 then !decide ((tx.size : Int) = 12) && (decide (lo = 0) && (decide (hi = 0) && decide ((tx.size : Int) ≤ 12)))
  else if kd = 2 then decide (lo = 0) && (decide (hi = 0) && decide ((tx.size : Int) ≤ 12))
  else false))) := Lib.hid (by unfold oneOk; rw [HN.out])
 cases b
 case false =>
  have HF : Hid (oneOk (nm, kd, lo, hi, tx) = false) := Lib.hid (by rw [HZ.out]; simp [])
  go_enter Tryd.func87, Tryd.ntmps87
  go_wp2_with (first | (go_at_call 88; refine (name_calls nm HS.out _).mono ?_; rintro e w1 ⟨he, hB⟩; rw [HN.out] at he; subst he; replace HX := sd (blk_below HX.out hB); have q0 := blk_cell HX.out 0; have q1 := blk_cell HX.out 1; have q2 := blk_cell HX.out 2; have q3 := blk_cell HX.out 3; have q4 := blk_cell HX.out 4; replace HB := sd (below_step HB.out hB); clear hB)); go_ret; exact ⟨by rw [HF.out]; rfl, HB.out⟩
 by_cases k1 : kd = 1
 ·subst k1
  by_cases l1 : lo ≤ hi
  case neg =>
   have b1 : decide (lo ≤ hi) = false := decide_eq_false l1; have HF : Hid (oneOk (nm, 1, lo, hi, tx) = false) := Lib.hid (by rw [HZ.out]; simp [l1])
   go_enter Tryd.func87, Tryd.ntmps87
   go_wp2_with (first | (go_at_call 88; refine (name_calls nm HS.out _).mono ?_; rintro e w1 ⟨he, hB⟩; rw [HN.out] at he; subst he; replace HX := sd (blk_below HX.out hB); have q0 := blk_cell HX.out 0; have q1 := blk_cell HX.out 1; have q2 := blk_cell HX.out 2; have q3 := blk_cell HX.out 3; have q4 := blk_cell HX.out 4; replace HB := sd (below_step HB.out hB); clear hB)); go_ret; exact ⟨by rw [HF.out]; rfl, HB.out⟩
  have b1 : decide (lo ≤ hi) = true := decide_eq_true l1; have HF : Hid (oneOk (nm, 1, lo, hi, tx) = tx.toList.isEmpty) := Lib.hid (by rw [HZ.out]; simp [l1])
  go_enter Tryd.func87, Tryd.ntmps87
  go_wp2_with (first | (go_at_call 88; refine (name_calls nm HS.out _).mono ?_; rintro e w1 ⟨he, hB⟩; rw [HN.out] at he; subst he; replace HX := sd (blk_below HX.out hB); have q0 := blk_cell HX.out 0; have q1 := blk_cell HX.out 1; have q2 := blk_cell HX.out 2; have q3 := blk_cell HX.out 3; have q4 := blk_cell HX.out 4; replace HB := sd (below_step HB.out hB); clear hB)); go_ret; exact ⟨by rw [HF.out]; rfl, HB.out⟩
 have kb1 : (kd == 1) = false := by simp [k1]
 by_cases k3 : kd = 3
 ·subst k3
  by_cases t12 : (tx.size : Int) = 12
  case pos =>
   have b12 : ((tx.size : Int) == 12) = true := beq_iff_eq.mpr t12; have HF : Hid (oneOk (nm, 3, lo, hi, tx) = false) := Lib.hid (by rw [HZ.out]; simp [t12])
   go_enter Tryd.func87, Tryd.ntmps87
   go_wp2_with (first | (go_at_call 88; refine (name_calls nm HS.out _).mono ?_; rintro e w1 ⟨he, hB⟩; rw [HN.out] at he; subst he; replace HX := sd (blk_below HX.out hB); have q0 := blk_cell HX.out 0; have q1 := blk_cell HX.out 1; have q2 := blk_cell HX.out 2; have q3 := blk_cell HX.out 3; have q4 := blk_cell HX.out 4; replace HB := sd (below_step HB.out hB); clear hB)); go_ret; exact ⟨by rw [HF.out]; rfl, HB.out⟩
  have b12 : ((tx.size : Int) == 12) = false := beq_eq_false_iff_ne.mpr t12
  by_cases l0 : lo = 0
  case neg =>
   have b0 : (lo == 0) = false := by simp [l0]
   have HF : Hid (oneOk (nm, 3, lo, hi, tx) = false) := Lib.hid (by rw [HZ.out]; simp [t12, l0])
   go_enter Tryd.func87, Tryd.ntmps87
   go_wp2_with (first | (go_at_call 88; refine (name_calls nm HS.out _).mono ?_; rintro e w1 ⟨he, hB⟩; rw [HN.out] at he; subst he; replace HX := sd (blk_below HX.out hB); have q0 := blk_cell HX.out 0; have q1 := blk_cell HX.out 1; have q2 := blk_cell HX.out 2; have q3 := blk_cell HX.out 3; have q4 := blk_cell HX.out 4; replace HB := sd (below_step HB.out hB); clear hB)); go_ret; exact ⟨by rw [HF.out]; rfl, HB.out⟩
  subst l0
  by_cases l1 : hi = 0
  case neg =>
   have b1 : (hi == 0) = false := by simp [l1]
   have HF : Hid (oneOk (nm, 3, 0, hi, tx) = false) := Lib.hid (by rw [HZ.out]; simp [t12, l1])
   go_enter Tryd.func87, Tryd.ntmps87
   go_wp2_with (first | (go_at_call 88; refine (name_calls nm HS.out _).mono ?_; rintro e w1 ⟨he, hB⟩; rw [HN.out] at he; subst he; replace HX := sd (blk_below HX.out hB); have q0 := blk_cell HX.out 0; have q1 := blk_cell HX.out 1; have q2 := blk_cell HX.out 2; have q3 := blk_cell HX.out 3; have q4 := blk_cell HX.out 4; replace HB := sd (below_step HB.out hB); clear hB)); go_ret; exact ⟨by rw [HF.out]; rfl, HB.out⟩
  subst l1; have HF : Hid (oneOk (nm, 3, 0, 0, tx) = decide ((tx.size : Int) ≤ 12)) := Lib.hid (by rw [HZ.out]; simp [t12])
  go_enter Tryd.func87, Tryd.ntmps87
  go_wp2_with (first | (go_at_call 88; refine (name_calls nm HS.out _).mono ?_; rintro e w1 ⟨he, hB⟩; rw [HN.out] at he; subst he; replace HX := sd (blk_below HX.out hB); have q0 := blk_cell HX.out 0; have q1 := blk_cell HX.out 1; have q2 := blk_cell HX.out 2; have q3 := blk_cell HX.out 3; have q4 := blk_cell HX.out 4; replace HB := sd (below_step HB.out hB); clear hB)); go_ret; exact ⟨by rw [HF.out]; rfl, HB.out⟩
 have kb3 : (kd == 3) = false := by simp [k3]
 by_cases k2 : kd = 2
 ·subst k2
  by_cases l0 : lo = 0
  case neg =>
   have b0 : (lo == 0) = false := by simp [l0]
   have HF : Hid (oneOk (nm, 2, lo, hi, tx) = false) := Lib.hid (by rw [HZ.out]; simp [k1, l0])
   go_enter Tryd.func87, Tryd.ntmps87
   go_wp2_with (first | (go_at_call 88; refine (name_calls nm HS.out _).mono ?_; rintro e w1 ⟨he, hB⟩; rw [HN.out] at he; subst he; replace HX := sd (blk_below HX.out hB); have q0 := blk_cell HX.out 0; have q1 := blk_cell HX.out 1; have q2 := blk_cell HX.out 2; have q3 := blk_cell HX.out 3; have q4 := blk_cell HX.out 4; replace HB := sd (below_step HB.out hB); clear hB)); go_ret; exact ⟨by rw [HF.out]; rfl, HB.out⟩
  subst l0
  by_cases l1 : hi = 0
  case neg =>
   have b1 : (hi == 0) = false := by simp [l1]
   have HF : Hid (oneOk (nm, 2, 0, hi, tx) = false) := Lib.hid (by rw [HZ.out]; simp [k1, l1])
   go_enter Tryd.func87, Tryd.ntmps87
   go_wp2_with (first | (go_at_call 88; refine (name_calls nm HS.out _).mono ?_; rintro e w1 ⟨he, hB⟩; rw [HN.out] at he; subst he; replace HX := sd (blk_below HX.out hB); have q0 := blk_cell HX.out 0; have q1 := blk_cell HX.out 1; have q2 := blk_cell HX.out 2; have q3 := blk_cell HX.out 3; have q4 := blk_cell HX.out 4; replace HB := sd (below_step HB.out hB); clear hB)); go_ret; exact ⟨by rw [HF.out]; rfl, HB.out⟩
  subst l1; have HF : Hid (oneOk (nm, 2, 0, 0, tx) = decide ((tx.size : Int) ≤ 12)) := Lib.hid (by rw [HZ.out]; simp [k1])
  go_enter Tryd.func87, Tryd.ntmps87
  go_wp2_with (first | (go_at_call 88; refine (name_calls nm HS.out _).mono ?_; rintro e w1 ⟨he, hB⟩; rw [HN.out] at he; subst he; replace HX := sd (blk_below HX.out hB); have q0 := blk_cell HX.out 0; have q1 := blk_cell HX.out 1; have q2 := blk_cell HX.out 2; have q3 := blk_cell HX.out 3; have q4 := blk_cell HX.out 4; replace HB := sd (below_step HB.out hB); clear hB)); go_ret; exact ⟨by rw [HF.out]; rfl, HB.out⟩
 have kb2 : (kd == 2) = false := by simp [k2]
 have HF : Hid (oneOk (nm, kd, lo, hi, tx) = false) := Lib.hid (by rw [HZ.out]; simp [k1, k2, k3])
 go_enter Tryd.func87, Tryd.ntmps87
 go_wp2_with (first | (go_at_call 88; refine (name_calls nm HS.out _).mono ?_; rintro e w1 ⟨he, hB⟩; rw [HN.out] at he; subst he; replace HX := sd (blk_below HX.out hB); have q0 := blk_cell HX.out 0; have q1 := blk_cell HX.out 1; have q2 := blk_cell HX.out 2; have q3 := blk_cell HX.out 3; have q4 := blk_cell HX.out 4; replace HB := sd (below_step HB.out hB); clear hB)); go_ret; exact ⟨by rw [HF.out]; rfl, HB.out⟩
end Go.Proofs.YtbplemhjhpfkgaaDoor.Wr

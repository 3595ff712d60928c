/-
 slices.Equal of rows of constraints, of attributes; bytes.Equal; code.Same.
-/
import Derived.Test.YtbplemhjhpfkgaaDoorZDoorBase
import Derived.Test.YtbplemhjhpfkgaaDoorZWords
namespace Go.Proofs.YtbplemhjhpfkgaaDoor.Cd
open Go.RowKit YtbplemhjhpfkgaaDoorW.PrintWords YtbplemhjhpfkgaaDoorW.PrintLast YtbplemhjhpfkgaaDoorW.PrintMore Rd
set_option linter.unusedVariables false
set_option linter.unusedSimpArgs false
theorem str_eq (a b : ByteArray) : (a.toList == b.toList) = decide (a = b) := by
 rw [Bool.eq_iff_iff]; simp only [beq_iff_eq, decide_eq_true_iff]
 constructor
 ·intro h; apply ByteArray.ext; have h2 : a.data.toList = b.data.toList := by rw [← ByteArray.toList_eq a, ← ByteArray.toList_eq b]; exact h
  exact Array.toList_inj.1 h2
 ·rintro rfl; rfl
theorem eqA_Co (d : Nat) (w : World) (x y : Co) :
  (Op.equalIn (d + 2) 44 (.agg #[.string x.1, .int .i64 x.2.1, .int .i64 x.2.2.1, .int .i64 x.2.2.2.1, .string x.2.2.2.2]) (.agg #[.string y.1, .int .i64 y.2.1, .int .i64 y.2.2.1, .int .i64 y.2.2.2.1, .string y.2.2.2.2])).run Tryd.prog w = .ok (x.1.toList == y.1.toList && (x.2.1 == y.2.1 && (x.2.2.1 == y.2.2.1 && (x.2.2.2.1 == y.2.2.2.1 && (x.2.2.2.2.toList == y.2.2.2.2.toList))))) w := by
 refine eqA_of Tryd.underlying44 (by kernel_rfl) ?_; refine eqf_cons (by rfl) (by go_simp; rfl) (by go_simp; rfl) (by go_simp) ?_; refine eqf_cons (by rfl) (by go_simp; rfl) (by go_simp; rfl) (by go_simp) ?_; refine eqf_cons (by rfl) (by go_simp; rfl) (by go_simp; rfl) (by go_simp) ?_; refine eqf_cons (by rfl) (by go_simp; rfl) (by go_simp; rfl) (by go_simp) ?_; exact eqf_last (by rfl) (by go_simp; rfl) (by go_simp; rfl) (by go_simp)
theorem eqA_Va (d : Nat) (w : World) (x0 y0 : Bool) (x1 y1 : Int) (x2 y2 : ByteArray) :
  (Op.equalIn (d + 2) 57 (.agg #[.bool x0, .int .i64 x1, .string x2]) (.agg #[.bool y0, .int .i64 y1, .string y2])).run Tryd.prog w = .ok (x0 == y0 && (x1 == y1 && (x2.toList == y2.toList))) w := by
 refine eqA_of Tryd.underlying57 (by kernel_rfl) ?_; refine eqf_cons (by rfl) (by go_simp; rfl) (by go_simp; rfl) (by go_simp) ?_; refine eqf_cons (by rfl) (by go_simp; rfl) (by go_simp; rfl) (by go_simp) ?_; exact eqf_last (by rfl) (by go_simp; rfl) (by go_simp; rfl) (by go_simp)
theorem eqA_At (d : Nat) (w : World) (x y : At) :
  (Op.equalIn (d + 3) 59 (.agg #[.string x.1, .bool x.2.1, .int .i64 x.2.2.1, .string x.2.2.2]) (.agg #[.string y.1, .bool y.2.1, .int .i64 y.2.2.1, .string y.2.2.2])).run Tryd.prog w = .ok (x.1.toList == y.1.toList && ((x.2.1 == y.2.1 && (x.2.2.1 == y.2.2.1 && (x.2.2.2.toList == y.2.2.2.toList))))) w := by
 refine eqA_of Tryd.underlying59 (by kernel_rfl) ?_; refine eqf_cons (by rfl) (by go_simp; rfl) (by go_simp; rfl) (by go_simp) ?_; exact eqf_last (by rfl) (by go_simp) (by go_simp) (eqA_Va (d + 0) w _ _ _ _ _ _)
theorem neq_Co (x y : Co) (w : World) : (binOp .neq 44 (.agg #[.string x.1, .int .i64 x.2.1, .int .i64 x.2.2.1, .int .i64 x.2.2.2.1, .string x.2.2.2.2]) (.agg #[.string y.1, .int .i64 y.2.1, .int .i64 y.2.2.1, .int .i64 y.2.2.2.1, .string y.2.2.2.2])).run Tryd.prog w = .ok (.bool (!decide (x = y))) w := by
 rw [run_neq_struct, eqA_Co 9998 w x y]
 have h : (x.1.toList == y.1.toList && (x.2.1 == y.2.1 && (x.2.2.1 == y.2.2.1 && (x.2.2.2.1 == y.2.2.2.1 && (x.2.2.2.2.toList == y.2.2.2.2.toList))))) = decide (x = y) := by
  obtain ⟨a, b, c, e, f⟩ := x; obtain ⟨a', b', c', e', f'⟩ := y; simp only [str_eq]; rw [Bool.eq_iff_iff]
  simp
 rw [h]; rfl
theorem neq_At (x y : At) (w : World) : (binOp .neq 59 (.agg #[.string x.1, .bool x.2.1, .int .i64 x.2.2.1, .string x.2.2.2]) (.agg #[.string y.1, .bool y.2.1, .int .i64 y.2.2.1, .string y.2.2.2])).run Tryd.prog w = .ok (.bool (!decide (x = y))) w := by
 rw [run_neq_struct, eqA_At 9997 w x y]
 have h : (x.1.toList == y.1.toList && ((x.2.1 == y.2.1 && (x.2.2.1 == y.2.2.1 && (x.2.2.2.toList == y.2.2.2.toList))))) = decide (x = y) := by
  obtain ⟨a, b, c, e⟩ := x; obtain ⟨a', b', c', e'⟩ := y; simp only [str_eq]; rw [Bool.eq_iff_iff]
  simp
 rw [h]; rfl
theorem guardCo : Tryd.prog.eqGuardType Tryd.prog.depth 44 = false := by kernel_rfl
theorem guardAt : Tryd.prog.eqGuardType Tryd.prog.depth 59 = false := by kernel_rfl

set_option maxHeartbeats 1600000 in
theorem eqCo_calls (A : Option Addr) (c : Nat) (xs : List Co) (B : Option Addr) (d : Nat) (ys : List Co) (w : World) (hx : Kd.C kCo w A xs.length xs) (hy : Kd.C kCo w B ys.length ys) :
  Calls Tryd.prog 60 #[.slice A xs.length c, .slice B ys.length d] w fun e w' => e = .returned (.bool (decide (xs = ys))) ∧ Drawn0 w w' := by
 have HX := sd hx; have HY := sd hy; have hmx : xs.length ≤ 9223372036854775807 := hx.2.1; clear hx hy
 by_cases hl : xs.length = ys.length
 ·have hlb : ((xs.length : Int) != (ys.length : Int)) = false := by simp [hl]
  have hlb2 : (xs.length == ys.length) = true := by simp [hl]
  have HL := Lib.hid hl; clear hl
  go_enter Tryd.func60, Tryd.ntmps60
  go_wp2
  go_loopw [13] (fun i wr => ∃ k : Nat, k ≤ xs.length ∧ i = .int .i64 k ∧ Aside0 (xs.take k = ys.take k) ∧ Drawn0 w wr) (fun i _ => xs.length - (intOf i).toNat)
  case atStart => exact ⟨0, Nat.zero_le _, rfl, ⟨by simp⟩, Drawn0.refl _⟩
  case round =>
   obtain ⟨k, hk, rfl, HE, ⟨m, rfl⟩⟩ := hrel
   by_cases hlt : k < xs.length
   ·have hlt2 : k < ys.length := by rw [← HL.out]; exact hlt
    obtain ⟨ad, x, rfl, hx, c0, c1, c2, c3, c4⟩ := at_Co HX.out k hlt; obtain ⟨bd, y, rfl, hy, d0, d1, d2, d3, d4⟩ := at_Co HY.out k hlt2; have HEX := Lib.hid (show xs.take (k + 1) = xs.take k ++ [x] by rw [List.take_add_one, hx]; rfl); have HEY := Lib.hid (show ys.take (k + 1) = ys.take k ++ [y] by rw [List.take_add_one, hy]; rfl); clear hx hy; have g0 := guardCo
    by_cases hxy : x = y
    ·subst hxy; have g1 : ∀ W : World, _ := fun W => (neq_Co x x W).trans (by rw [decide_eq_true rfl]; rfl : _ = .ok (.bool false) W)
     go_wp2
     repeat (go_quiet (fail); try go_wp2)
     go_roundw
     case rel => exact ⟨k + 1, by omega, by go_num, ⟨by rw [HEX.out, HEY.out, HE.out]⟩, by repeat (first | exact Drawn0.refl _ | apply Drawn0.step)⟩
     case measure => simp [intOf]; omega
    ·have g1 : ∀ W : World, _ := fun W => (neq_Co x y W).trans (by rw [decide_eq_false hxy]; rfl : _ = .ok (.bool true) W)
     have HN := Lib.hid hxy; clear hxy; go_wp2
     repeat (go_quiet (fail); try go_wp2)
     go_ret; refine ⟨?_, by repeat (first | exact Drawn0.refl _ | apply Drawn0.step)⟩
     have hne : ¬ (xs = ys) := fun he => by
      have h1 := HEX.out; rw [he, HEY.out, ← he, HE.out] at h1; have h2 := List.append_cancel_left h1; exact HN.out (by simpa using h2.symm)
     simp [hne]
   ·obtain rfl : k = xs.length := by omega
    go_wp2; go_ret; refine ⟨?_, by repeat (first | exact Drawn0.refl _ | apply Drawn0.step)⟩; have he := HE.out; rw [List.take_length, HL.out, List.take_length] at he
    simp [he]
 ·have hlb : ((xs.length : Int) != (ys.length : Int)) = true := by simp; omega
  have hlb2 : (xs.length == ys.length) = false := by simpa using hl
  have HL := Lib.hid hl; clear hl
  go_enter Tryd.func60, Tryd.ntmps60
  go_wp2; go_ret; have hne : ¬ (xs = ys) := fun he => HL.out (by rw [he])
  exact ⟨by simp [hne], Drawn0.refl _⟩

set_option maxHeartbeats 1600000 in
theorem eqAt_calls (A : Option Addr) (c : Nat) (xs : List At) (B : Option Addr) (d : Nat) (ys : List At) (w : World) (hx : Kd.C kAt w A xs.length xs) (hy : Kd.C kAt w B ys.length ys) :
  Calls Tryd.prog 61 #[.slice A xs.length c, .slice B ys.length d] w fun e w' => e = .returned (.bool (decide (xs = ys))) ∧ Drawn0 w w' := by
 have HX := sd hx; have HY := sd hy; have hmx : xs.length ≤ 9223372036854775807 := hx.2.1; clear hx hy
 by_cases hl : xs.length = ys.length
 ·have hlb : ((xs.length : Int) != (ys.length : Int)) = false := by simp [hl]
  have hlb2 : (xs.length == ys.length) = true := by simp [hl]
  have HL := Lib.hid hl; clear hl
  go_enter Tryd.func61, Tryd.ntmps61
  go_wp2
  go_loopw [13] (fun i wr => ∃ k : Nat, k ≤ xs.length ∧ i = .int .i64 k ∧ Aside0 (xs.take k = ys.take k) ∧ Drawn0 w wr) (fun i _ => xs.length - (intOf i).toNat)
  case atStart => exact ⟨0, Nat.zero_le _, rfl, ⟨by simp⟩, Drawn0.refl _⟩
  case round =>
   obtain ⟨k, hk, rfl, HE, ⟨m, rfl⟩⟩ := hrel
   by_cases hlt : k < xs.length
   ·have hlt2 : k < ys.length := by rw [← HL.out]; exact hlt
    obtain ⟨ad, x, rfl, hx, c0, c1, c2, c3⟩ := at_At HX.out k hlt; obtain ⟨bd, y, rfl, hy, d0, d1, d2, d3⟩ := at_At HY.out k hlt2; have HEX := Lib.hid (show xs.take (k + 1) = xs.take k ++ [x] by rw [List.take_add_one, hx]; rfl); have HEY := Lib.hid (show ys.take (k + 1) = ys.take k ++ [y] by rw [List.take_add_one, hy]; rfl); clear hx hy; have g0 := guardAt
    by_cases hxy : x = y
    ·subst hxy; have g1 : ∀ W : World, _ := fun W => (neq_At x x W).trans (by rw [decide_eq_true rfl]; rfl : _ = .ok (.bool false) W)
     go_wp2
     repeat (go_quiet (fail); try go_wp2)
     go_roundw
     case rel => exact ⟨k + 1, by omega, by go_num, ⟨by rw [HEX.out, HEY.out, HE.out]⟩, by repeat (first | exact Drawn0.refl _ | apply Drawn0.step)⟩
     case measure => simp [intOf]; omega
    ·have g1 : ∀ W : World, _ := fun W => (neq_At x y W).trans (by rw [decide_eq_false hxy]; rfl : _ = .ok (.bool true) W)
     have HN := Lib.hid hxy; clear hxy; go_wp2
     repeat (go_quiet (fail); try go_wp2)
     go_ret; refine ⟨?_, by repeat (first | exact Drawn0.refl _ | apply Drawn0.step)⟩
     have hne : ¬ (xs = ys) := fun he => by
      have h1 := HEX.out; rw [he, HEY.out, ← he, HE.out] at h1; have h2 := List.append_cancel_left h1; exact HN.out (by simpa using h2.symm)
     simp [hne]
   ·obtain rfl : k = xs.length := by omega
    go_wp2; go_ret; refine ⟨?_, by repeat (first | exact Drawn0.refl _ | apply Drawn0.step)⟩; have he := HE.out; rw [List.take_length, HL.out, List.take_length] at he
    simp [he]
 ·have hlb : ((xs.length : Int) != (ys.length : Int)) = true := by simp; omega
  have hlb2 : (xs.length == ys.length) = false := by simpa using hl
  have HL := Lib.hid hl; clear hl
  go_enter Tryd.func61, Tryd.ntmps61
  go_wp2; go_ret; have hne : ¬ (xs = ys) := fun he => HL.out (by rw [he])
  exact ⟨by simp [hne], Drawn0.refl _⟩

theorem strOfNums_inj {xs ys : List Int} (hx : Byt xs) (hy : Byt ys) (h : strOfNums xs = strOfNums ys) : xs = ys := by
 have h1 : bytesOf (strOfNums xs) = bytesOf (strOfNums ys) := by rw [h]
 have key : ∀ l : List Int, Byt l → bytesOf (strOfNums l) = l := by
  intro l hl; simp only [bytesOf, strOfNums, List.map_map]
  conv => rhs; rw [← List.map_id l]
  apply List.map_congr_left; intro a ha; have hb := hl a ha; simp only [Function.comp, id]; rw [UInt8.toNat_ofNat_of_lt' (show a.toNat < UInt8.size by simp [UInt8.size]; omega)]; omega
 rwa [key xs hx, key ys hy] at h1
set_option maxHeartbeats 1600000 in
theorem eqB_calls (A : Option Addr) (c : Nat) (xs : List Int) (B : Option Addr) (d : Nat) (ys : List Int) (w : World) (hx : Kd.C (Kd.int .u8) w A xs.length xs) (hy : Kd.C (Kd.int .u8) w B ys.length ys) (bx : Byt xs) (by_ : Byt ys) :
  Calls Tryd.prog 62 #[.slice A xs.length c, .slice B ys.length d] w fun e w' => e = .returned (.bool (decide (xs = ys))) ∧ w = w' := by
 have hc1 := Kd.C_string (P := Tryd.prog) (src := 22) (dst := 9) (c := c) Tryd.underlying22 Tryd.underlying5 Tryd.underlying9 hx; have hc2 := Kd.C_string (P := Tryd.prog) (src := 22) (dst := 9) (c := d) Tryd.underlying22 Tryd.underlying5 Tryd.underlying9 hy
 have HE : Hid (((strOfNums xs).toList == (strOfNums ys).toList) = decide (xs = ys)) := Lib.hid (by
  rw [str_eq, decide_eq_decide]; exact ⟨strOfNums_inj bx by_, fun h => by rw [h]⟩)
 clear hx hy bx by_
 go_enter Tryd.func62, Tryd.ntmps62
 go_wp2; go_ret; rw [HE.out]; exact ⟨rfl, rfl⟩
end Go.Proofs.YtbplemhjhpfkgaaDoor.Cd

/-
 broadsidebook.Same of constraints, attributes; broadsidekeep.Messages; wire.Same.
-/
import Derived.Test.YtbplemhjhpfkgaaDoorZWireRight
namespace Go.Proofs.YtbplemhjhpfkgaaDoor.Wr
open Go.RowKit YtbplemhjhpfkgaaDoorW.PrintWords YtbplemhjhpfkgaaDoorW.PrintLast YtbplemhjhpfkgaaDoorW.PrintMore Rd
open Cd
set_option linter.unusedVariables false
set_option linter.unusedSimpArgs false
set_option maxHeartbeats 1600000 in
theorem sCo_calls (A : Option Addr) (c : Nat) (xs : List Co) (B : Option Addr) (d : Nat) (ys : List Co) (w : World) (hx : Kd.C kCo w A xs.length xs) (hy : Kd.C kCo w B ys.length ys) :
  Calls Tryd.prog 51 #[.slice A xs.length c, .slice B ys.length d] w fun e w' => e = .returned (.bool (decide (xs = ys))) ∧ Drawn0 w w' := by
 have HX := sd hx; have HY := sd hy; have hmx : xs.length ≤ 9223372036854775807 := hx.2.1; clear hx hy
 by_cases hl : xs.length = ys.length
 ·have hlb : ((xs.length : Int) != (ys.length : Int)) = false := by simp [hl]
  have hlb2 : (xs.length == ys.length) = true := by simp [hl]
  have HL := Lib.hid hl; clear hl
  go_enter Tryd.func51, Tryd.ntmps51
  go_wp2
  go_loopw [5] (fun i wr => ∃ k : Nat, k ≤ xs.length ∧ i = .int .i64 k ∧ Aside0 (xs.take k = ys.take k) ∧ Drawn0 w wr) (fun i _ => xs.length - (intOf i).toNat)
  case atStart => exact ⟨0, Nat.zero_le _, rfl, ⟨by simp⟩, Drawn0.refl _⟩
  case round =>
   obtain ⟨k, hk, rfl, HE, ⟨m, rfl⟩⟩ := hrel
   by_cases hlt : k < xs.length
   ·have hlt2 : k < ys.length := by rw [← HL.out]; exact hlt
    obtain ⟨ad, x, rfl, hx, c0, c1, c2, c3, c4⟩ := at_Co HX.out k hlt; obtain ⟨bd, y, rfl, hy, d0, d1, d2, d3, d4⟩ := at_Co HY.out k hlt2; have HEX := Lib.hid (show xs.take (k + 1) = xs.take k ++ [x] by rw [List.take_add_one, hx]; rfl); have HEY := Lib.hid (show ys.take (k + 1) = ys.take k ++ [y] by rw [List.take_add_one, hy]; rfl); clear hx hy; have g0 := guardCo
    by_cases hxy : x = y
    ·subst hxy; have g1 : ∀ W : World, _ := fun W => (neq_Co x x W).trans (by rw [decide_eq_true rfl]; rfl : _ = .ok (.bool false) W)
     go_wp2
     repeat (go_quiet (fail); try go_wp2)
     go_roundw
     case rel => exact ⟨k + 1, by omega, by go_num, ⟨by rw [HEX.out, HEY.out, HE.out]⟩, by repeat (first | exact Drawn0.refl _ | apply Drawn0.step)⟩
     case measure => simp [intOf]; omega
    ·have g1 : ∀ W : World, _ := fun W => (neq_Co x y W).trans (by rw [decide_eq_false hxy]; rfl : _ = .ok (.bool true) W)
     have HN := Lib.hid hxy; clear hxy; go_wp2
     repeat (go_quiet (fail); try go_wp2)
     go_ret; refine ⟨?_, by repeat (first | exact Drawn0.refl _ | apply Drawn0.step)⟩
     have hne : ¬ (xs = ys) := fun he => by
      have h1 := HEX.out; rw [he, HEY.out, ← he, HE.out] at h1; have h2 := List.append_cancel_left h1; exact HN.out (by simpa using h2.symm)
     simp [hne]
   ·obtain rfl : k = xs.length := by omega
    go_wp2; go_ret; refine ⟨?_, by repeat (first | exact Drawn0.refl _ | apply Drawn0.step)⟩; have he := HE.out; rw [List.take_length, HL.out, List.take_length] at he
    simp [he]
 ·have hlb : ((xs.length : Int) != (ys.length : Int)) = true := by simp; omega
  have hlb2 : (xs.length == ys.length) = false := by simpa using hl
  have HL := Lib.hid hl; clear hl
  go_enter Tryd.func51, Tryd.ntmps51
  go_wp2; go_ret; have hne : ¬ (xs = ys) := fun he => HL.out (by rw [he])
  exact ⟨by simp [hne], Drawn0.refl _⟩


set_option maxHeartbeats 1600000 in
theorem sAt_calls (A : Option Addr) (c : Nat) (xs : List At) (B : Option Addr) (d : Nat) (ys : List At) (w : World) (hx : Kd.C kAt w A xs.length xs) (hy : Kd.C kAt w B ys.length ys) :
  Calls Tryd.prog 52 #[.slice A xs.length c, .slice B ys.length d] w fun e w' => e = .returned (.bool (decide (xs = ys))) ∧ Drawn0 w w' := by
 have HX := sd hx; have HY := sd hy; have hmx : xs.length ≤ 9223372036854775807 := hx.2.1; clear hx hy
 by_cases hl : xs.length = ys.length
 ·have hlb : ((xs.length : Int) != (ys.length : Int)) = false := by simp [hl]
  have hlb2 : (xs.length == ys.length) = true := by simp [hl]
  have HL := Lib.hid hl; clear hl
  go_enter Tryd.func52, Tryd.ntmps52
  go_wp2
  go_loopw [5] (fun i wr => ∃ k : Nat, k ≤ xs.length ∧ i = .int .i64 k ∧ Aside0 (xs.take k = ys.take k) ∧ Drawn0 w wr) (fun i _ => xs.length - (intOf i).toNat)
  case atStart => exact ⟨0, Nat.zero_le _, rfl, ⟨by simp⟩, Drawn0.refl _⟩
  case round =>
   obtain ⟨k, hk, rfl, HE, ⟨m, rfl⟩⟩ := hrel
   by_cases hlt : k < xs.length
   ·have hlt2 : k < ys.length := by rw [← HL.out]; exact hlt
    obtain ⟨ad, x, rfl, hx, c0, c1, c2, c3⟩ := at_At HX.out k hlt; obtain ⟨bd, y, rfl, hy, d0, d1, d2, d3⟩ := at_At HY.out k hlt2; have HEX := Lib.hid (show xs.take (k + 1) = xs.take k ++ [x] by rw [List.take_add_one, hx]; rfl); have HEY := Lib.hid (show ys.take (k + 1) = ys.take k ++ [y] by rw [List.take_add_one, hy]; rfl); clear hx hy; have g0 := guardAt
    by_cases hxy : x = y
    ·subst hxy; have g1 : ∀ W : World, _ := fun W => (neq_At x x W).trans (by rw [decide_eq_true rfl]; rfl : _ = .ok (.bool false) W)
     go_wp2
     repeat (go_quiet (fail); try go_wp2)
     go_roundw
     case rel => exact ⟨k + 1, by omega, by go_num, ⟨by rw [HEX.out, HEY.out, HE.out]⟩, by repeat (first | exact Drawn0.refl _ | apply Drawn0.step)⟩
     case measure => simp [intOf]; omega
    ·have g1 : ∀ W : World, _ := fun W => (neq_At x y W).trans (by rw [decide_eq_false hxy]; rfl : _ = .ok (.bool true) W)
     have HN := Lib.hid hxy; clear hxy; go_wp2
     repeat (go_quiet (fail); try go_wp2)
     go_ret; refine ⟨?_, by repeat (first | exact Drawn0.refl _ | apply Drawn0.step)⟩
     have hne : ¬ (xs = ys) := fun he => by
      have h1 := HEX.out; rw [he, HEY.out, ← he, HE.out] at h1; have h2 := List.append_cancel_left h1; exact HN.out (by simpa using h2.symm)
     simp [hne]
   ·obtain rfl : k = xs.length := by omega
    go_wp2; go_ret; refine ⟨?_, by repeat (first | exact Drawn0.refl _ | apply Drawn0.step)⟩; have he := HE.out; rw [List.take_length, HL.out, List.take_length] at he
    simp [he]
 ·have hlb : ((xs.length : Int) != (ys.length : Int)) = true := by simp; omega
  have hlb2 : (xs.length == ys.length) = false := by simpa using hl
  have HL := Lib.hid hl; clear hl
  go_enter Tryd.func52, Tryd.ntmps52
  go_wp2; go_ret; have hne : ¬ (xs = ys) := fun he => HL.out (by rw [he])
  exact ⟨by simp [hne], Drawn0.refl _⟩


attribute [local go_sem high] eqA_ID
def sameM (x y : MsgD) : Bool := decide (x = y)

set_option maxRecDepth 100000 in
set_option maxHeartbeats 8000000 in
theorem msgs_calls (x : MsgD) (A5 : Option Addr) (m5 : Nat) (A6 : Option Addr) (m6 : Nat) (y : MsgD) (B5 : Option Addr) (n5 : Nat) (B6 : Option Addr) (n6 : Nat) (w : World) (hx : LiesM w x A5 A6) (hy : LiesM w y B5 B6) :
  Calls Tryd.prog 37 #[mW x A5 m5 A6 m6, mW y B5 n5 B6 n6] w fun e w' => e = .returned (.bool (sameM x y)) ∧ Below w.heap.size w w' := by
 obtain ⟨k, tc, ts, ic, is, p, s⟩ := x; obtain ⟨k', tc', ts', ic', is', p', s'⟩ := y; have HB := sd (below_alloc (below_alloc (Below.refl w.heap.size w) (.cells #[.int .i64 k, .int .i64 tc, .int .i64 ts, .int .i64 ic, .int .i64 is, .slice A5 p.length m5, .slice A6 s.length m6] 50)) (.cells #[.int .i64 k', .int .i64 tc', .int .i64 ts', .int .i64 ic', .int .i64 is', .slice B5 p'.length n5, .slice B6 s'.length n6] 50)); have HX := sd (hx.below HB.out); have HY := sd (hy.below HB.out); clear hx hy
 by_cases e0 : k = k'
 case neg =>
  have b0 : (k == k') = false := by simp [e0]
  have HF : Hid (sameM ⟨k, tc, ts, ic, is, p, s⟩ ⟨k', tc', ts', ic', is', p', s'⟩ = false) := Lib.hid (by simp [sameM, e0]); clear e0
  go_enter Tryd.func37, Tryd.ntmps37
  go_wp2; go_ret; exact ⟨by rw [HF.out]; rfl, below_step HB.out (Drawn0.below (by repeat (first | exact Drawn0.refl _ | apply Drawn0.step)))⟩
 have b0 : (k == k') = true := by simp [e0]
 by_cases e1 : tc = tc'
 case neg =>
  have b1 : (tc == tc') = false := by simp [e1]
  have HF : Hid (sameM ⟨k, tc, ts, ic, is, p, s⟩ ⟨k', tc', ts', ic', is', p', s'⟩ = false) := Lib.hid (by simp [sameM, e1]); clear e0 e1
  go_enter Tryd.func37, Tryd.ntmps37
  go_wp2; go_ret; exact ⟨by rw [HF.out]; rfl, below_step HB.out (Drawn0.below (by repeat (first | exact Drawn0.refl _ | apply Drawn0.step)))⟩
 have b1 : (tc == tc') = true := by simp [e1]
 by_cases e2 : ts = ts'
 case neg =>
  have b2 : (ts == ts') = false := by simp [e2]
  have HF : Hid (sameM ⟨k, tc, ts, ic, is, p, s⟩ ⟨k', tc', ts', ic', is', p', s'⟩ = false) := Lib.hid (by simp [sameM, e2]); clear e0 e1 e2
  go_enter Tryd.func37, Tryd.ntmps37
  go_wp2; go_ret; exact ⟨by rw [HF.out]; rfl, below_step HB.out (Drawn0.below (by repeat (first | exact Drawn0.refl _ | apply Drawn0.step)))⟩
 have b2 : (ts == ts') = true := by simp [e2]
 by_cases e3 : ic = ic'
 case neg =>
  have b3 : (ic == ic') = false := by simp [e3]
  have HF : Hid (sameM ⟨k, tc, ts, ic, is, p, s⟩ ⟨k', tc', ts', ic', is', p', s'⟩ = false) := Lib.hid (by simp [sameM, e3]); clear e0 e1 e2 e3
  go_enter Tryd.func37, Tryd.ntmps37
  go_wp2; go_ret; exact ⟨by rw [HF.out]; rfl, below_step HB.out (Drawn0.below (by repeat (first | exact Drawn0.refl _ | apply Drawn0.step)))⟩
 have b3 : (ic == ic') = true := by simp [e3]
 by_cases e4 : is = is'
 case neg =>
  have b4 : (is == is') = false := by simp [e4]
  have HF : Hid (sameM ⟨k, tc, ts, ic, is, p, s⟩ ⟨k', tc', ts', ic', is', p', s'⟩ = false) := Lib.hid (by simp [sameM, e4]); clear e0 e1 e2 e3 e4
  go_enter Tryd.func37, Tryd.ntmps37
  go_wp2; go_ret; exact ⟨by rw [HF.out]; rfl, below_step HB.out (Drawn0.below (by repeat (first | exact Drawn0.refl _ | apply Drawn0.step)))⟩
 have b4 : (is == is') = true := by simp [e4]
 by_cases e5 : p = p'
 case neg =>
  have b5 : decide (p = p') = false := decide_eq_false e5; have HF : Hid (sameM ⟨k, tc, ts, ic, is, p, s⟩ ⟨k', tc', ts', ic', is', p', s'⟩ = false) := Lib.hid (by simp [sameM, e5]); have D5 := Lib.hid b5; clear e0 e1 e2 e3 e4 e5 b5
  go_enter Tryd.func37, Tryd.ntmps37
  go_wp2_with (first | (go_at_call 51; refine (sCo_calls _ _ p _ _ p' _ (Kd.C_below HX.out.p (Drawn0.below (by repeat (first | exact Drawn0.refl _ | apply Drawn0.step)))) (Kd.C_below HY.out.p (Drawn0.below (by repeat (first | exact Drawn0.refl _ | apply Drawn0.step))))).mono ?_; rintro e w1 ⟨he, hD⟩; rw [D5.out] at he; subst he; obtain ⟨d5, rfl⟩ := hD) | (go_at_call 52; refine (sAt_calls _ _ s _ _ s' _ (Kd.C_below HX.out.s (Drawn0.below (by repeat (first | exact Drawn0.refl _ | apply Drawn0.step)))) (Kd.C_below HY.out.s (Drawn0.below (by repeat (first | exact Drawn0.refl _ | apply Drawn0.step))))).mono ?_; rintro e w1 ⟨he, hD⟩; rw [D6.out] at he; subst he; obtain ⟨d6, rfl⟩ := hD)); go_ret; exact ⟨by rw [HF.out]; rfl, below_step HB.out (Drawn0.below (by repeat (first | exact Drawn0.refl _ | apply Drawn0.step)))⟩
 have b5 : decide (p = p') = true := decide_eq_true e5
 by_cases e6 : s = s'
 case neg =>
  have b6 : decide (s = s') = false := decide_eq_false e6; have HF : Hid (sameM ⟨k, tc, ts, ic, is, p, s⟩ ⟨k', tc', ts', ic', is', p', s'⟩ = false) := Lib.hid (by simp [sameM, e6]); have D5 := Lib.hid b5; have D6 := Lib.hid b6; clear e0 e1 e2 e3 e4 e5 e6 b5 b6
  go_enter Tryd.func37, Tryd.ntmps37
  go_wp2_with (first | (go_at_call 51; refine (sCo_calls _ _ p _ _ p' _ (Kd.C_below HX.out.p (Drawn0.below (by repeat (first | exact Drawn0.refl _ | apply Drawn0.step)))) (Kd.C_below HY.out.p (Drawn0.below (by repeat (first | exact Drawn0.refl _ | apply Drawn0.step))))).mono ?_; rintro e w1 ⟨he, hD⟩; rw [D5.out] at he; subst he; obtain ⟨d5, rfl⟩ := hD) | (go_at_call 52; refine (sAt_calls _ _ s _ _ s' _ (Kd.C_below HX.out.s (Drawn0.below (by repeat (first | exact Drawn0.refl _ | apply Drawn0.step)))) (Kd.C_below HY.out.s (Drawn0.below (by repeat (first | exact Drawn0.refl _ | apply Drawn0.step))))).mono ?_; rintro e w1 ⟨he, hD⟩; rw [D6.out] at he; subst he; obtain ⟨d6, rfl⟩ := hD)); go_ret; exact ⟨by rw [HF.out]; rfl, below_step HB.out (Drawn0.below (by repeat (first | exact Drawn0.refl _ | apply Drawn0.step)))⟩
 have b6 : decide (s = s') = true := decide_eq_true e6; have HF : Hid (sameM ⟨k, tc, ts, ic, is, p, s⟩ ⟨k', tc', ts', ic', is', p', s'⟩ = true) := Lib.hid (by simp [sameM, e0, e1, e2, e3, e4, e5, e6]); have D5 := Lib.hid b5; have D6 := Lib.hid b6; clear e0 e1 e2 e3 e4 e5 e6 b5 b6
 go_enter Tryd.func37, Tryd.ntmps37
 go_wp2_with (first | (go_at_call 51; refine (sCo_calls _ _ p _ _ p' _ (Kd.C_below HX.out.p (Drawn0.below (by repeat (first | exact Drawn0.refl _ | apply Drawn0.step)))) (Kd.C_below HY.out.p (Drawn0.below (by repeat (first | exact Drawn0.refl _ | apply Drawn0.step))))).mono ?_; rintro e w1 ⟨he, hD⟩; rw [D5.out] at he; subst he; obtain ⟨d5, rfl⟩ := hD) | (go_at_call 52; refine (sAt_calls _ _ s _ _ s' _ (Kd.C_below HX.out.s (Drawn0.below (by repeat (first | exact Drawn0.refl _ | apply Drawn0.step)))) (Kd.C_below HY.out.s (Drawn0.below (by repeat (first | exact Drawn0.refl _ | apply Drawn0.step))))).mono ?_; rintro e w1 ⟨he, hD⟩; rw [D6.out] at he; subst he; obtain ⟨d6, rfl⟩ := hD)); go_ret; exact ⟨by rw [HF.out]; rfl, below_step HB.out (Drawn0.below (by repeat (first | exact Drawn0.refl _ | apply Drawn0.step)))⟩
set_option maxRecDepth 100000 in
set_option maxHeartbeats 8000000 in
theorem wsame_calls (x : MsgD) (A5 : Option Addr) (m5 : Nat) (A6 : Option Addr) (m6 : Nat) (y : MsgD) (B5 : Option Addr) (n5 : Nat) (B6 : Option Addr) (n6 : Nat) (w : World) (hx : LiesM w x A5 A6) (hy : LiesM w y B5 B6) :
  Calls Tryd.prog 42 #[mW x A5 m5 A6 m6, mW y B5 n5 B6 n6] w fun e w' => e = .returned (.bool (sameM x y)) ∧ Below w.heap.size w w' := by
 obtain ⟨k, tc, ts, ic, is, p, s⟩ := x; obtain ⟨k', tc', ts', ic', is', p', s'⟩ := y; have HB := sd (below_alloc (below_alloc (Below.refl w.heap.size w) (.cells #[.int .i64 k, .int .i64 tc, .int .i64 ts, .int .i64 ic, .int .i64 is, .slice A5 p.length m5, .slice A6 s.length m6] 50)) (.cells #[.int .i64 k', .int .i64 tc', .int .i64 ts', .int .i64 ic', .int .i64 is', .slice B5 p'.length n5, .slice B6 s'.length n6] 50)); have HX := sd (hx.below HB.out); have HY := sd (hy.below HB.out); clear hx hy
 by_cases e0 : k = k'
 case neg =>
  have b0 : (k == k') = false := by simp [e0]
  have HF : Hid (sameM ⟨k, tc, ts, ic, is, p, s⟩ ⟨k', tc', ts', ic', is', p', s'⟩ = false) := Lib.hid (by simp [sameM, e0]); clear e0
  go_enter Tryd.func42, Tryd.ntmps42
  go_wp2; go_ret; exact ⟨by rw [HF.out]; rfl, below_step HB.out (Drawn0.below (by repeat (first | exact Drawn0.refl _ | apply Drawn0.step)))⟩
 have b0 : (k == k') = true := by simp [e0]
 by_cases e1 : tc = tc'
 case neg =>
  have b1 : (tc == tc') = false := by simp [e1]
  have HF : Hid (sameM ⟨k, tc, ts, ic, is, p, s⟩ ⟨k', tc', ts', ic', is', p', s'⟩ = false) := Lib.hid (by simp [sameM, e1]); clear e0 e1
  go_enter Tryd.func42, Tryd.ntmps42
  go_wp2; go_ret; exact ⟨by rw [HF.out]; rfl, below_step HB.out (Drawn0.below (by repeat (first | exact Drawn0.refl _ | apply Drawn0.step)))⟩
 have b1 : (tc == tc') = true := by simp [e1]
 by_cases e2 : ts = ts'
 case neg =>
  have b2 : (ts == ts') = false := by simp [e2]
  have HF : Hid (sameM ⟨k, tc, ts, ic, is, p, s⟩ ⟨k', tc', ts', ic', is', p', s'⟩ = false) := Lib.hid (by simp [sameM, e2]); clear e0 e1 e2
  go_enter Tryd.func42, Tryd.ntmps42
  go_wp2; go_ret; exact ⟨by rw [HF.out]; rfl, below_step HB.out (Drawn0.below (by repeat (first | exact Drawn0.refl _ | apply Drawn0.step)))⟩
 have b2 : (ts == ts') = true := by simp [e2]
 by_cases e3 : ic = ic'
 case neg =>
  have b3 : (ic == ic') = false := by simp [e3]
  have HF : Hid (sameM ⟨k, tc, ts, ic, is, p, s⟩ ⟨k', tc', ts', ic', is', p', s'⟩ = false) := Lib.hid (by simp [sameM, e3]); clear e0 e1 e2 e3
  go_enter Tryd.func42, Tryd.ntmps42
  go_wp2; go_ret; exact ⟨by rw [HF.out]; rfl, below_step HB.out (Drawn0.below (by repeat (first | exact Drawn0.refl _ | apply Drawn0.step)))⟩
 have b3 : (ic == ic') = true := by simp [e3]
 by_cases e4 : is = is'
 case neg =>
  have b4 : (is == is') = false := by simp [e4]
  have HF : Hid (sameM ⟨k, tc, ts, ic, is, p, s⟩ ⟨k', tc', ts', ic', is', p', s'⟩ = false) := Lib.hid (by simp [sameM, e4]); clear e0 e1 e2 e3 e4
  go_enter Tryd.func42, Tryd.ntmps42
  go_wp2; go_ret; exact ⟨by rw [HF.out]; rfl, below_step HB.out (Drawn0.below (by repeat (first | exact Drawn0.refl _ | apply Drawn0.step)))⟩
 have b4 : (is == is') = true := by simp [e4]
 by_cases e5 : p = p'
 case neg =>
  have b5 : decide (p = p') = false := decide_eq_false e5; have HF : Hid (sameM ⟨k, tc, ts, ic, is, p, s⟩ ⟨k', tc', ts', ic', is', p', s'⟩ = false) := Lib.hid (by simp [sameM, e5]); have D5 := Lib.hid b5; clear e0 e1 e2 e3 e4 e5 b5
  go_enter Tryd.func42, Tryd.ntmps42
  go_wp2_with (first | (go_at_call 60; refine (eqCo_calls _ _ p _ _ p' _ (Kd.C_below HX.out.p (Drawn0.below (by repeat (first | exact Drawn0.refl _ | apply Drawn0.step)))) (Kd.C_below HY.out.p (Drawn0.below (by repeat (first | exact Drawn0.refl _ | apply Drawn0.step))))).mono ?_; rintro e w1 ⟨he, hD⟩; rw [D5.out] at he; subst he; obtain ⟨d5, rfl⟩ := hD) | (go_at_call 61; refine (eqAt_calls _ _ s _ _ s' _ (Kd.C_below HX.out.s (Drawn0.below (by repeat (first | exact Drawn0.refl _ | apply Drawn0.step)))) (Kd.C_below HY.out.s (Drawn0.below (by repeat (first | exact Drawn0.refl _ | apply Drawn0.step))))).mono ?_; rintro e w1 ⟨he, hD⟩; rw [D6.out] at he; subst he; obtain ⟨d6, rfl⟩ := hD)); go_ret; exact ⟨by rw [HF.out]; rfl, below_step HB.out (Drawn0.below (by repeat (first | exact Drawn0.refl _ | apply Drawn0.step)))⟩
 have b5 : decide (p = p') = true := decide_eq_true e5
 by_cases e6 : s = s'
 case neg =>
  have b6 : decide (s = s') = false := decide_eq_false e6; have HF : Hid (sameM ⟨k, tc, ts, ic, is, p, s⟩ ⟨k', tc', ts', ic', is', p', s'⟩ = false) := Lib.hid (by simp [sameM, e6]); have D5 := Lib.hid b5; have D6 := Lib.hid b6; clear e0 e1 e2 e3 e4 e5 e6 b5 b6
  go_enter Tryd.func42, Tryd.ntmps42
  go_wp2_with (first | (go_at_call 60; refine (eqCo_calls _ _ p _ _ p' _ (Kd.C_below HX.out.p (Drawn0.below (by repeat (first | exact Drawn0.refl _ | apply Drawn0.step)))) (Kd.C_below HY.out.p (Drawn0.below (by repeat (first | exact Drawn0.refl _ | apply Drawn0.step))))).mono ?_; rintro e w1 ⟨he, hD⟩; rw [D5.out] at he; subst he; obtain ⟨d5, rfl⟩ := hD) | (go_at_call 61; refine (eqAt_calls _ _ s _ _ s' _ (Kd.C_below HX.out.s (Drawn0.below (by repeat (first | exact Drawn0.refl _ | apply Drawn0.step)))) (Kd.C_below HY.out.s (Drawn0.below (by repeat (first | exact Drawn0.refl _ | apply Drawn0.step))))).mono ?_; rintro e w1 ⟨he, hD⟩; rw [D6.out] at he; subst he; obtain ⟨d6, rfl⟩ := hD)); go_ret; exact ⟨by rw [HF.out]; rfl, below_step HB.out (Drawn0.below (by repeat (first | exact Drawn0.refl _ | apply Drawn0.step)))⟩
 have b6 : decide (s = s') = true := decide_eq_true e6; have HF : Hid (sameM ⟨k, tc, ts, ic, is, p, s⟩ ⟨k', tc', ts', ic', is', p', s'⟩ = true) := Lib.hid (by simp [sameM, e0, e1, e2, e3, e4, e5, e6]); have D5 := Lib.hid b5; have D6 := Lib.hid b6; clear e0 e1 e2 e3 e4 e5 e6 b5 b6
 go_enter Tryd.func42, Tryd.ntmps42
 go_wp2_with (first | (go_at_call 60; refine (eqCo_calls _ _ p _ _ p' _ (Kd.C_below HX.out.p (Drawn0.below (by repeat (first | exact Drawn0.refl _ | apply Drawn0.step)))) (Kd.C_below HY.out.p (Drawn0.below (by repeat (first | exact Drawn0.refl _ | apply Drawn0.step))))).mono ?_; rintro e w1 ⟨he, hD⟩; rw [D5.out] at he; subst he; obtain ⟨d5, rfl⟩ := hD) | (go_at_call 61; refine (eqAt_calls _ _ s _ _ s' _ (Kd.C_below HX.out.s (Drawn0.below (by repeat (first | exact Drawn0.refl _ | apply Drawn0.step)))) (Kd.C_below HY.out.s (Drawn0.below (by repeat (first | exact Drawn0.refl _ | apply Drawn0.step))))).mono ?_; rintro e w1 ⟨he, hD⟩; rw [D6.out] at he; subst he; obtain ⟨d6, rfl⟩ := hD)); go_ret; exact ⟨by rw [HF.out]; rfl, below_step HB.out (Drawn0.below (by repeat (first | exact Drawn0.refl _ | apply Drawn0.step)))⟩
end Go.Proofs.YtbplemhjhpfkgaaDoor.Wr

/-
 broadsidebook.Same of constraints, attributes, bytes; asked; broadsidekeep.Ops.
-/
import Derived.Test.YtbplemhjhpfkgaaDoorYCodeAsk
import Derived.Test.YtbplemhjhpfkgaaDoorYAsked
set_option linter.unusedVariables false
set_option linter.unusedSimpArgs false
namespace Go.Proofs.YtbplemhjhpfkgaaDoor.Cd
open Go.RowKit YtbplemhjhpfkgaaDoorW.PrintWords YtbplemhjhpfkgaaDoorW.PrintLast YtbplemhjhpfkgaaDoorW.PrintMore Rd
theorem at_By {w : World} {A : Option Addr} {n : Nat} {xs : List Int} (h : Kd.C (Kd.int .u8) w A n xs) (i : Nat) (h1 : i < n) : ∃ (ad : Addr) (x : Int), A = some ad ∧ xs[i]? = some x ∧ w.cell? (ad.add i) = some (.int .u8 x) := by
 obtain ⟨ad, e, hc⟩ := h.2.2 (by omega); have hl : i < xs.length := by have := h.1; omega
 obtain ⟨c, hs, hr, hcell⟩ := hc i _ (List.getElem?_eq_getElem hl); have hr' : c = [.int .u8 xs[i]] := hr; subst hr'; have hcell' : ∀ j u, [Value.int .u8 xs[i]][j]? = some u → w.cell? (ad.add (i * 1 + j)) = some u := hcell; exact ⟨ad, xs[i], e, List.getElem?_eq_getElem hl, by simpa using hcell' 0 _ rfl⟩

set_option maxHeartbeats 1600000 in
theorem sCo_calls (A : Option Addr) (c : Nat) (xs : List Co) (B : Option Addr) (d : Nat) (ys : List Co) (w : World) (hx : Kd.C kCo w A xs.length xs) (hy : Kd.C kCo w B ys.length ys) :
  Calls Tryd.prog 51 #[.slice A xs.length c, .slice B ys.length d] w fun e w' => e = .returned (.bool (decide (xs = ys))) ∧ Drawn0 w w' := by
 have HX := sd hx; have HY := sd hy; have hmx : xs.length ≤ 9223372036854775807 := hx.2.1; clear hx hy
 by_cases hl : xs.length = ys.length
 ·have hlb : ((xs.length : Int) != (ys.length : Int)) = false := by simp [hl]
  have hlb2 : (xs.length == ys.length) = true := by simp [hl]
  have HL := Lib.hid hl; clear hl
  go_enter Tryd.func51, Tryd.ntmps51
  go_wp2
  go_loopw [5] (fun i wr => ∃ k : Nat, k ≤ xs.length ∧ i = .int .i64 k ∧ Aside0 (xs.take k = ys.take k) ∧ Drawn0 w wr) (fun i _ => xs.length - (intOf i).toNat)
  case atStart => exact ⟨0, Nat.zero_le _, rfl, ⟨by simp⟩, Drawn0.refl _⟩
  case round =>
   obtain ⟨k, hk, rfl, HE, ⟨m, rfl⟩⟩ := hrel
   by_cases hlt : k < xs.length
   ·have hlt2 : k < ys.length := by rw [← HL.out]; exact hlt
    obtain ⟨ad, x, rfl, hx, c0, c1, c2, c3, c4⟩ := at_Co HX.out k hlt; obtain ⟨bd, y, rfl, hy, d0, d1, d2, d3, d4⟩ := at_Co HY.out k hlt2; have HEX := Lib.hid (show xs.take (k + 1) = xs.take k ++ [x] by rw [List.take_add_one, hx]; rfl); have HEY := Lib.hid (show ys.take (k + 1) = ys.take k ++ [y] by rw [List.take_add_one, hy]; rfl); clear hx hy; have g0 := guardCo
    by_cases hxy : x = y
    ·subst hxy; have g1 : ∀ W : World, _ := fun W => (neq_Co x x W).trans (by rw [decide_eq_true rfl]; rfl : _ = .ok (.bool false) W)
     go_wp2
     repeat (go_quiet (fail); try go_wp2)
     go_roundw
     case rel => exact ⟨k + 1, by omega, by go_num, ⟨by rw [HEX.out, HEY.out, HE.out]⟩, by repeat (first | exact Drawn0.refl _ | apply Drawn0.step)⟩
     case measure => simp [intOf]; omega
    ·have g1 : ∀ W : World, _ := fun W => (neq_Co x y W).trans (by rw [decide_eq_false hxy]; rfl : _ = .ok (.bool true) W)
     have HN := Lib.hid hxy; clear hxy; go_wp2
     repeat (go_quiet (fail); try go_wp2)
     go_ret; refine ⟨?_, by repeat (first | exact Drawn0.refl _ | apply Drawn0.step)⟩
     have hne : ¬ (xs = ys) := fun he => by
      have h1 := HEX.out; rw [he, HEY.out, ← he, HE.out] at h1; have h2 := List.append_cancel_left h1; exact HN.out (by simpa using h2.symm)
     simp [hne]
   ·obtain rfl : k = xs.length := by omega
    go_wp2; go_ret; refine ⟨?_, by repeat (first | exact Drawn0.refl _ | apply Drawn0.step)⟩; have he := HE.out; rw [List.take_length, HL.out, List.take_length] at he
    simp [he]
 ·have hlb : ((xs.length : Int) != (ys.length : Int)) = true := by simp; omega
  have hlb2 : (xs.length == ys.length) = false := by simpa using hl
  have HL := Lib.hid hl; clear hl
  go_enter Tryd.func51, Tryd.ntmps51
  go_wp2; go_ret; have hne : ¬ (xs = ys) := fun he => HL.out (by rw [he])
  exact ⟨by simp [hne], Drawn0.refl _⟩


set_option maxHeartbeats 1600000 in
theorem sAt_calls (A : Option Addr) (c : Nat) (xs : List At) (B : Option Addr) (d : Nat) (ys : List At) (w : World) (hx : Kd.C kAt w A xs.length xs) (hy : Kd.C kAt w B ys.length ys) :
  Calls Tryd.prog 52 #[.slice A xs.length c, .slice B ys.length d] w fun e w' => e = .returned (.bool (decide (xs = ys))) ∧ Drawn0 w w' := by
 have HX := sd hx; have HY := sd hy; have hmx : xs.length ≤ 9223372036854775807 := hx.2.1; clear hx hy
 by_cases hl : xs.length = ys.length
 ·have hlb : ((xs.length : Int) != (ys.length : Int)) = false := by simp [hl]
  have hlb2 : (xs.length == ys.length) = true := by simp [hl]
  have HL := Lib.hid hl; clear hl
  go_enter Tryd.func52, Tryd.ntmps52
  go_wp2
  go_loopw [5] (fun i wr => ∃ k : Nat, k ≤ xs.length ∧ i = .int .i64 k ∧ Aside0 (xs.take k = ys.take k) ∧ Drawn0 w wr) (fun i _ => xs.length - (intOf i).toNat)
  case atStart => exact ⟨0, Nat.zero_le _, rfl, ⟨by simp⟩, Drawn0.refl _⟩
  case round =>
   obtain ⟨k, hk, rfl, HE, ⟨m, rfl⟩⟩ := hrel
   by_cases hlt : k < xs.length
   ·have hlt2 : k < ys.length := by rw [← HL.out]; exact hlt
    obtain ⟨ad, x, rfl, hx, c0, c1, c2, c3⟩ := at_At HX.out k hlt; obtain ⟨bd, y, rfl, hy, d0, d1, d2, d3⟩ := at_At HY.out k hlt2; have HEX := Lib.hid (show xs.take (k + 1) = xs.take k ++ [x] by rw [List.take_add_one, hx]; rfl); have HEY := Lib.hid (show ys.take (k + 1) = ys.take k ++ [y] by rw [List.take_add_one, hy]; rfl); clear hx hy; have g0 := guardAt
    by_cases hxy : x = y
    ·subst hxy; have g1 : ∀ W : World, _ := fun W => (neq_At x x W).trans (by rw [decide_eq_true rfl]; rfl : _ = .ok (.bool false) W)
     go_wp2
     repeat (go_quiet (fail); try go_wp2)
     go_roundw
     case rel => exact ⟨k + 1, by omega, by go_num, ⟨by rw [HEX.out, HEY.out, HE.out]⟩, by repeat (first | exact Drawn0.refl _ | apply Drawn0.step)⟩
     case measure => simp [intOf]; omega
    ·have g1 : ∀ W : World, _ := fun W => (neq_At x y W).trans (by rw [decide_eq_false hxy]; rfl : _ = .ok (.bool true) W)
     have HN := Lib.hid hxy; clear hxy; go_wp2
     repeat (go_quiet (fail); try go_wp2)
     go_ret; refine ⟨?_, by repeat (first | exact Drawn0.refl _ | apply Drawn0.step)⟩
     have hne : ¬ (xs = ys) := fun he => by
      have h1 := HEX.out; rw [he, HEY.out, ← he, HE.out] at h1; have h2 := List.append_cancel_left h1; exact HN.out (by simpa using h2.symm)
     simp [hne]
   ·obtain rfl : k = xs.length := by omega
    go_wp2; go_ret; refine ⟨?_, by repeat (first | exact Drawn0.refl _ | apply Drawn0.step)⟩; have he := HE.out; rw [List.take_length, HL.out, List.take_length] at he
    simp [he]
 ·have hlb : ((xs.length : Int) != (ys.length : Int)) = true := by simp; omega
  have hlb2 : (xs.length == ys.length) = false := by simpa using hl
  have HL := Lib.hid hl; clear hl
  go_enter Tryd.func52, Tryd.ntmps52
  go_wp2; go_ret; have hne : ¬ (xs = ys) := fun he => HL.out (by rw [he])
  exact ⟨by simp [hne], Drawn0.refl _⟩


set_option maxHeartbeats 1600000 in
theorem sBy_calls (A : Option Addr) (c : Nat) (xs : List Int) (B : Option Addr) (d : Nat) (ys : List Int) (w : World) (hx : Kd.C (Kd.int .u8) w A xs.length xs) (hy : Kd.C (Kd.int .u8) w B ys.length ys) :
  Calls Tryd.prog 22 #[.slice A xs.length c, .slice B ys.length d] w fun e w' => e = .returned (.bool (decide (xs = ys))) ∧ Drawn0 w w' := by
 have HX := sd hx; have HY := sd hy; have hmx : xs.length ≤ 9223372036854775807 := hx.2.1; clear hx hy
 by_cases hl : xs.length = ys.length
 ·have hlb : ((xs.length : Int) != (ys.length : Int)) = false := by simp [hl]
  have hlb2 : (xs.length == ys.length) = true := by simp [hl]
  have HL := Lib.hid hl; clear hl
  go_enter Tryd.func22, Tryd.ntmps22
  go_wp2
  go_loopw [5] (fun i wr => ∃ k : Nat, k ≤ xs.length ∧ i = .int .i64 k ∧ Aside0 (xs.take k = ys.take k) ∧ Drawn0 w wr) (fun i _ => xs.length - (intOf i).toNat)
  case atStart => exact ⟨0, Nat.zero_le _, rfl, ⟨by simp⟩, Drawn0.refl _⟩
  case round =>
   obtain ⟨k, hk, rfl, HE, ⟨m, rfl⟩⟩ := hrel
   by_cases hlt : k < xs.length
   ·have hlt2 : k < ys.length := by rw [← HL.out]; exact hlt
    obtain ⟨ad, x, rfl, hx, c0⟩ := at_By HX.out k hlt; obtain ⟨bd, y, rfl, hy, d0⟩ := at_By HY.out k hlt2; have HEX := Lib.hid (show xs.take (k + 1) = xs.take k ++ [x] by rw [List.take_add_one, hx]; rfl); have HEY := Lib.hid (show ys.take (k + 1) = ys.take k ++ [y] by rw [List.take_add_one, hy]; rfl); clear hx hy
    by_cases hxy : x = y
    ·subst hxy; have g1 : (x != x) = false := by simp
     go_wp2
     repeat (go_quiet (fail); try go_wp2)
     go_roundw
     case rel => exact ⟨k + 1, by omega, by go_num, ⟨by rw [HEX.out, HEY.out, HE.out]⟩, by repeat (first | exact Drawn0.refl _ | apply Drawn0.step)⟩
     case measure => simp [intOf]; omega
    ·have g1 : (x != y) = true := by simpa using hxy
     have HN := Lib.hid hxy; clear hxy; go_wp2
     repeat (go_quiet (fail); try go_wp2)
     go_ret; refine ⟨?_, by repeat (first | exact Drawn0.refl _ | apply Drawn0.step)⟩
     have hne : ¬ (xs = ys) := fun he => by
      have h1 := HEX.out; rw [he, HEY.out, ← he, HE.out] at h1; have h2 := List.append_cancel_left h1; exact HN.out (by simpa using h2.symm)
     simp [hne]
   ·obtain rfl : k = xs.length := by omega
    go_wp2; go_ret; refine ⟨?_, by repeat (first | exact Drawn0.refl _ | apply Drawn0.step)⟩; have he := HE.out; rw [List.take_length, HL.out, List.take_length] at he
    simp [he]
 ·have hlb : ((xs.length : Int) != (ys.length : Int)) = true := by simp; omega
  have hlb2 : (xs.length == ys.length) = false := by simpa using hl
  have HL := Lib.hid hl; clear hl
  go_enter Tryd.func22, Tryd.ntmps22
  go_wp2; go_ret; have hne : ¬ (xs = ys) := fun he => HL.out (by rw [he])
  exact ⟨by simp [hne], Drawn0.refl _⟩


set_option maxRecDepth 100000 in
set_option maxHeartbeats 8000000 in
theorem ops_calls (x : OpD) (A6 : Option Addr) (m6 : Nat) (A7 : Option Addr) (m7 : Nat) (A8 : Option Addr) (m8 : Nat) (y : OpD) (B6 : Option Addr) (n6 : Nat) (B7 : Option Addr) (n7 : Nat) (B8 : Option Addr) (n8 : Nat) (w : World) (hx : Lies w x A6 A7 A8) (hy : Lies w y B6 B7 B8) :
  Calls Tryd.prog 19 #[oW x A6 m6 A7 m7 A8 m8, oW y B6 n6 B7 n7 B8 n8] w fun e w' => e = .returned (.bool (sameD x y)) ∧ Below w.heap.size w w' := by
 obtain ⟨k, c, q, hh, a, t, p, s, r⟩ := x; obtain ⟨k', c', q', hh', a', t', p', s', r'⟩ := y; have HB := sd (below_alloc (below_alloc (Below.refl w.heap.size w) (.cells #[.int .i64 k, .int .i64 c, .int .i64 q, .int .i64 hh, .int .i64 a, .int .i64 t, .slice A6 p.length m6, .slice A7 s.length m7, .slice A8 r.length m8] 30)) (.cells #[.int .i64 k', .int .i64 c', .int .i64 q', .int .i64 hh', .int .i64 a', .int .i64 t', .slice B6 p'.length n6, .slice B7 s'.length n7, .slice B8 r'.length n8] 30)); have HX := sd (hx.below HB.out); have HY := sd (hy.below HB.out); clear hx hy
 by_cases e0 : k = k'
 case neg =>
  have b0 : (k == k') = false := by simp [e0]
  have HF : Hid (sameD ⟨k, c, q, hh, a, t, p, s, r⟩ ⟨k', c', q', hh', a', t', p', s', r'⟩ = false) := Lib.hid (by simp [sameD, e0]); clear e0
  go_enter Tryd.func19, Tryd.ntmps19
  go_wp2; go_ret; exact ⟨by rw [HF.out]; rfl, below_step HB.out (Drawn0.below (by repeat (first | exact Drawn0.refl _ | apply Drawn0.step)))⟩
 have b0 : (k == k') = true := by simp [e0]
 by_cases e1 : c = c'
 case neg =>
  have b1 : (c == c') = false := by simp [e1]
  have HF : Hid (sameD ⟨k, c, q, hh, a, t, p, s, r⟩ ⟨k', c', q', hh', a', t', p', s', r'⟩ = false) := Lib.hid (by simp [sameD, e1]); clear e0 e1
  go_enter Tryd.func19, Tryd.ntmps19
  go_wp2; go_ret; exact ⟨by rw [HF.out]; rfl, below_step HB.out (Drawn0.below (by repeat (first | exact Drawn0.refl _ | apply Drawn0.step)))⟩
 have b1 : (c == c') = true := by simp [e1]
 by_cases e2 : q = q'
 case neg =>
  have b2 : (q == q') = false := by simp [e2]
  have HF : Hid (sameD ⟨k, c, q, hh, a, t, p, s, r⟩ ⟨k', c', q', hh', a', t', p', s', r'⟩ = false) := Lib.hid (by simp [sameD, e2]); clear e0 e1 e2
  go_enter Tryd.func19, Tryd.ntmps19
  go_wp2; go_ret; exact ⟨by rw [HF.out]; rfl, below_step HB.out (Drawn0.below (by repeat (first | exact Drawn0.refl _ | apply Drawn0.step)))⟩
 have b2 : (q == q') = true := by simp [e2]
 by_cases e3 : hh = hh'
 case neg =>
  have b3 : (hh == hh') = false := by simp [e3]
  have HF : Hid (sameD ⟨k, c, q, hh, a, t, p, s, r⟩ ⟨k', c', q', hh', a', t', p', s', r'⟩ = false) := Lib.hid (by simp [sameD, e3]); clear e0 e1 e2 e3
  go_enter Tryd.func19, Tryd.ntmps19
  go_wp2; go_ret; exact ⟨by rw [HF.out]; rfl, below_step HB.out (Drawn0.below (by repeat (first | exact Drawn0.refl _ | apply Drawn0.step)))⟩
 have b3 : (hh == hh') = true := by simp [e3]
 by_cases e4 : a = a'
 case neg =>
  have b4 : (a == a') = false := by simp [e4]
  have HF : Hid (sameD ⟨k, c, q, hh, a, t, p, s, r⟩ ⟨k', c', q', hh', a', t', p', s', r'⟩ = false) := Lib.hid (by simp [sameD, e4]); clear e0 e1 e2 e3 e4
  go_enter Tryd.func19, Tryd.ntmps19
  go_wp2; go_ret; exact ⟨by rw [HF.out]; rfl, below_step HB.out (Drawn0.below (by repeat (first | exact Drawn0.refl _ | apply Drawn0.step)))⟩
 have b4 : (a == a') = true := by simp [e4]
 by_cases e5 : t = t'
 case neg =>
  have b5 : (t == t') = false := by simp [e5]
  have HF : Hid (sameD ⟨k, c, q, hh, a, t, p, s, r⟩ ⟨k', c', q', hh', a', t', p', s', r'⟩ = false) := Lib.hid (by simp [sameD, e5]); clear e0 e1 e2 e3 e4 e5
  go_enter Tryd.func19, Tryd.ntmps19
  go_wp2; go_ret; exact ⟨by rw [HF.out]; rfl, below_step HB.out (Drawn0.below (by repeat (first | exact Drawn0.refl _ | apply Drawn0.step)))⟩
 have b5 : (t == t') = true := by simp [e5]
 by_cases e6 : p = p'
 case neg =>
  have b6 : decide (p = p') = false := decide_eq_false e6; have HF : Hid (sameD ⟨k, c, q, hh, a, t, p, s, r⟩ ⟨k', c', q', hh', a', t', p', s', r'⟩ = false) := Lib.hid (by simp [sameD, e6]); have D6 := Lib.hid b6; clear e0 e1 e2 e3 e4 e5 e6 b6
  go_enter Tryd.func19, Tryd.ntmps19
  go_wp2_with (first | (go_at_call 51; refine (sCo_calls _ _ p _ _ p' _ (Kd.C_below HX.out.p (Drawn0.below (by repeat (first | exact Drawn0.refl _ | apply Drawn0.step)))) (Kd.C_below HY.out.p (Drawn0.below (by repeat (first | exact Drawn0.refl _ | apply Drawn0.step))))).mono ?_; rintro e w1 ⟨he, hD⟩; rw [D6.out] at he; subst he; obtain ⟨d6, rfl⟩ := hD) | (go_at_call 52; refine (sAt_calls _ _ s _ _ s' _ (Kd.C_below HX.out.s (Drawn0.below (by repeat (first | exact Drawn0.refl _ | apply Drawn0.step)))) (Kd.C_below HY.out.s (Drawn0.below (by repeat (first | exact Drawn0.refl _ | apply Drawn0.step))))).mono ?_; rintro e w1 ⟨he, hD⟩; rw [D7.out] at he; subst he; obtain ⟨d7, rfl⟩ := hD) | (go_at_call 22; refine (sBy_calls _ _ r _ _ r' _ (Kd.C_below HX.out.r (Drawn0.below (by repeat (first | exact Drawn0.refl _ | apply Drawn0.step)))) (Kd.C_below HY.out.r (Drawn0.below (by repeat (first | exact Drawn0.refl _ | apply Drawn0.step))))).mono ?_; rintro e w1 ⟨he, hD⟩; rw [D8.out] at he; subst he; obtain ⟨d8, rfl⟩ := hD)); go_ret; exact ⟨by rw [HF.out]; rfl, below_step HB.out (Drawn0.below (by repeat (first | exact Drawn0.refl _ | apply Drawn0.step)))⟩
 have b6 : decide (p = p') = true := decide_eq_true e6
 by_cases e7 : s = s'
 case neg =>
  have b7 : decide (s = s') = false := decide_eq_false e7; have HF : Hid (sameD ⟨k, c, q, hh, a, t, p, s, r⟩ ⟨k', c', q', hh', a', t', p', s', r'⟩ = false) := Lib.hid (by simp [sameD, e7]); have D6 := Lib.hid b6; have D7 := Lib.hid b7; clear e0 e1 e2 e3 e4 e5 e6 e7 b6 b7
  go_enter Tryd.func19, Tryd.ntmps19
  go_wp2_with (first | (go_at_call 51; refine (sCo_calls _ _ p _ _ p' _ (Kd.C_below HX.out.p (Drawn0.below (by repeat (first | exact Drawn0.refl _ | apply Drawn0.step)))) (Kd.C_below HY.out.p (Drawn0.below (by repeat (first | exact Drawn0.refl _ | apply Drawn0.step))))).mono ?_; rintro e w1 ⟨he, hD⟩; rw [D6.out] at he; subst he; obtain ⟨d6, rfl⟩ := hD) | (go_at_call 52; refine (sAt_calls _ _ s _ _ s' _ (Kd.C_below HX.out.s (Drawn0.below (by repeat (first | exact Drawn0.refl _ | apply Drawn0.step)))) (Kd.C_below HY.out.s (Drawn0.below (by repeat (first | exact Drawn0.refl _ | apply Drawn0.step))))).mono ?_; rintro e w1 ⟨he, hD⟩; rw [D7.out] at he; subst he; obtain ⟨d7, rfl⟩ := hD) | (go_at_call 22; refine (sBy_calls _ _ r _ _ r' _ (Kd.C_below HX.out.r (Drawn0.below (by repeat (first | exact Drawn0.refl _ | apply Drawn0.step)))) (Kd.C_below HY.out.r (Drawn0.below (by repeat (first | exact Drawn0.refl _ | apply Drawn0.step))))).mono ?_; rintro e w1 ⟨he, hD⟩; rw [D8.out] at he; subst he; obtain ⟨d8, rfl⟩ := hD)); go_ret; exact ⟨by rw [HF.out]; rfl, below_step HB.out (Drawn0.below (by repeat (first | exact Drawn0.refl _ | apply Drawn0.step)))⟩
 have b7 : decide (s = s') = true := decide_eq_true e7
 by_cases e8 : r = r'
 case neg =>
  have b8 : decide (r = r') = false := decide_eq_false e8; have HF : Hid (sameD ⟨k, c, q, hh, a, t, p, s, r⟩ ⟨k', c', q', hh', a', t', p', s', r'⟩ = false) := Lib.hid (by simp [sameD, e8]); have D6 := Lib.hid b6; have D7 := Lib.hid b7; have D8 := Lib.hid b8; clear e0 e1 e2 e3 e4 e5 e6 e7 e8 b6 b7 b8
  go_enter Tryd.func19, Tryd.ntmps19
  go_wp2_with (first | (go_at_call 51; refine (sCo_calls _ _ p _ _ p' _ (Kd.C_below HX.out.p (Drawn0.below (by repeat (first | exact Drawn0.refl _ | apply Drawn0.step)))) (Kd.C_below HY.out.p (Drawn0.below (by repeat (first | exact Drawn0.refl _ | apply Drawn0.step))))).mono ?_; rintro e w1 ⟨he, hD⟩; rw [D6.out] at he; subst he; obtain ⟨d6, rfl⟩ := hD) | (go_at_call 52; refine (sAt_calls _ _ s _ _ s' _ (Kd.C_below HX.out.s (Drawn0.below (by repeat (first | exact Drawn0.refl _ | apply Drawn0.step)))) (Kd.C_below HY.out.s (Drawn0.below (by repeat (first | exact Drawn0.refl _ | apply Drawn0.step))))).mono ?_; rintro e w1 ⟨he, hD⟩; rw [D7.out] at he; subst he; obtain ⟨d7, rfl⟩ := hD) | (go_at_call 22; refine (sBy_calls _ _ r _ _ r' _ (Kd.C_below HX.out.r (Drawn0.below (by repeat (first | exact Drawn0.refl _ | apply Drawn0.step)))) (Kd.C_below HY.out.r (Drawn0.below (by repeat (first | exact Drawn0.refl _ | apply Drawn0.step))))).mono ?_; rintro e w1 ⟨he, hD⟩; rw [D8.out] at he; subst he; obtain ⟨d8, rfl⟩ := hD)); go_ret; exact ⟨by rw [HF.out]; rfl, below_step HB.out (Drawn0.below (by repeat (first | exact Drawn0.refl _ | apply Drawn0.step)))⟩
 have b8 : decide (r = r') = true := decide_eq_true e8; have HF : Hid (sameD ⟨k, c, q, hh, a, t, p, s, r⟩ ⟨k', c', q', hh', a', t', p', s', r'⟩ = true) := Lib.hid (by simp [sameD, e0, e1, e2, e3, e4, e5, e6, e7, e8]); have D6 := Lib.hid b6; have D7 := Lib.hid b7; have D8 := Lib.hid b8; clear e0 e1 e2 e3 e4 e5 e6 e7 e8 b6 b7 b8
 go_enter Tryd.func19, Tryd.ntmps19
 go_wp2_with (first | (go_at_call 51; refine (sCo_calls _ _ p _ _ p' _ (Kd.C_below HX.out.p (Drawn0.below (by repeat (first | exact Drawn0.refl _ | apply Drawn0.step)))) (Kd.C_below HY.out.p (Drawn0.below (by repeat (first | exact Drawn0.refl _ | apply Drawn0.step))))).mono ?_; rintro e w1 ⟨he, hD⟩; rw [D6.out] at he; subst he; obtain ⟨d6, rfl⟩ := hD) | (go_at_call 52; refine (sAt_calls _ _ s _ _ s' _ (Kd.C_below HX.out.s (Drawn0.below (by repeat (first | exact Drawn0.refl _ | apply Drawn0.step)))) (Kd.C_below HY.out.s (Drawn0.below (by repeat (first | exact Drawn0.refl _ | apply Drawn0.step))))).mono ?_; rintro e w1 ⟨he, hD⟩; rw [D7.out] at he; subst he; obtain ⟨d7, rfl⟩ := hD) | (go_at_call 22; refine (sBy_calls _ _ r _ _ r' _ (Kd.C_below HX.out.r (Drawn0.below (by repeat (first | exact Drawn0.refl _ | apply Drawn0.step)))) (Kd.C_below HY.out.r (Drawn0.below (by repeat (first | exact Drawn0.refl _ | apply Drawn0.step))))).mono ?_; rintro e w1 ⟨he, hD⟩; rw [D8.out] at he; subst he; obtain ⟨d8, rfl⟩ := hD)); go_ret; exact ⟨by rw [HF.out]; rfl, below_step HB.out (Drawn0.below (by repeat (first | exact Drawn0.refl _ | apply Drawn0.step)))⟩

end Go.Proofs.YtbplemhjhpfkgaaDoor.Cd

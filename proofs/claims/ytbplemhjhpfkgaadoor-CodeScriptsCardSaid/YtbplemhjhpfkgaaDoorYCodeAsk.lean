/-
 code.asks in one contract; code.Same.
-/
import Derived.Test.YtbplemhjhpfkgaaDoorYPart6
import Derived.Test.YtbplemhjhpfkgaaDoorYAsks
set_option linter.unusedVariables false
set_option linter.unusedSimpArgs false
namespace Go.Proofs.YtbplemhjhpfkgaaDoor.Cd
open Go.RowKit YtbplemhjhpfkgaaDoorW.PrintWords YtbplemhjhpfkgaaDoorW.PrintLast YtbplemhjhpfkgaaDoorW.PrintMore Rd
structure OpD where
 k : Int
 c : Int
 q : Int
 h : Int
 a : Int
 t : Int
 p : List Co
 s : List At
 r : List Int
deriving DecidableEq
def askd (o : OpD) : OpD :=
 if o.k = 1 then ⟨o.k, 0, 0, 0, o.a, 0, [], [], []⟩
 else if o.k = 2 ∨ o.k = 4 then ⟨o.k, o.c, 0, 0, 0, 0, o.p, [], []⟩
 else if o.k = 3 ∨ o.k = 5 then ⟨o.k, o.c, o.q, 0, 0, 0, [], [], []⟩
 else if o.k = 6 then ⟨o.k, o.c, 0, o.h, 0, 0, [], o.s, []⟩
 else if o.k = 7 then ⟨o.k, o.c, 0, 0, 0, 0, [], [], []⟩
 else if o.k = 8 then ⟨o.k, 0, 0, 0, o.a, o.t, [], [], []⟩
 else if o.k = 9 then ⟨o.k, 0, 0, 0, o.a, o.t, [], [], o.r⟩
 else ⟨o.k, 0, 0, 0, 0, 0, [], [], []⟩
def known (k : Int) : Bool := decide (1 ≤ k ∧ k ≤ 9)
abbrev oW (o : OpD) (A6 : Option Addr) (m6 : Nat) (A7 : Option Addr) (m7 : Nat) (A8 : Option Addr) (m8 : Nat) : Value :=
 opV o.k o.c o.q o.h o.a o.t A6 o.p.length m6 A7 o.s.length m7 A8 o.r.length m8
structure Lies (w : World) (o : OpD) (A6 A7 A8 : Option Addr) : Prop where
 p : Kd.C kCo w A6 o.p.length o.p
 s : Kd.C kAt w A7 o.s.length o.s
 r : Kd.C (Kd.int .u8) w A8 o.r.length o.r
theorem Lies.below {w w' : World} {o : OpD} {A6 A7 A8 : Option Addr} (h : Lies w o A6 A7 A8) (hb : Below w.heap.size w w') : Lies w' o A6 A7 A8 :=
 ⟨Kd.C_below h.p hb, Kd.C_below h.s hb, Kd.C_below h.r hb⟩
theorem nilR (w : World) : Kd.C (Kd.int .u8) w none 0 [] := ⟨rfl, by omega, fun h => by omega⟩
set_option maxHeartbeats 4000000 in
theorem asks_any (o : OpD) (A6 : Option Addr) (m6 : Nat) (A7 : Option Addr) (m7 : Nat) (A8 : Option Addr) (m8 : Nat) (w : World) (h : Lies w o A6 A7 A8) :
  Calls Tryd.prog 53 #[oW o A6 m6 A7 m7 A8 m8] w fun e w' => ∃ B6 n6 B7 n7 B8 n8, e = .returned (.tuple #[oW (askd o) B6 n6 B7 n7 B8 n8, .bool (known o.k)]) ∧ Lies w' (askd o) B6 B7 B8 ∧ Below w.heap.size w w' := by
 obtain ⟨k, c, q, hh, a, t, p, s, r⟩ := o

 by_cases h1 : k = 1
 ·subst h1; refine (asks_1 c q hh a t A6 p.length m6 A7 s.length m7 A8 r.length m8 w).mono ?_; rintro e w' ⟨rfl, hb⟩; exact ⟨none, 0, none, 0, none, 0, rfl, ⟨nilCo _, nilAt _, nilR _⟩, hb⟩
 by_cases h2 : k = 2
 ·subst h2; refine (asks_2 c q hh a t A6 p.length m6 A7 s.length m7 A8 r.length m8 w).mono ?_; rintro e w' ⟨rfl, hb⟩; exact ⟨A6, m6, none, 0, none, 0, rfl, ⟨Kd.C_below h.p hb, nilAt _, nilR _⟩, hb⟩
 by_cases h4 : k = 4
 ·subst h4; refine (asks_4 c q hh a t A6 p.length m6 A7 s.length m7 A8 r.length m8 w).mono ?_; rintro e w' ⟨rfl, hb⟩; exact ⟨A6, m6, none, 0, none, 0, rfl, ⟨Kd.C_below h.p hb, nilAt _, nilR _⟩, hb⟩
 by_cases h3 : k = 3
 ·subst h3; refine (asks_3 c q hh a t A6 p.length m6 A7 s.length m7 A8 r.length m8 w).mono ?_; rintro e w' ⟨rfl, hb⟩; exact ⟨none, 0, none, 0, none, 0, rfl, ⟨nilCo _, nilAt _, nilR _⟩, hb⟩
 by_cases h5 : k = 5
 ·subst h5; refine (asks_5 c q hh a t A6 p.length m6 A7 s.length m7 A8 r.length m8 w).mono ?_; rintro e w' ⟨rfl, hb⟩; exact ⟨none, 0, none, 0, none, 0, rfl, ⟨nilCo _, nilAt _, nilR _⟩, hb⟩
 by_cases h6 : k = 6
 ·subst h6; refine (asks_6 c q hh a t A6 p.length m6 A7 s.length m7 A8 r.length m8 w).mono ?_; rintro e w' ⟨rfl, hb⟩; exact ⟨none, 0, A7, m7, none, 0, rfl, ⟨nilCo _, Kd.C_below h.s hb, nilR _⟩, hb⟩
 by_cases h7 : k = 7
 ·subst h7; refine (asks_7 c q hh a t A6 p.length m6 A7 s.length m7 A8 r.length m8 w).mono ?_; rintro e w' ⟨rfl, hb⟩; exact ⟨none, 0, none, 0, none, 0, rfl, ⟨nilCo _, nilAt _, nilR _⟩, hb⟩
 by_cases h8 : k = 8
 ·subst h8; refine (asks_8 c q hh a t A6 p.length m6 A7 s.length m7 A8 r.length m8 w).mono ?_; rintro e w' ⟨rfl, hb⟩; exact ⟨none, 0, none, 0, none, 0, rfl, ⟨nilCo _, nilAt _, nilR _⟩, hb⟩
 by_cases h9 : k = 9
 ·subst h9; refine (asks_9 c q hh a t A6 p.length m6 A7 s.length m7 A8 r.length m8 w).mono ?_; rintro e w' ⟨rfl, hb⟩; exact ⟨none, 0, none, 0, A8, m8, rfl, ⟨nilCo _, nilAt _, Kd.C_below h.r hb⟩, hb⟩
 have ha : askd ⟨k, c, q, hh, a, t, p, s, r⟩ = ⟨k, 0, 0, 0, 0, 0, [], [], []⟩ := by simp [askd, h1, h2, h3, h4, h5, h6, h7, h8, h9]
 have hk : known k = false := by simp only [known, decide_eq_false_iff_not]; omega
 refine (asks_none k (by simp [h9]) (by simp [h8]) (by simp [h1]) (by simp [h2]) (by simp [h4]) (by simp [h3]) (by simp [h5]) (by simp [h7]) (by simp [h6]) c q hh a t A6 p.length m6 A7 s.length m7 A8 r.length m8 w).mono ?_; rintro e w' ⟨rfl, hb⟩; rw [ha, hk]; exact ⟨none, 0, none, 0, none, 0, rfl, ⟨nilCo _, nilAt _, nilR _⟩, hb⟩

def sameD (x y : OpD) : Bool := decide (x = y)
set_option maxRecDepth 100000 in
set_option maxHeartbeats 8000000 in
theorem same_calls (x : OpD) (A6 : Option Addr) (m6 : Nat) (A7 : Option Addr) (m7 : Nat) (A8 : Option Addr) (m8 : Nat) (y : OpD) (B6 : Option Addr) (n6 : Nat) (B7 : Option Addr) (n7 : Nat) (B8 : Option Addr) (n8 : Nat) (w : World) (hx : Lies w x A6 A7 A8) (hy : Lies w y B6 B7 B8) (bx : Byt x.r) (by_ : Byt y.r) :
  Calls Tryd.prog 29 #[oW x A6 m6 A7 m7 A8 m8, oW y B6 n6 B7 n7 B8 n8] w fun e w' => e = .returned (.bool (sameD x y)) ∧ Below w.heap.size w w' := by
 obtain ⟨k, c, q, hh, a, t, p, s, r⟩ := x; obtain ⟨k', c', q', hh', a', t', p', s', r'⟩ := y; have HB := sd (below_alloc (below_alloc (Below.refl w.heap.size w) (.cells #[.int .i64 k, .int .i64 c, .int .i64 q, .int .i64 hh, .int .i64 a, .int .i64 t, .slice A6 p.length m6, .slice A7 s.length m7, .slice A8 r.length m8] 30)) (.cells #[.int .i64 k', .int .i64 c', .int .i64 q', .int .i64 hh', .int .i64 a', .int .i64 t', .slice B6 p'.length n6, .slice B7 s'.length n7, .slice B8 r'.length n8] 30)); have HX := sd (hx.below HB.out); have HY := sd (hy.below HB.out); have BX := sd bx; have BY := sd by_; clear hx hy bx by_
 by_cases e0 : k = k'
 case neg =>
  have b0 : (k == k') = false := by simp [e0]
  have HF : Hid (sameD ⟨k, c, q, hh, a, t, p, s, r⟩ ⟨k', c', q', hh', a', t', p', s', r'⟩ = false) := Lib.hid (by simp [sameD, e0]); clear e0
  go_enter Tryd.func29, Tryd.ntmps29
  go_wp2; go_ret; exact ⟨by rw [HF.out]; rfl, below_step HB.out (Drawn0.below (by repeat (first | exact Drawn0.refl _ | apply Drawn0.step)))⟩
 have b0 : (k == k') = true := by simp [e0]
 by_cases e1 : c = c'
 case neg =>
  have b1 : (c == c') = false := by simp [e1]
  have HF : Hid (sameD ⟨k, c, q, hh, a, t, p, s, r⟩ ⟨k', c', q', hh', a', t', p', s', r'⟩ = false) := Lib.hid (by simp [sameD, e1]); clear e0 e1
  go_enter Tryd.func29, Tryd.ntmps29
  go_wp2; go_ret; exact ⟨by rw [HF.out]; rfl, below_step HB.out (Drawn0.below (by repeat (first | exact Drawn0.refl _ | apply Drawn0.step)))⟩
 have b1 : (c == c') = true := by simp [e1]
 by_cases e2 : q = q'
 case neg =>
  have b2 : (q == q') = false := by simp [e2]
  have HF : Hid (sameD ⟨k, c, q, hh, a, t, p, s, r⟩ ⟨k', c', q', hh', a', t', p', s', r'⟩ = false) := Lib.hid (by simp [sameD, e2]); clear e0 e1 e2
  go_enter Tryd.func29, Tryd.ntmps29
  go_wp2; go_ret; exact ⟨by rw [HF.out]; rfl, below_step HB.out (Drawn0.below (by repeat (first | exact Drawn0.refl _ | apply Drawn0.step)))⟩
 have b2 : (q == q') = true := by simp [e2]
 by_cases e3 : hh = hh'
 case neg =>
  have b3 : (hh == hh') = false := by simp [e3]
  have HF : Hid (sameD ⟨k, c, q, hh, a, t, p, s, r⟩ ⟨k', c', q', hh', a', t', p', s', r'⟩ = false) := Lib.hid (by simp [sameD, e3]); clear e0 e1 e2 e3
  go_enter Tryd.func29, Tryd.ntmps29
  go_wp2; go_ret; exact ⟨by rw [HF.out]; rfl, below_step HB.out (Drawn0.below (by repeat (first | exact Drawn0.refl _ | apply Drawn0.step)))⟩
 have b3 : (hh == hh') = true := by simp [e3]
 by_cases e4 : a = a'
 case neg =>
  have b4 : (a == a') = false := by simp [e4]
  have HF : Hid (sameD ⟨k, c, q, hh, a, t, p, s, r⟩ ⟨k', c', q', hh', a', t', p', s', r'⟩ = false) := Lib.hid (by simp [sameD, e4]); clear e0 e1 e2 e3 e4
  go_enter Tryd.func29, Tryd.ntmps29
  go_wp2; go_ret; exact ⟨by rw [HF.out]; rfl, below_step HB.out (Drawn0.below (by repeat (first | exact Drawn0.refl _ | apply Drawn0.step)))⟩
 have b4 : (a == a') = true := by simp [e4]
 by_cases e5 : t = t'
 case neg =>
  have b5 : (t == t') = false := by simp [e5]
  have HF : Hid (sameD ⟨k, c, q, hh, a, t, p, s, r⟩ ⟨k', c', q', hh', a', t', p', s', r'⟩ = false) := Lib.hid (by simp [sameD, e5]); clear e0 e1 e2 e3 e4 e5
  go_enter Tryd.func29, Tryd.ntmps29
  go_wp2; go_ret; exact ⟨by rw [HF.out]; rfl, below_step HB.out (Drawn0.below (by repeat (first | exact Drawn0.refl _ | apply Drawn0.step)))⟩
 have b5 : (t == t') = true := by simp [e5]
 by_cases e6 : p = p'
 case neg =>
  have b6 : decide (p = p') = false := decide_eq_false e6; have HF : Hid (sameD ⟨k, c, q, hh, a, t, p, s, r⟩ ⟨k', c', q', hh', a', t', p', s', r'⟩ = false) := Lib.hid (by simp [sameD, e6]); have D6 := Lib.hid b6; clear e0 e1 e2 e3 e4 e5 e6 b6
  go_enter Tryd.func29, Tryd.ntmps29
  go_wp2_with (first | (go_at_call 60; refine (eqCo_calls _ _ p _ _ p' _ (Kd.C_below HX.out.p (Drawn0.below (by repeat (first | exact Drawn0.refl _ | apply Drawn0.step)))) (Kd.C_below HY.out.p (Drawn0.below (by repeat (first | exact Drawn0.refl _ | apply Drawn0.step))))).mono ?_; rintro e w1 ⟨he, hD⟩; rw [D6.out] at he; subst he; obtain ⟨d6, rfl⟩ := hD) | (go_at_call 61; refine (eqAt_calls _ _ s _ _ s' _ (Kd.C_below HX.out.s (Drawn0.below (by repeat (first | exact Drawn0.refl _ | apply Drawn0.step)))) (Kd.C_below HY.out.s (Drawn0.below (by repeat (first | exact Drawn0.refl _ | apply Drawn0.step))))).mono ?_; rintro e w1 ⟨he, hD⟩; rw [D7.out] at he; subst he; obtain ⟨d7, rfl⟩ := hD) | (go_at_call 62; refine (eqB_calls _ _ r _ _ r' _ (Kd.C_below HX.out.r (Drawn0.below (by repeat (first | exact Drawn0.refl _ | apply Drawn0.step)))) (Kd.C_below HY.out.r (Drawn0.below (by repeat (first | exact Drawn0.refl _ | apply Drawn0.step)))) BX.out BY.out).mono ?_; rintro e w1 ⟨he, rfl⟩; rw [D8.out] at he; subst he)); go_ret; exact ⟨by rw [HF.out]; rfl, below_step HB.out (Drawn0.below (by repeat (first | exact Drawn0.refl _ | apply Drawn0.step)))⟩
 have b6 : decide (p = p') = true := decide_eq_true e6
 by_cases e7 : s = s'
 case neg =>
  have b7 : decide (s = s') = false := decide_eq_false e7; have HF : Hid (sameD ⟨k, c, q, hh, a, t, p, s, r⟩ ⟨k', c', q', hh', a', t', p', s', r'⟩ = false) := Lib.hid (by simp [sameD, e7]); have D6 := Lib.hid b6; have D7 := Lib.hid b7; clear e0 e1 e2 e3 e4 e5 e6 e7 b6 b7
  go_enter Tryd.func29, Tryd.ntmps29
  go_wp2_with (first | (go_at_call 60; refine (eqCo_calls _ _ p _ _ p' _ (Kd.C_below HX.out.p (Drawn0.below (by repeat (first | exact Drawn0.refl _ | apply Drawn0.step)))) (Kd.C_below HY.out.p (Drawn0.below (by repeat (first | exact Drawn0.refl _ | apply Drawn0.step))))).mono ?_; rintro e w1 ⟨he, hD⟩; rw [D6.out] at he; subst he; obtain ⟨d6, rfl⟩ := hD) | (go_at_call 61; refine (eqAt_calls _ _ s _ _ s' _ (Kd.C_below HX.out.s (Drawn0.below (by repeat (first | exact Drawn0.refl _ | apply Drawn0.step)))) (Kd.C_below HY.out.s (Drawn0.below (by repeat (first | exact Drawn0.refl _ | apply Drawn0.step))))).mono ?_; rintro e w1 ⟨he, hD⟩; rw [D7.out] at he; subst he; obtain ⟨d7, rfl⟩ := hD) | (go_at_call 62; refine (eqB_calls _ _ r _ _ r' _ (Kd.C_below HX.out.r (Drawn0.below (by repeat (first | exact Drawn0.refl _ | apply Drawn0.step)))) (Kd.C_below HY.out.r (Drawn0.below (by repeat (first | exact Drawn0.refl _ | apply Drawn0.step)))) BX.out BY.out).mono ?_; rintro e w1 ⟨he, rfl⟩; rw [D8.out] at he; subst he)); go_ret; exact ⟨by rw [HF.out]; rfl, below_step HB.out (Drawn0.below (by repeat (first | exact Drawn0.refl _ | apply Drawn0.step)))⟩
 have b7 : decide (s = s') = true := decide_eq_true e7
 by_cases e8 : r = r'
 case neg =>
  have b8 : decide (r = r') = false := decide_eq_false e8; have HF : Hid (sameD ⟨k, c, q, hh, a, t, p, s, r⟩ ⟨k', c', q', hh', a', t', p', s', r'⟩ = false) := Lib.hid (by simp [sameD, e8]); have D6 := Lib.hid b6; have D7 := Lib.hid b7; have D8 := Lib.hid b8; clear e0 e1 e2 e3 e4 e5 e6 e7 e8 b6 b7 b8
  go_enter Tryd.func29, Tryd.ntmps29
  go_wp2_with (first | (go_at_call 60; refine (eqCo_calls _ _ p _ _ p' _ (Kd.C_below HX.out.p (Drawn0.below (by repeat (first | exact Drawn0.refl _ | apply Drawn0.step)))) (Kd.C_below HY.out.p (Drawn0.below (by repeat (first | exact Drawn0.refl _ | apply Drawn0.step))))).mono ?_; rintro e w1 ⟨he, hD⟩; rw [D6.out] at he; subst he; obtain ⟨d6, rfl⟩ := hD) | (go_at_call 61; refine (eqAt_calls _ _ s _ _ s' _ (Kd.C_below HX.out.s (Drawn0.below (by repeat (first | exact Drawn0.refl _ | apply Drawn0.step)))) (Kd.C_below HY.out.s (Drawn0.below (by repeat (first | exact Drawn0.refl _ | apply Drawn0.step))))).mono ?_; rintro e w1 ⟨he, hD⟩; rw [D7.out] at he; subst he; obtain ⟨d7, rfl⟩ := hD) | (go_at_call 62; refine (eqB_calls _ _ r _ _ r' _ (Kd.C_below HX.out.r (Drawn0.below (by repeat (first | exact Drawn0.refl _ | apply Drawn0.step)))) (Kd.C_below HY.out.r (Drawn0.below (by repeat (first | exact Drawn0.refl _ | apply Drawn0.step)))) BX.out BY.out).mono ?_; rintro e w1 ⟨he, rfl⟩; rw [D8.out] at he; subst he)); go_ret; exact ⟨by rw [HF.out]; rfl, below_step HB.out (Drawn0.below (by repeat (first | exact Drawn0.refl _ | apply Drawn0.step)))⟩
 have b8 : decide (r = r') = true := decide_eq_true e8; have HF : Hid (sameD ⟨k, c, q, hh, a, t, p, s, r⟩ ⟨k', c', q', hh', a', t', p', s', r'⟩ = true) := Lib.hid (by simp [sameD, e0, e1, e2, e3, e4, e5, e6, e7, e8]); have D6 := Lib.hid b6; have D7 := Lib.hid b7; have D8 := Lib.hid b8; clear e0 e1 e2 e3 e4 e5 e6 e7 e8 b6 b7 b8
 go_enter Tryd.func29, Tryd.ntmps29
 go_wp2_with (first | (go_at_call 60; refine (eqCo_calls _ _ p _ _ p' _ (Kd.C_below HX.out.p (Drawn0.below (by repeat (first | exact Drawn0.refl _ | apply Drawn0.step)))) (Kd.C_below HY.out.p (Drawn0.below (by repeat (first | exact Drawn0.refl _ | apply Drawn0.step))))).mono ?_; rintro e w1 ⟨he, hD⟩; rw [D6.out] at he; subst he; obtain ⟨d6, rfl⟩ := hD) | (go_at_call 61; refine (eqAt_calls _ _ s _ _ s' _ (Kd.C_below HX.out.s (Drawn0.below (by repeat (first | exact Drawn0.refl _ | apply Drawn0.step)))) (Kd.C_below HY.out.s (Drawn0.below (by repeat (first | exact Drawn0.refl _ | apply Drawn0.step))))).mono ?_; rintro e w1 ⟨he, hD⟩; rw [D7.out] at he; subst he; obtain ⟨d7, rfl⟩ := hD) | (go_at_call 62; refine (eqB_calls _ _ r _ _ r' _ (Kd.C_below HX.out.r (Drawn0.below (by repeat (first | exact Drawn0.refl _ | apply Drawn0.step)))) (Kd.C_below HY.out.r (Drawn0.below (by repeat (first | exact Drawn0.refl _ | apply Drawn0.step)))) BX.out BY.out).mono ?_; rintro e w1 ⟨he, rfl⟩; rw [D8.out] at he; subst he)); go_ret; exact ⟨by rw [HF.out]; rfl, below_step HB.out (Drawn0.below (by repeat (first | exact Drawn0.refl _ | apply Drawn0.step)))⟩
end Go.Proofs.YtbplemhjhpfkgaaDoor.Cd

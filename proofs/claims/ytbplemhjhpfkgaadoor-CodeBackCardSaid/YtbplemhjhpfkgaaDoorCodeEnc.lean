/-
  code.Encode of any operation.
-/
import Derived.Test.YtbplemhjhpfkgaaDoorCodeRight
namespace Go.Proofs.YtbplemhjhpfkgaaDoor.Cd
open Go.RowKit Go.Proofs.YtbplemhjhpfkgaaDoorW.PrintWords Go.Proofs.YtbplemhjhpfkgaaDoorW.PrintLast Go.Proofs.YtbplemhjhpfkgaaDoorW.PrintMore Go.Proofs.YtbplemhjhpfkgaaDoor.Rd
open Go.Proofs.YtbplemhjhpfkgaaDoor.Ft (Door Chain new_chain kind_calls chain_iface)
set_option linter.unusedVariables false
set_option linter.unusedSimpArgs false
set_option maxRecDepth 100000 in
set_option maxHeartbeats 4000000 in
/-- code.Encode of an operation that is right. -/
theorem enc_right (o : OpD) (A6 : Option Addr) (m6 : Nat) (A7 : Option Addr) (m7 : Nat) (A8 : Option Addr) (m8 : Nat) (w : World) (h : Lies w o A6 A7 A8) (br : Byt o.r) (hr : rightD o = true) :
    Calls Tryd.prog 14 #[oW o A6 m6 A7 m7 A8 m8] w fun e w' => ∃ v, e = .returned (.tuple #[v, .nilIface]) ∧ Kd.R (Kd.int .u8) 5 w' w.heap.size (fun _ => True) v (opB o.k o.c o.q o.h o.a o.t o.p o.s o.r) ∧ Below w.heap.size w w' := by
  have HP : Hid (o.p.length ≤ 200 ∧ o.s.length ≤ 200) := Lib.hid (by
    simp only [rightD, Bool.and_eq_true, decide_eq_true_iff] at hr
    omega)
  have HR := Lib.hid hr
  have BR := Aside0.mk br
  have HL := Aside0.mk h
  clear h br hr
  obtain ⟨k, c, q, hh, a, t, p, s, r⟩ := o
  have HX := Aside0.mk (blk_new w (.cells #[.int .i64 k, .int .i64 c, .int .i64 q, .int .i64 hh, .int .i64 a, .int .i64 t, .slice A6 p.length m6, .slice A7 s.length m7, .slice A8 r.length m8] 30))
  have HB := Aside0.mk (below_alloc (Below.refl w.heap.size w) (.cells #[.int .i64 k, .int .i64 c, .int .i64 q, .int .i64 hh, .int .i64 a, .int .i64 t, .slice A6 p.length m6, .slice A7 s.length m7, .slice A8 r.length m8] 30))
  go_enter Tryd.func14, Tryd.ntmps14
  go_wp2_with (first | (go_at_call 20; refine (right_calls ⟨k, c, q, hh, a, t, p, s, r⟩ _ _ _ _ _ _ _ (Lies.below HL.out HB.out) BR.out).mono ?_; rintro e w1 ⟨he, hB⟩; rw [HR.out] at he; subst he; replace HX := Aside0.mk (blk_below HX.out hB); have q0 := (blk_cell HX.out 0); have q1 := (blk_cell HX.out 1); have q2 := (blk_cell HX.out 2); have q3 := (blk_cell HX.out 3); have q4 := (blk_cell HX.out 4); have q5 := (blk_cell HX.out 5); have q6 := (blk_cell HX.out 6); have q7 := (blk_cell HX.out 7); have q8 := (blk_cell HX.out 8); have hl1 := blk_lt HX.out; replace HB := Aside0.mk (below_step HB.out hB); clear hB) | (go_at_call 45; refine (put_calls k c q hh a t _ _ p _ _ s _ _ r _ (Kd.C_below HL.out.p HB.out) (Kd.C_below HL.out.s HB.out) (Kd.C_below HL.out.r HB.out) (by have := HP.out.1; omega) (by have := HP.out.2; omega)).mono ?_; rintro e w2 ⟨v, rfl, hR, hB⟩; have HRR := Aside0.mk (Kd.R_lower hR HB.out.size); replace HB := Aside0.mk (below_step HB.out hB); clear hB hR))
  go_ret2
  exact ⟨v, rfl, HRR.out, HB.out⟩
set_option maxRecDepth 100000 in
set_option maxHeartbeats 4000000 in
/-- code.Encode of one that is not. -/
theorem enc_wrong (o : OpD) (A6 : Option Addr) (m6 : Nat) (A7 : Option Addr) (m7 : Nat) (A8 : Option Addr) (m8 : Nat) (w : World) (h : Lies w o A6 A7 A8) (br : Byt o.r) (hr : rightD o = false) :
    Calls Tryd.prog 14 #[oW o A6 m6 A7 m7 A8 m8] w fun e w' => ∃ u, e = .returned (.tuple #[.slice none 0 0, u]) ∧ Chain w' [(⟨#[99, 111, 100, 101]⟩, 0)] 1 u ∧ Below w.heap.size w w' := by
  have HR := Lib.hid hr
  have BR := Aside0.mk br
  have HL := Aside0.mk h
  clear h br hr
  obtain ⟨k, c, q, hh, a, t, p, s, r⟩ := o
  have HB := Aside0.mk (below_alloc (Below.refl w.heap.size w) (.cells #[.int .i64 k, .int .i64 c, .int .i64 q, .int .i64 hh, .int .i64 a, .int .i64 t, .slice A6 p.length m6, .slice A7 s.length m7, .slice A8 r.length m8] 30))
  go_enter Tryd.func14, Tryd.ntmps14
  go_wp2_with (first | (go_at_call 20; refine (right_calls ⟨k, c, q, hh, a, t, p, s, r⟩ _ _ _ _ _ _ _ (Lies.below HL.out HB.out) BR.out).mono ?_; rintro e w1 ⟨he, hB⟩; rw [HR.out] at he; subst he; replace HB := Aside0.mk (below_step HB.out hB); clear hB) | (go_at_call 44; refine (new_chain (fs := []) (c := 1) rfl).mono ?_; rintro e w2 ⟨u, rfl, hc, hB⟩; have HC := Aside0.mk hc; replace HB := Aside0.mk (below_step HB.out hB); clear hB hc))
  go_ret2
  exact ⟨u, rfl, HC.out, HB.out⟩

end Go.Proofs.YtbplemhjhpfkgaaDoor.Cd

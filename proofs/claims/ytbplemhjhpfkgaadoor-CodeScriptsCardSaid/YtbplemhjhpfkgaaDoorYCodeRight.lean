/-
 code.Right and code.Encode of any operation.
-/
import Derived.Test.YtbplemhjhpfkgaaDoorYCodeAsk
import Derived.Test.YtbplemhjhpfkgaaDoorYCodePut
import Derived.Test.YtbplemhjhpfkgaaDoorYFaultKind
set_option linter.unusedVariables false
set_option linter.unusedSimpArgs false
namespace Go.Proofs.YtbplemhjhpfkgaaDoor.Cd
open Go.RowKit YtbplemhjhpfkgaaDoorW.PrintWords YtbplemhjhpfkgaaDoorW.PrintLast YtbplemhjhpfkgaaDoorW.PrintMore Rd
open Go.Proofs.YtbplemhjhpfkgaaDoor.Ft (Door Chain new_chain kind_calls chain_iface)
def okC (x : Co) : Bool := decide (x.1.size ≤ 255 ∧ x.2.2.2.2.size ≤ 255 ∧ 0 ≤ x.2.1 ∧ x.2.1 ≤ 255)
def okA (x : At) : Bool := decide (x.1.size ≤ 255 ∧ x.2.2.2.size ≤ 255)
def rightD (o : OpD) : Bool := known o.k && sameD (askd o) o && decide (o.p.length ≤ 200 ∧ o.s.length ≤ 200 ∧ o.r.length ≤ 255) && o.p.all okC && o.s.all okA
theorem byt_askd {o : OpD} (h : Byt o.r) : Byt (askd o).r := by
 unfold askd
 repeat (first | (split) | exact h | (intro x hx; simp at hx))
theorem all_snoc {α : Type} {f : α → Bool} {l : List α} {j : Nat} {x : α} (h : l[j]? = some x) (ha : (l.take j).all f = true) (hx : f x = true) : (l.take (j + 1)).all f = true := by
 rw [List.take_add_one, h, List.all_append, ha]
 simp [hx]
theorem all_not {α : Type} {f : α → Bool} {l : List α} {j : Nat} {x : α} (h : l[j]? = some x) (hx : f x = false) : l.all f = false := by
 rw [List.all_eq_false]; exact ⟨x, List.mem_of_getElem? h, by simp [hx]⟩
set_option maxRecDepth 100000 in
set_option maxHeartbeats 8000000 in
theorem right_calls (o : OpD) (A6 : Option Addr) (m6 : Nat) (A7 : Option Addr) (m7 : Nat) (A8 : Option Addr) (m8 : Nat) (w : World) (h : Lies w o A6 A7 A8) (br : Byt o.r) :
  Calls Tryd.prog 20 #[oW o A6 m6 A7 m7 A8 m8] w fun e w' => e = .returned (.bool (rightD o)) ∧ Below w.heap.size w w' := by
 obtain ⟨z, hz⟩ : ∃ z, askd o = z := ⟨_, rfl⟩; have BRZ := sd (show Byt z.r by rw [← hz]; exact byt_askd br); have BR := sd br; have HA : Hid (∀ W, Lies W o A6 A7 A8 → Calls Tryd.prog 53 #[oW o A6 m6 A7 m7 A8 m8] W fun e w' => ∃ B6 n6 B7 n7 B8 n8, e = .returned (.tuple #[oW z B6 n6 B7 n7 B8 n8, .bool (known o.k)]) ∧ Lies w' z B6 B7 B8 ∧ Below W.heap.size W w') := Lib.hid (fun W hL => by rw [← hz]; exact asks_any o A6 m6 A7 m7 A8 m8 W hL); have HZ : Hid (rightD o = (known o.k && sameD z o && decide (o.p.length ≤ 200 ∧ o.s.length ≤ 200 ∧ o.r.length ≤ 255) && o.p.all okC && o.s.all okA)) := Lib.hid (by rw [← hz]; rfl); clear hz br; obtain ⟨k, c, q, hh, a, t, p, s, r⟩ := o; obtain ⟨zk, zc, zq, zh, za, zt, zp, zs, zr⟩ := z; have HX := sd (blk_new w (.cells #[.int .i64 k, .int .i64 c, .int .i64 q, .int .i64 hh, .int .i64 a, .int .i64 t, .slice A6 p.length m6, .slice A7 s.length m7, .slice A8 r.length m8] 30)); have HB := sd (below_alloc (Below.refl w.heap.size w) (.cells #[.int .i64 k, .int .i64 c, .int .i64 q, .int .i64 hh, .int .i64 a, .int .i64 t, .slice A6 p.length m6, .slice A7 s.length m7, .slice A8 r.length m8] 30)); have HL := sd h; clear h
 by_cases hk : known k = true
 case neg =>
  have hk2 : known k = false := by simpa using hk
  have KN := Lib.hid hk2; have HF : Hid (rightD ⟨k, c, q, hh, a, t, p, s, r⟩ = false) := Lib.hid (by rw [HZ.out]; simp [hk2]); clear hk hk2
  go_enter Tryd.func20, Tryd.ntmps20
  go_wp2_with (first | (go_at_call 53; refine (HA.out _ (Lies.below HL.out HB.out)).mono ?_; rintro e w1 ⟨B6, n6, B7, n7, B8, n8, he, hLz, hB⟩; rw [KN.out] at he; subst he; replace HX := sd (blk_below HX.out hB); have q0 := (blk_cell HX.out 0); have q1 := (blk_cell HX.out 1); have q2 := (blk_cell HX.out 2); have q3 := (blk_cell HX.out 3); have q4 := (blk_cell HX.out 4); have q5 := (blk_cell HX.out 5); have q6 := (blk_cell HX.out 6); have q7 := (blk_cell HX.out 7); have q8 := (blk_cell HX.out 8); have hl1 := blk_lt HX.out; replace HB := sd (below_step HB.out hB); have HLZ := sd (Lies.below hLz (below_alloc (Below.refl w1.heap.size w1) (.cells #[.int .i64 zk, .int .i64 zc, .int .i64 zq, .int .i64 zh, .int .i64 za, .int .i64 zt, .slice B6 zp.length n6, .slice B7 zs.length n7, .slice B8 zr.length n8] 30))); clear hB hLz; replace HX := sd (blk_alloc HX.out (.cells #[.int .i64 zk, .int .i64 zc, .int .i64 zq, .int .i64 zh, .int .i64 za, .int .i64 zt, .slice B6 zp.length n6, .slice B7 zs.length n7, .slice B8 zr.length n8] 30)); replace HB := sd (below_alloc HB.out (.cells #[.int .i64 zk, .int .i64 zc, .int .i64 zq, .int .i64 zh, .int .i64 za, .int .i64 zt, .slice B6 zp.length n6, .slice B7 zs.length n7, .slice B8 zr.length n8] 30)))); go_ret; exact ⟨by rw [HF.out]; rfl, HB.out⟩
 have KN := Lib.hid hk
 by_cases hs : sameD ⟨zk, zc, zq, zh, za, zt, zp, zs, zr⟩ ⟨k, c, q, hh, a, t, p, s, r⟩ = true
 case neg =>
  have hs2 : sameD ⟨zk, zc, zq, zh, za, zt, zp, zs, zr⟩ ⟨k, c, q, hh, a, t, p, s, r⟩ = false := by simpa using hs
  have SM := Lib.hid hs2; have HF : Hid (rightD ⟨k, c, q, hh, a, t, p, s, r⟩ = false) := Lib.hid (by rw [HZ.out]; simp [hs2]); clear hk hs hs2
  go_enter Tryd.func20, Tryd.ntmps20
  go_wp2_with (first | (go_at_call 53; refine (HA.out _ (Lies.below HL.out HB.out)).mono ?_; rintro e w1 ⟨B6, n6, B7, n7, B8, n8, he, hLz, hB⟩; rw [KN.out] at he; subst he; replace HX := sd (blk_below HX.out hB); have q0 := (blk_cell HX.out 0); have q1 := (blk_cell HX.out 1); have q2 := (blk_cell HX.out 2); have q3 := (blk_cell HX.out 3); have q4 := (blk_cell HX.out 4); have q5 := (blk_cell HX.out 5); have q6 := (blk_cell HX.out 6); have q7 := (blk_cell HX.out 7); have q8 := (blk_cell HX.out 8); have hl1 := blk_lt HX.out; replace HB := sd (below_step HB.out hB); have HLZ := sd (Lies.below hLz (below_alloc (Below.refl w1.heap.size w1) (.cells #[.int .i64 zk, .int .i64 zc, .int .i64 zq, .int .i64 zh, .int .i64 za, .int .i64 zt, .slice B6 zp.length n6, .slice B7 zs.length n7, .slice B8 zr.length n8] 30))); clear hB hLz; replace HX := sd (blk_alloc HX.out (.cells #[.int .i64 zk, .int .i64 zc, .int .i64 zq, .int .i64 zh, .int .i64 za, .int .i64 zt, .slice B6 zp.length n6, .slice B7 zs.length n7, .slice B8 zr.length n8] 30)); replace HB := sd (below_alloc HB.out (.cells #[.int .i64 zk, .int .i64 zc, .int .i64 zq, .int .i64 zh, .int .i64 za, .int .i64 zt, .slice B6 zp.length n6, .slice B7 zs.length n7, .slice B8 zr.length n8] 30))) | (go_at_call 29; refine (same_calls ⟨zk, zc, zq, zh, za, zt, zp, zs, zr⟩ _ _ _ _ _ _ ⟨k, c, q, hh, a, t, p, s, r⟩ _ _ _ _ _ _ _ HLZ.out (Lies.below HL.out HB.out) BRZ.out BR.out).mono ?_; rintro e w2 ⟨he, hB⟩; rw [SM.out] at he; subst he; replace HX := sd (blk_below HX.out hB); have r0 := (blk_cell HX.out 0); have r1 := (blk_cell HX.out 1); have r2 := (blk_cell HX.out 2); have r3 := (blk_cell HX.out 3); have r4 := (blk_cell HX.out 4); have r5 := (blk_cell HX.out 5); have r6 := (blk_cell HX.out 6); have r7 := (blk_cell HX.out 7); have r8 := (blk_cell HX.out 8); have hl2 := blk_lt HX.out; replace HB := sd (below_step HB.out hB); clear hB q0 q1 q2 q3 q4 q5 q6 q7 q8 hl1 HLZ)); go_ret; exact ⟨by rw [HF.out]; rfl, HB.out⟩
 have SM := Lib.hid hs; clear hk hs
 by_cases lp : p.length ≤ 200
 case neg =>
  have HF : Hid (rightD ⟨k, c, q, hh, a, t, p, s, r⟩ = false) := Lib.hid (by rw [HZ.out]; simp [lp])
  go_enter Tryd.func20, Tryd.ntmps20
  go_wp2_with (first | (go_at_call 53; refine (HA.out _ (Lies.below HL.out HB.out)).mono ?_; rintro e w1 ⟨B6, n6, B7, n7, B8, n8, he, hLz, hB⟩; rw [KN.out] at he; subst he; replace HX := sd (blk_below HX.out hB); have q0 := (blk_cell HX.out 0); have q1 := (blk_cell HX.out 1); have q2 := (blk_cell HX.out 2); have q3 := (blk_cell HX.out 3); have q4 := (blk_cell HX.out 4); have q5 := (blk_cell HX.out 5); have q6 := (blk_cell HX.out 6); have q7 := (blk_cell HX.out 7); have q8 := (blk_cell HX.out 8); have hl1 := blk_lt HX.out; replace HB := sd (below_step HB.out hB); have HLZ := sd (Lies.below hLz (below_alloc (Below.refl w1.heap.size w1) (.cells #[.int .i64 zk, .int .i64 zc, .int .i64 zq, .int .i64 zh, .int .i64 za, .int .i64 zt, .slice B6 zp.length n6, .slice B7 zs.length n7, .slice B8 zr.length n8] 30))); clear hB hLz; replace HX := sd (blk_alloc HX.out (.cells #[.int .i64 zk, .int .i64 zc, .int .i64 zq, .int .i64 zh, .int .i64 za, .int .i64 zt, .slice B6 zp.length n6, .slice B7 zs.length n7, .slice B8 zr.length n8] 30)); replace HB := sd (below_alloc HB.out (.cells #[.int .i64 zk, .int .i64 zc, .int .i64 zq, .int .i64 zh, .int .i64 za, .int .i64 zt, .slice B6 zp.length n6, .slice B7 zs.length n7, .slice B8 zr.length n8] 30))) | (go_at_call 29; refine (same_calls ⟨zk, zc, zq, zh, za, zt, zp, zs, zr⟩ _ _ _ _ _ _ ⟨k, c, q, hh, a, t, p, s, r⟩ _ _ _ _ _ _ _ HLZ.out (Lies.below HL.out HB.out) BRZ.out BR.out).mono ?_; rintro e w2 ⟨he, hB⟩; rw [SM.out] at he; subst he; replace HX := sd (blk_below HX.out hB); have r0 := (blk_cell HX.out 0); have r1 := (blk_cell HX.out 1); have r2 := (blk_cell HX.out 2); have r3 := (blk_cell HX.out 3); have r4 := (blk_cell HX.out 4); have r5 := (blk_cell HX.out 5); have r6 := (blk_cell HX.out 6); have r7 := (blk_cell HX.out 7); have r8 := (blk_cell HX.out 8); have hl2 := blk_lt HX.out; replace HB := sd (below_step HB.out hB); clear hB q0 q1 q2 q3 q4 q5 q6 q7 q8 hl1 HLZ)); go_ret; exact ⟨by rw [HF.out]; rfl, HB.out⟩
 by_cases ls : s.length ≤ 200
 case neg =>
  have HF : Hid (rightD ⟨k, c, q, hh, a, t, p, s, r⟩ = false) := Lib.hid (by rw [HZ.out]; simp [ls])
  go_enter Tryd.func20, Tryd.ntmps20
  go_wp2_with (first | (go_at_call 53; refine (HA.out _ (Lies.below HL.out HB.out)).mono ?_; rintro e w1 ⟨B6, n6, B7, n7, B8, n8, he, hLz, hB⟩; rw [KN.out] at he; subst he; replace HX := sd (blk_below HX.out hB); have q0 := (blk_cell HX.out 0); have q1 := (blk_cell HX.out 1); have q2 := (blk_cell HX.out 2); have q3 := (blk_cell HX.out 3); have q4 := (blk_cell HX.out 4); have q5 := (blk_cell HX.out 5); have q6 := (blk_cell HX.out 6); have q7 := (blk_cell HX.out 7); have q8 := (blk_cell HX.out 8); have hl1 := blk_lt HX.out; replace HB := sd (below_step HB.out hB); have HLZ := sd (Lies.below hLz (below_alloc (Below.refl w1.heap.size w1) (.cells #[.int .i64 zk, .int .i64 zc, .int .i64 zq, .int .i64 zh, .int .i64 za, .int .i64 zt, .slice B6 zp.length n6, .slice B7 zs.length n7, .slice B8 zr.length n8] 30))); clear hB hLz; replace HX := sd (blk_alloc HX.out (.cells #[.int .i64 zk, .int .i64 zc, .int .i64 zq, .int .i64 zh, .int .i64 za, .int .i64 zt, .slice B6 zp.length n6, .slice B7 zs.length n7, .slice B8 zr.length n8] 30)); replace HB := sd (below_alloc HB.out (.cells #[.int .i64 zk, .int .i64 zc, .int .i64 zq, .int .i64 zh, .int .i64 za, .int .i64 zt, .slice B6 zp.length n6, .slice B7 zs.length n7, .slice B8 zr.length n8] 30))) | (go_at_call 29; refine (same_calls ⟨zk, zc, zq, zh, za, zt, zp, zs, zr⟩ _ _ _ _ _ _ ⟨k, c, q, hh, a, t, p, s, r⟩ _ _ _ _ _ _ _ HLZ.out (Lies.below HL.out HB.out) BRZ.out BR.out).mono ?_; rintro e w2 ⟨he, hB⟩; rw [SM.out] at he; subst he; replace HX := sd (blk_below HX.out hB); have r0 := (blk_cell HX.out 0); have r1 := (blk_cell HX.out 1); have r2 := (blk_cell HX.out 2); have r3 := (blk_cell HX.out 3); have r4 := (blk_cell HX.out 4); have r5 := (blk_cell HX.out 5); have r6 := (blk_cell HX.out 6); have r7 := (blk_cell HX.out 7); have r8 := (blk_cell HX.out 8); have hl2 := blk_lt HX.out; replace HB := sd (below_step HB.out hB); clear hB q0 q1 q2 q3 q4 q5 q6 q7 q8 hl1 HLZ)); go_ret; exact ⟨by rw [HF.out]; rfl, HB.out⟩
 by_cases lr : r.length ≤ 255
 case neg =>
  have HF : Hid (rightD ⟨k, c, q, hh, a, t, p, s, r⟩ = false) := Lib.hid (by rw [HZ.out]; simp [lr])
  go_enter Tryd.func20, Tryd.ntmps20
  go_wp2_with (first | (go_at_call 53; refine (HA.out _ (Lies.below HL.out HB.out)).mono ?_; rintro e w1 ⟨B6, n6, B7, n7, B8, n8, he, hLz, hB⟩; rw [KN.out] at he; subst he; replace HX := sd (blk_below HX.out hB); have q0 := (blk_cell HX.out 0); have q1 := (blk_cell HX.out 1); have q2 := (blk_cell HX.out 2); have q3 := (blk_cell HX.out 3); have q4 := (blk_cell HX.out 4); have q5 := (blk_cell HX.out 5); have q6 := (blk_cell HX.out 6); have q7 := (blk_cell HX.out 7); have q8 := (blk_cell HX.out 8); have hl1 := blk_lt HX.out; replace HB := sd (below_step HB.out hB); have HLZ := sd (Lies.below hLz (below_alloc (Below.refl w1.heap.size w1) (.cells #[.int .i64 zk, .int .i64 zc, .int .i64 zq, .int .i64 zh, .int .i64 za, .int .i64 zt, .slice B6 zp.length n6, .slice B7 zs.length n7, .slice B8 zr.length n8] 30))); clear hB hLz; replace HX := sd (blk_alloc HX.out (.cells #[.int .i64 zk, .int .i64 zc, .int .i64 zq, .int .i64 zh, .int .i64 za, .int .i64 zt, .slice B6 zp.length n6, .slice B7 zs.length n7, .slice B8 zr.length n8] 30)); replace HB := sd (below_alloc HB.out (.cells #[.int .i64 zk, .int .i64 zc, .int .i64 zq, .int .i64 zh, .int .i64 za, .int .i64 zt, .slice B6 zp.length n6, .slice B7 zs.length n7, .slice B8 zr.length n8] 30))) | (go_at_call 29; refine (same_calls ⟨zk, zc, zq, zh, za, zt, zp, zs, zr⟩ _ _ _ _ _ _ ⟨k, c, q, hh, a, t, p, s, r⟩ _ _ _ _ _ _ _ HLZ.out (Lies.below HL.out HB.out) BRZ.out BR.out).mono ?_; rintro e w2 ⟨he, hB⟩; rw [SM.out] at he; subst he; replace HX := sd (blk_below HX.out hB); have r0 := (blk_cell HX.out 0); have r1 := (blk_cell HX.out 1); have r2 := (blk_cell HX.out 2); have r3 := (blk_cell HX.out 3); have r4 := (blk_cell HX.out 4); have r5 := (blk_cell HX.out 5); have r6 := (blk_cell HX.out 6); have r7 := (blk_cell HX.out 7); have r8 := (blk_cell HX.out 8); have hl2 := blk_lt HX.out; replace HB := sd (below_step HB.out hB); clear hB q0 q1 q2 q3 q4 q5 q6 q7 q8 hl1 HLZ)); go_ret; exact ⟨by rw [HF.out]; rfl, HB.out⟩
 have HR : Hid (rightD ⟨k, c, q, hh, a, t, p, s, r⟩ = (p.all okC && s.all okA)) := Lib.hid (by rw [HZ.out, KN.out, SM.out]; simp [lp, ls, lr])
 go_enter Tryd.func20, Tryd.ntmps20
 go_upto_region 5 with (first | (go_at_call 53; refine (HA.out _ (Lies.below HL.out HB.out)).mono ?_; rintro e w1 ⟨B6, n6, B7, n7, B8, n8, he, hLz, hB⟩; rw [KN.out] at he; subst he; replace HX := sd (blk_below HX.out hB); have q0 := (blk_cell HX.out 0); have q1 := (blk_cell HX.out 1); have q2 := (blk_cell HX.out 2); have q3 := (blk_cell HX.out 3); have q4 := (blk_cell HX.out 4); have q5 := (blk_cell HX.out 5); have q6 := (blk_cell HX.out 6); have q7 := (blk_cell HX.out 7); have q8 := (blk_cell HX.out 8); have hl1 := blk_lt HX.out; replace HB := sd (below_step HB.out hB); have HLZ := sd (Lies.below hLz (below_alloc (Below.refl w1.heap.size w1) (.cells #[.int .i64 zk, .int .i64 zc, .int .i64 zq, .int .i64 zh, .int .i64 za, .int .i64 zt, .slice B6 zp.length n6, .slice B7 zs.length n7, .slice B8 zr.length n8] 30))); clear hB hLz; replace HX := sd (blk_alloc HX.out (.cells #[.int .i64 zk, .int .i64 zc, .int .i64 zq, .int .i64 zh, .int .i64 za, .int .i64 zt, .slice B6 zp.length n6, .slice B7 zs.length n7, .slice B8 zr.length n8] 30)); replace HB := sd (below_alloc HB.out (.cells #[.int .i64 zk, .int .i64 zc, .int .i64 zq, .int .i64 zh, .int .i64 za, .int .i64 zt, .slice B6 zp.length n6, .slice B7 zs.length n7, .slice B8 zr.length n8] 30))) | (go_at_call 29; refine (same_calls ⟨zk, zc, zq, zh, za, zt, zp, zs, zr⟩ _ _ _ _ _ _ ⟨k, c, q, hh, a, t, p, s, r⟩ _ _ _ _ _ _ _ HLZ.out (Lies.below HL.out HB.out) BRZ.out BR.out).mono ?_; rintro e w2 ⟨he, hB⟩; rw [SM.out] at he; subst he; replace HX := sd (blk_below HX.out hB); have r0 := (blk_cell HX.out 0); have r1 := (blk_cell HX.out 1); have r2 := (blk_cell HX.out 2); have r3 := (blk_cell HX.out 3); have r4 := (blk_cell HX.out 4); have r5 := (blk_cell HX.out 5); have r6 := (blk_cell HX.out 6); have r7 := (blk_cell HX.out 7); have r8 := (blk_cell HX.out 8); have hl2 := blk_lt HX.out; replace HB := sd (below_step HB.out hB); clear hB q0 q1 q2 q3 q4 q5 q6 q7 q8 hl1 HLZ))
 clear HZ HA
 go_loopw [43] (fun i wr => ∃ j : Nat, j ≤ p.length ∧ i = .int .i64 (j : Int) ∧ Aside0 ((p.take j).all okC = true) ∧ Aside0 (Below w2.heap.size w2 wr)) (fun i _ => p.length - (intOf i).toNat)
 case atStart => exact ⟨0, Nat.zero_le _, rfl, ⟨rfl⟩, ⟨Below.refl _ _⟩⟩
 case round =>
  obtain ⟨j, hj, rfl, HAll, HWr⟩ := hrel
  by_cases hlt : j < p.length
  ·obtain ⟨ad, x, rfl, hx, d0, d1, d2, d3, d4⟩ := at_Co (Kd.C_below HL.out.p (below_step HB.out HWr.out)) j hlt; have HX1 := Lib.hid hx; obtain ⟨nm, kd, lo, hi, tx⟩ := x; have HN := sd (below_alloc HWr.out (.cells #[.string nm, .int .i64 kd, .int .i64 lo, .int .i64 hi, .string tx] 44)); clear hx
   by_cases n1 : nm.size ≤ 255
   case neg =>
    have HF := Lib.hid (all_not (f := okC) HX1.out (by simp only [okC, decide_eq_false_iff_not]; rintro ⟨h1, h2, h3, h4⟩; omega)); go_wp2; go_ret; exact ⟨by rw [HR.out, HF.out]; rfl, below_step HB.out HN.out⟩
   by_cases n2 : tx.size ≤ 255
   case neg =>
    have HF := Lib.hid (all_not (f := okC) HX1.out (by simp only [okC, decide_eq_false_iff_not]; rintro ⟨h1, h2, h3, h4⟩; omega)); go_wp2; go_ret; exact ⟨by rw [HR.out, HF.out]; rfl, below_step HB.out HN.out⟩
   by_cases n3 : 0 ≤ kd
   case neg =>
    have HF := Lib.hid (all_not (f := okC) HX1.out (by simp only [okC, decide_eq_false_iff_not]; rintro ⟨h1, h2, h3, h4⟩; omega)); go_wp2; go_ret; exact ⟨by rw [HR.out, HF.out]; rfl, below_step HB.out HN.out⟩
   by_cases n4 : kd ≤ 255
   case neg =>
    have HF := Lib.hid (all_not (f := okC) HX1.out (by simp only [okC, decide_eq_false_iff_not]; rintro ⟨h1, h2, h3, h4⟩; omega)); go_wp2; go_ret; exact ⟨by rw [HR.out, HF.out]; rfl, below_step HB.out HN.out⟩
   have HS := Lib.hid (all_snoc (f := okC) HX1.out HAll.out (by simp only [okC, decide_eq_true_iff]; exact ⟨n1, n2, n3, n4⟩)); go_wp2
   go_roundw
   case rel => exact ⟨j + 1, by omega, by go_num, ⟨HS.out⟩, HN⟩
   case measure => simp [intOf]; omega
  ·obtain rfl : j = p.length := by omega
   have HAc : Hid (p.all okC = true) := Lib.hid (by have := HAll.out; rwa [List.take_length] at this); have HXr := sd (blk_below HX.out HWr.out); have u7 := blk_cell HXr.out 7; have HBr := sd (below_step HB.out HWr.out); clear HAll HX r0 r1 r2 r3 r4 r5 r6 r7 r8 hl2
   go_upto_region 11 with fail
   go_loopw [71] (fun i wx => ∃ j : Nat, j ≤ s.length ∧ i = .int .i64 (j : Int) ∧ Aside0 ((s.take j).all okA = true) ∧ Aside0 (Below wr.heap.size wr wx)) (fun i _ => s.length - (intOf i).toNat)
   case atStart => exact ⟨0, Nat.zero_le _, rfl, ⟨rfl⟩, ⟨Below.refl _ _⟩⟩
   case round =>
    obtain ⟨j, hj, rfl, HAll, HWx⟩ := hrel
    by_cases hlt : j < s.length
    ·obtain ⟨ad, x, rfl, hx, d0, d1, d2, d3⟩ := at_At (Kd.C_below HL.out.s (below_step HBr.out HWx.out)) j hlt; have HX1 := Lib.hid hx; obtain ⟨nm, it, n, tx⟩ := x; have HN := sd (below_alloc HWx.out (.cells #[.string nm, .bool it, .int .i64 n, .string tx] 59)); clear hx
     by_cases n1 : nm.size ≤ 255
     case neg =>
      have HF := Lib.hid (all_not (f := okA) HX1.out (by simp only [okA, decide_eq_false_iff_not]; rintro ⟨h1, h2⟩; omega)); go_wp2; go_ret; exact ⟨by rw [HR.out, HAc.out, HF.out]; rfl, below_step HBr.out HN.out⟩
     by_cases n2 : tx.size ≤ 255
     case neg =>
      have HF := Lib.hid (all_not (f := okA) HX1.out (by simp only [okA, decide_eq_false_iff_not]; rintro ⟨h1, h2⟩; omega)); go_wp2; go_ret; exact ⟨by rw [HR.out, HAc.out, HF.out]; rfl, below_step HBr.out HN.out⟩
     have HS := Lib.hid (all_snoc (f := okA) HX1.out HAll.out (by simp only [okA, decide_eq_true_iff]; exact ⟨n1, n2⟩)); go_wp2
     go_roundw
     case rel => exact ⟨j + 1, by omega, by go_num, ⟨HS.out⟩, HN⟩
     case measure => simp [intOf]; omega
    ·obtain rfl : j = s.length := by omega
     have HAs : Hid (s.all okA = true) := Lib.hid (by have := HAll.out; rwa [List.take_length] at this); go_wp2; go_ret; exact ⟨by rw [HR.out, HAc.out, HAs.out]; rfl, below_step HBr.out HWx.out⟩
end Go.Proofs.YtbplemhjhpfkgaaDoor.Cd

/-
 The reference's number, text and id: the bytes that the program's num puts.
-/
import Derived.Test.YtbplemhjhpfkgaaDoorZRefOne
namespace Go.Proofs.YtbplemhjhpfkgaaDoor.Wr
open Go.RowKit YtbplemhjhpfkgaaDoorW.PrintWords YtbplemhjhpfkgaaDoorW.PrintLast YtbplemhjhpfkgaaDoorW.PrintMore Rd
open Go.Proofs.YtbplemhjhpfkgaaDoor.Cd (Co At kCo kAt at_Co at_At C_blk64 text8_le)
set_option linter.unusedVariables false
set_option linter.unusedSimpArgs false
theorem byte_u64 (n : Int) (j : Nat) (h : j < 8) : byteAt n j = IntKind.u64.wrap n / 2 ^ (56 - 8 * j) % 256 := by
 have h8 : j = 0 ∨ j = 1 ∨ j = 2 ∨ j = 3 ∨ j = 4 ∨ j = 5 ∨ j = 6 ∨ j = 7 := by omega
 have hw : IntKind.u64.wrap n = n % 18446744073709551616 := by simp [IntKind.wrap, IntKind.signed, IntKind.bits]
 unfold byteAt; rw [hw]; rcases h8 with rfl | rfl | rfl | rfl | rfl | rfl | rfl | rfl <;> simp only [Nat.reduceSub, Nat.reduceMul, Nat.reducePow, Int.reducePow] <;> omega
set_option maxRecDepth 100000 in
set_option maxHeartbeats 1600000 in
theorem rnumber_calls (n : Int) (w : World) :
  Calls Tryd.prog 76 #[.int .i64 n] w fun e w' => ∃ v, e = .returned v ∧ Kd.R (Kd.int .u8) 5 w' w.heap.size (fun _ => True) v (be8 n) ∧ Below w.heap.size w w' := by
 go_enter Tryd.func76, Tryd.ntmps76
 go_wp2
 go_loopw [3, 4] (fun v i w2 => ∃ j : Nat, j ≤ 8 ∧ i = .int .i64 (56 - 8 * (j : Int)) ∧ Aside0 (Kd.R (Kd.int .u8) 5 w2 w.heap.size (fun _ => True) v ((be8 n).take j)) ∧ Aside0 (Below w.heap.size w w2)) (fun _ i _ => (intOf i + 8).toNat)
 case atStart => exact ⟨0, by omega, rfl, ⟨Kd.R_nil _ _ _ _ _⟩, ⟨Below.refl _ _⟩⟩
 case round =>
  obtain ⟨j, hj, rfl, HO2, HB2⟩ := hrel
  by_cases hj8 : j < 8
  ·have HL := Lib.hid (show ((be8 n).take j).length + 1 ≤ 140737488355328 by rw [List.length_take, be8_len]; omega); have HN := Lib.hid (show (be8 n).take (j + 1) = (be8 n).take j ++ [IntKind.u64.wrap n / 2 ^ (56 - 8 * j) % 256] by rw [be8_take _ _ hj8, byte_u64 n j hj8]); go_wp2_with (first | ((with_reducible refine gate_builtin (b := .append) (xs := #[.tmp 9, .tmp 16]) rfl ?_); at_builtin; refine Kd.R_append (Kd.int .u8) (w0 := w) (w.heap.size) rfl (.tmp 9) (.tmp 16) 22 5 (.int .u8 0) 1 rfl Tryd.underlying22 infoU8 rfl (by decide) (by omega) (u3) ((be8 n).take j) (IntKind.u64.wrap n / 2 ^ (56 - 8 * j) % 256) [.int .u8 (IntKind.u64.wrap n / 2 ^ (56 - 8 * j) % 256)] (fun _ => True) (fun _ => False) rfl rfl ?aP (fun _ hk => hk.elim) ?aF ?aO ?aB ?aS ?aL ?_; (case aP => exact rfl); (case aB => exact (by repeat (with_reducible first | exact HB2.out | apply below_alloc | apply pw_below_drewN | apply below_drew1))); (case aF => exact (fun _ _ => trivial)); (case aO => exact (by (with_reducible repeat (first | apply Kd.R_alloc | apply Kd.R_drewN | apply Kd.R_drew)); exact HO2.out)); (case aS => exact (below_size (by repeat (with_reducible first | exact HB2.out | apply below_alloc | apply pw_below_drewN | apply below_drew1)))); (case aL => have := HL.out; omega); intro v1 w1 ho hb hg hat; have HO3 := sd ho; have HB3 := sd hb; clear ho hb hg hat))
   go_roundw
   case rel => exact ⟨j + 1, by omega, by go_num, ⟨by rw [HN.out]; exact HO3.out⟩, HB3⟩
   case measure => simp [intOf]; omega
  ·obtain rfl : j = 8 := by omega
   have HO1 : Aside0 (Kd.R (Kd.int .u8) 5 wr w.heap.size (fun _ => True) u3 (be8 n)) := HO2; go_wp2; go_ret; exact ⟨_, rfl, HO1.out, HB2.out⟩
set_option maxHeartbeats 800000 in
theorem rtext_calls (s : ByteArray) (hs : s.size ≤ 255) (w : World) :
  Calls Tryd.prog 75 #[.string s] w fun e w' => ∃ v, e = .returned v ∧ Kd.R (Kd.int .u8) 5 w' w.heap.size (fun _ => True) v (text8 s) ∧ Below w.heap.size w w' := by
 have HE : Hid (text8 s = [(s.size : Int)] ++ bytesOf s) := Lib.hid (by unfold text8; rw [if_neg (by omega)]; rfl)
 go_enter Tryd.func75, Tryd.ntmps75
 go_wp2_with (first | (at_builtin; refine print_append_str (w0 := w) w.heap.size rfl (.tmp 6) _ 22 9 5 rfl Tryd.underlying22 Tryd.underlying9 infoU8 (.slice (some ⟨w.heap.size, 0, none⟩) 1 1) [(s.size : Int)] s rfl rfl ?aO ?aB ?aS ?aL ?_; (case aO => exact own_one w _); (case aB => exact below_alloc (Below.refl _ _) _); (case aS => simp); (case aL => simp; omega); intro v1 w1 ho hb hg; have HO := sd ho; have HB := sd hb; clear ho hb hg)); go_ret; rw [HE.out]; exact ⟨_, rfl, Kd.R_of_own HO.out (fun _ _ => trivial), HB.out⟩
def ridReg.T1 : Bool × List (List Nat × List Nat) := (true, [([], []), ([0], [0]), ([1], [1]), ([], []), ([3], [3]), ([4, 2], [4]), ([2, 5, 5], [2, 5]), ([6, 6, 0, 1, 2, 3, 4, 5, 6], [6])])
def ridReg.B1 : List Nat := [0, 1, 3, 0, 8, 31, 63, 127]
theorem ridReg.tab1 : rtab .any (opsOf Tryd.f74 1) = ridReg.T1 := by kernel_rfl
theorem ridReg.bits1 : waitsOk ridReg.T1.2 ridReg.B1 = true := by kernel_rfl
set_option maxRecDepth 100000 in
set_option maxHeartbeats 1600000 in
theorem refid_calls (ka kb : Int) (w : World) : Calls Tryd.prog 74 #[.agg #[.int .i64 ka, .int .i64 kb]] w fun e w' => ∃ v, e = .returned v ∧ Kd.R (Kd.int .u8) 5 w' w.heap.size (fun _ => True) v (be8s [ka, kb]) ∧ Below w.heap.size w w' := by
 have HX := sd (blk_new w (.cells #[.int .i64 ka, .int .i64 kb] 48)); have HB := sd (below_alloc (Below.refl w.heap.size w) (.cells #[.int .i64 ka, .int .i64 kb] 48)); have HE : Hid (be8s [ka, kb] = be8 ka ++ be8 kb) := Lib.hid (by simp [be8s])
 go_enter Tryd.func74, Tryd.ntmps74
 go_upto_region 1 with fail
 generalize (w.alloc (.cells #[.int .i64 ka, .int .i64 kb] 48)) = wd at *; have HW := sd (Below.refl wd.heap.size wd); refine start_ (n := 8) (S := fun w' => True) (ds := []) #[false, false, false, false, false, false, false, false] (by kernel_rfl) rfl rfl trivial (fun hHeld => ?_); refine with_tabW ridReg.tab1 ridReg.bits1 (fun HT_ HW_ => ?_); refine pure_ (i := 0) (N := some 3) (v := ?_) (a' := ?_) #[true, false, false, false, false, false, false, false] rfl rfl (any_of HT_.out (by kernel_rfl)) (fun _ _ _ h => h) (Or.inl ⟨by rfl, ?_⟩) ?_ ?_
 rotate_left
 ·intro w'; go_simp
  with_reducible rfl
 rotate_left
 ·simp only [Act.put, List.setIfInBounds_toArray, List.set_cons_zero, List.set_cons_succ, i64_w, i32_w]; rfl
 refine pure_ (i := 3) (N := some 6) (v := ?_) (a' := ?_) #[true, false, false, true, false, false, false, false] rfl rfl (any_of HT_.out (by kernel_rfl)) (fun _ _ _ h => h) (Or.inl ⟨by rfl, ?_⟩) ?_ ?_
 rotate_left
 ·intro w'; go_simp
  with_reducible rfl
 rotate_left
 ·simp only [Act.put, List.setIfInBounds_toArray, List.set_cons_zero, List.set_cons_succ, i64_w, i32_w]; rfl
 refine inv_at [1, 2, 4, 5, 6, 7] (fun a0_ b a w' => ∃ (s2_ : Value) (s5_ : Value) (s6_ : Value) (m7_ : Value), a = putSel a0_ b [(1, 4, .int .i64 ka), (2, 5, s2_), (4, 7, .int .i64 kb), (5, 8, s5_), (6, 9, s6_), (7, 2, m7_)] ∧ (Below wd.heap.size wd w') ∧ (b 2 = true → b 6 = false → Kd.R (Kd.int .u8) 5 w' wd.heap.size (fun _ => True) (s2_) (be8 ka)) ∧ (b 5 = true → b 6 = false → Kd.R (Kd.int .u8) 5 w' wd.heap.size (fun _ => True) (s5_) (be8 kb)) ∧ (b 6 = true → Kd.R (Kd.int .u8) 5 w' wd.heap.size (fun _ => True) (s6_) (be8 ka ++ be8 kb)) ∧ (b 7 = true → (m7_ : Value) = s6_)) HT_.out HW_.out (by kernel_rfl) (by kernel_rfl) ?_ ?_ ?_
 ·exact ⟨.bool false, .bool false, .bool false, .bool false, by simp only [putSel, Bool.false_eq_true, if_false], below_drew HW.out, fun h_ => absurd h_ (by decide), fun h_ => absurd h_ (by decide), fun h_ => absurd h_ (by decide), fun h_ => absurd h_ (by decide)⟩
 ·skip
  clear HW; refine steps_cons ?_ ?_
  ·rintro b a w' ⟨s2_, s5_, s6_, m7_, ha, QHW, QH2, QH5, QH6, QX7_⟩ hb_ hon hoff; refine ⟨_, rfl, fun K hK => ?_⟩; have e3 := ef ha 3 (.pointer (some ⟨w.heap.size, 0, none⟩)); replace ha := sd ha; have HW := sd QHW; have q0 := (cells_at HW.out (blk_cell HX.out 0)).trans (rfl : _ = some (Value.int .i64 ka)); refine value_ (w1 := w') (v := .int .i64 ka) (by rfl) rfl ?_ ?_
   ·go_simp; (try simp only [i64_w]); try rfl
   refine hK.out _ _ ⟨s2_, s5_, s6_, m7_, uk ha.out 0 hb_ rfl rfl rfl, QHW, fun h0_ _ => aF hoff 2 h0_, fun h0_ _ => aF hoff 5 h0_, fun h0_ => aF hoff 6 h0_, fun h0_ => aF hoff 7 h0_⟩
  refine steps_cons ?_ ?_
  ·rintro b a w' ⟨s2_, s5_, s6_, m7_, ha, QHW, QH2, QH5, QH6, QX7_⟩ hb_ hon hoff; refine ⟨_, rfl, fun K hK => ?_⟩; have e4 := ek ha 0 1 4 (.int .i64 ka) hon; replace ha := sd ha; have HW := sd QHW; refine goes_ Tryd.func76 (by kernel_rfl) rfl #[.int .i64 ka] (by rfl) rfl rfl (ev1 e4) ?_; refine (rnumber_calls ka w').mono ?_; rintro e w2 ⟨v2, rfl, hR, hB⟩; refine ⟨_, rfl, ?_⟩; refine hK.out _ _ ⟨v2, s5_, s6_, m7_, uk ha.out 1 hb_ rfl rfl rfl, below_step HW.out hB, fun _ _ => Kd.R_lower hR HW.out.size, fun h0_ _ => aF hoff 5 h0_, fun h0_ => aF hoff 6 h0_, fun h0_ => aF hoff 7 h0_⟩
  refine steps_cons ?_ ?_
  ·rintro b a w' ⟨s2_, s5_, s6_, m7_, ha, QHW, QH2, QH5, QH6, QX7_⟩ hb_ hon hoff; refine ⟨_, rfl, fun K hK => ?_⟩; have e6 := ef ha 6 (.pointer (some ⟨w.heap.size, 1, none⟩)); replace ha := sd ha; have HW := sd QHW; have q1 := (cells_at HW.out (blk_cell HX.out 1)).trans (rfl : _ = some (Value.int .i64 kb)); refine value_ (w1 := w') (v := .int .i64 kb) (by rfl) rfl ?_ ?_
   ·go_simp; (try simp only [i64_w]); try rfl
   refine hK.out _ _ ⟨s2_, s5_, s6_, m7_, uk ha.out 2 hb_ rfl rfl rfl, QHW, QH2, fun h0_ _ => aF hoff 5 h0_, fun h0_ => aF hoff 6 h0_, fun h0_ => aF hoff 7 h0_⟩
  refine steps_cons ?_ ?_
  ·rintro b a w' ⟨s2_, s5_, s6_, m7_, ha, QHW, QH2, QH5, QH6, QX7_⟩ hb_ hon hoff; refine ⟨_, rfl, fun K hK => ?_⟩; have e7 := ek ha 2 4 7 (.int .i64 kb) hon; replace ha := sd ha; have HW := sd QHW; have H2 := sd (QH2 (aC hon 2) (aC hoff 6)); refine goes_ Tryd.func76 (by kernel_rfl) rfl #[.int .i64 kb] (by rfl) rfl rfl (ev1 e7) ?_; refine (rnumber_calls kb w').mono ?_; rintro e w2 ⟨v2, rfl, hR, hB⟩; refine ⟨_, rfl, ?_⟩; refine hK.out _ _ ⟨s2_, v2, s6_, m7_, uk ha.out 3 hb_ rfl rfl rfl, below_step HW.out hB, fun _ _ => Kd.R_below H2.out hB, fun _ _ => Kd.R_lower hR HW.out.size, fun h0_ => aF hoff 6 h0_, fun h0_ => aF hoff 7 h0_⟩
  refine steps_cons ?_ ?_
  ·rintro b a w' ⟨s2_, s5_, s6_, m7_, ha, QHW, QH2, QH5, QH6, QX7_⟩ hb_ hon hoff; refine ⟨_, rfl, fun K hK => ?_⟩; have e5 := ek ha 1 2 5 (s2_) hon; have e8 := ek ha 3 5 8 (s5_) hon; replace ha := sd ha; have HW := sd QHW; have H2 := sd (QH2 (aC hon 2) hb_); have H5 := sd (QH5 (aC hon 5) hb_); obtain ⟨aR, cR, hs, hcR, hCR⟩ := Kd.R_reads H5.out; rw [hs] at e8; refine cat_step_at (Kd.int .u8) intKM wd w' wd.heap.size (by rfl) (.tmp 5) (.tmp 8) 22 5 (.int .u8 0) 1 rfl Tryd.underlying22 infoU8 rfl (by decide) (by omega) s2_ (be8 ka) (be8 kb) (aR) ((be8 kb).length) (cR) (eval_of e5) (eval_of e8) H2.out hCR HW.out HW.out.size (by simp only [be8_len]; omega) ?_; intro v1 w1 ho hb hg hat; refine hK.out _ _ ⟨s2_, s5_, v1, m7_, uk ha.out 4 hb_ rfl rfl rfl, hb, fun _ h1_ => aU b 6 h1_, fun _ h1_ => aU b 6 h1_, fun _ => ho, fun h0_ => aF hoff 7 h0_⟩
  refine steps_cons ?_ ?_
  ·rintro b a w' ⟨s2_, s5_, s6_, m7_, ha, QHW, QH2, QH5, QH6, QX7_⟩ hb_ hon hoff; refine ⟨_, rfl, fun K hK => ?_⟩; have e9 := ek ha 4 6 9 (s6_) hon; replace ha := sd ha; have HW := sd QHW; have H6 := sd (QH6 (aC hon 6)); refine value_ (w1 := w') (v := s6_) (by rfl) rfl ?_ ?_
   ·go_simp; (try simp only [i64_w]); try rfl
   refine hK.out _ _ ⟨s2_, s5_, s6_, (s6_), uk ha.out 5 hb_ rfl rfl rfl, QHW, fun _ h1_ => aT hon 6 h1_, fun _ h1_ => aT hon 6 h1_, QH6, fun _ => rfl⟩
  exact steps_nil
 ·rintro b a w' hall ⟨s2_, s5_, s6_, m7_, ha, QHW, QH2, QH5, QH6, QX7_⟩; clear HW; have hb1_ := hall 1 (by kernel_rfl); have hb2_ := hall 2 (by kernel_rfl); have hb4_ := hall 4 (by kernel_rfl); have hb5_ := hall 5 (by kernel_rfl); have hb6_ := hall 6 (by kernel_rfl); have hb7_ := hall 7 (by kernel_rfl); subst ha; obtain rfl := QX7_ hb7_; simp only [putSel, hb1_, hb2_, hb4_, hb5_, hb6_, hb7_, if_true, Act.put, List.setIfInBounds_toArray, List.set_cons_zero, List.set_cons_succ]; have HW := sd QHW; clear QHW; clear QH2; clear QH5; have H6 := sd (QH6 hb6_); clear QH6; clear hall hb1_ hb2_ hb4_ hb5_ hb6_ hb7_; go_wp2; go_ret; refine ⟨_, rfl, ?_, below_step HB.out HW.out⟩; rw [HE.out]; exact Kd.R_lower H6.out HB.out.size
end Go.Proofs.YtbplemhjhpfkgaaDoor.Wr

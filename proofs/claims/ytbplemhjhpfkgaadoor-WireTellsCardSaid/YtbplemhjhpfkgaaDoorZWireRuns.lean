/-
 WireRuns returns true: wire.Encode of one right message, and of one that isn't.
-/
import Derived.Test.YtbplemhjhpfkgaaDoorZDoorTool
import Derived.Test.YtbplemhjhpfkgaaDoorZFaultKind
import Derived.Test.YtbplemhjhpfkgaaDoorZWords
namespace Go.Proofs.YtbplemhjhpfkgaaDoor.Wr
open Go.RowKit YtbplemhjhpfkgaaDoorW.PrintWords YtbplemhjhpfkgaaDoorW.PrintLast YtbplemhjhpfkgaaDoorW.PrintMore Rd
open Go.Proofs.YtbplemhjhpfkgaaDoor.Ft (Door Chain new_chain kind_calls chain_iface)
set_option linter.unusedVariables false
set_option linter.unusedSimpArgs false
def wpReg.T2 : Bool × List (List Nat × List Nat) := (true, [([], []), ([0], [0]), ([1], [1]), ([2], [2]), ([], []), ([4], [4]), ([5], [5]), ([3, 6, 6], [3, 6]), ([7, 7, 0, 1, 2, 3, 4, 5, 6, 7], [7])])
def wpReg.B2 : List Nat := [0, 1, 3, 7, 0, 16, 48, 127, 255]
theorem wpReg.tab2 : rtab .any (opsOf Tryd.f54 2) = wpReg.T2 := by kernel_rfl
theorem wpReg.bits2 : waitsOk wpReg.T2.2 wpReg.B2 = true := by kernel_rfl

set_option maxHeartbeats 1600000 in
theorem parts_2 (w : World) : Calls Tryd.prog 55 #[.int .i64 2] w fun e w' => e = .returned (.tuple #[.int .i64 0, .bool true]) ∧ w = w' := by
 go_enter Tryd.func55, Tryd.ntmps55
 go_wp2; go_ret2; exact ⟨rfl, rfl⟩
set_option maxHeartbeats 1600000 in
theorem parts_0 (w : World) : Calls Tryd.prog 55 #[.int .i64 0] w fun e w' => e = .returned (.tuple #[.int .i64 0, .bool false]) ∧ w = w' := by
 go_enter Tryd.func55, Tryd.ntmps55
 go_wp2; go_ret2; exact ⟨rfl, rfl⟩
set_option maxHeartbeats 1600000 in
theorem rightID_any (a b : Int) (h1 : 0 ≤ a) (h2 : a < 32) (h3 : 0 ≤ b) (w : World) : Calls Tryd.prog 56 #[.agg #[.int .i64 a, .int .i64 b]] w fun e w' => e = .returned (.bool true) ∧ Below w.heap.size w w' := by
 go_enter Tryd.func56, Tryd.ntmps56
 go_wp2; go_ret; exact ⟨rfl, below_alloc (Below.refl _ _) _⟩
set_option maxHeartbeats 1600000 in
theorem pred_nil (w : World) : Calls Tryd.prog 57 #[.slice none 0 0] w fun e w' => e = .returned (.bool true) ∧ w = w' := by
 go_enter Tryd.func57, Tryd.ntmps57
 go_wp2; refine wp_loop_rounds 1 ?_; rw [rounds_succ]; go_wp2; go_ret; exact ⟨rfl, rfl⟩
set_option maxHeartbeats 1600000 in
theorem tuple_nil (w : World) : Calls Tryd.prog 58 #[.slice none 0 0] w fun e w' => e = .returned (.bool true) ∧ w = w' := by
 go_enter Tryd.func58, Tryd.ntmps58
 go_wp2; refine wp_loop_rounds 1 ?_; rw [rounds_succ]; go_wp2; go_ret; exact ⟨rfl, rfl⟩
abbrev m2 : Array Value := #[.int .i64 2, .int .i64 1, .int .i64 2, .int .i64 0, .int .i64 0, .slice none 0 0, .slice none 0 0]
set_option maxRecDepth 100000 in
set_option maxHeartbeats 4000000 in
theorem right_2 (w : World) : Calls Tryd.prog 25 #[.agg #[.int .i64 2, .int .i64 1, .int .i64 2, .int .i64 0, .int .i64 0, .slice none 0 0, .slice none 0 0]] w fun e w' => e = .returned (.bool true) ∧ Below w.heap.size w w' := by
 have HX := sd (blk_new w (.cells #[.int .i64 2, .int .i64 1, .int .i64 2, .int .i64 0, .int .i64 0, .slice none 0 0, .slice none 0 0] 50)); have HB := sd (below_alloc (Below.refl w.heap.size w) (.cells #[.int .i64 2, .int .i64 1, .int .i64 2, .int .i64 0, .int .i64 0, .slice none 0 0, .slice none 0 0] 50))
 go_enter Tryd.func25, Tryd.ntmps25
 go_wp2_with (first | (go_at_call 55; refine (parts_2 _).mono ?_; rintro e w1 ⟨rfl, rfl⟩) | (go_at_call 56; refine (rightID_any _ _ (by omega) (by omega) (by omega) _).mono ?_; rintro e w1 ⟨rfl, hB⟩; replace HX := sd (blk_below HX.out hB); have q1 := (blk_cell HX.out 1); have q2 := (blk_cell HX.out 2); have q3 := (blk_cell HX.out 3); have q4 := (blk_cell HX.out 4); have q5 := (blk_cell HX.out 5); have q6 := (blk_cell HX.out 6); replace HB := sd (below_step HB.out hB); clear hB) | (go_at_call 57; refine (pred_nil _).mono ?_; rintro e w1 ⟨rfl, rfl⟩) | (go_at_call 58; refine (tuple_nil _).mono ?_; rintro e w1 ⟨rfl, rfl⟩)); go_ret; exact ⟨rfl, HB.out⟩
set_option maxRecDepth 100000 in
set_option maxHeartbeats 4000000 in
theorem right_0 (w : World) : Calls Tryd.prog 25 #[.agg #[.int .i64 0, .int .i64 0, .int .i64 0, .int .i64 0, .int .i64 0, .slice none 0 0, .slice none 0 0]] w fun e w' => e = .returned (.bool false) ∧ Below w.heap.size w w' := by
 go_enter Tryd.func25, Tryd.ntmps25
 go_wp2_with (first | (go_at_call 55; refine (parts_0 _).mono ?_; rintro e w1 ⟨rfl, rfl⟩)); go_ret; exact ⟨rfl, below_alloc (Below.refl _ _) _⟩
set_option maxRecDepth 100000 in
set_option maxHeartbeats 4000000 in
theorem put_2 (w : World) : Calls Tryd.prog 54 #[.agg #[.int .i64 2, .int .i64 1, .int .i64 2, .int .i64 0, .int .i64 0, .slice none 0 0, .slice none 0 0]] w fun e w' => ∃ v, e = .returned v ∧ Kd.R (Kd.int .u8) 5 w' w.heap.size (fun _ => True) v ([2] ++ be8s [1, 2]) ∧ Below w.heap.size w w' := by
 have HX := sd (blk_new w (.cells #[.int .i64 2, .int .i64 1, .int .i64 2, .int .i64 0, .int .i64 0, .slice none 0 0, .slice none 0 0] 50)); have HB := sd (below_alloc (Below.refl w.heap.size w) (.cells #[.int .i64 2, .int .i64 1, .int .i64 2, .int .i64 0, .int .i64 0, .slice none 0 0, .slice none 0 0] 50))
 go_enter Tryd.func54, Tryd.ntmps54
 go_upto_region 2 with (first | (go_at_call 55; refine (parts_2 _).mono ?_; rintro e w1 ⟨rfl, rfl⟩))
 generalize (w.alloc (.cells #[.int .i64 2, .int .i64 1, .int .i64 2, .int .i64 0, .int .i64 0, .slice none 0 0, .slice none 0 0] 50)) = wd at *; have HW := sd (Below.refl wd.heap.size wd); refine start_ (n := 9) (S := fun w' => True) (ds := []) #[false, false, false, false, false, false, false, false, false] (by kernel_rfl) rfl rfl trivial (fun hHeld => ?_); refine with_tabW wpReg.tab2 wpReg.bits2 (fun HT_ HW_ => ?_); refine pure_ (i := 0) (N := some 16) (v := ?_) (a' := ?_) #[true, false, false, false, false, false, false, false, false] rfl rfl (any_of HT_.out (by kernel_rfl)) (fun _ _ _ h => h) (Or.inl ⟨by rfl, ?_⟩) ?_ ?_
 rotate_left
 ·intro w'; go_simp
  with_reducible rfl
 rotate_left
 ·simp only [Act.put, List.setIfInBounds_toArray, List.set_cons_zero, List.set_cons_succ, i64_w, i32_w]; rfl
 refine pure_ (i := 4) (N := some 20) (v := ?_) (a' := ?_) #[true, false, false, false, true, false, false, false, false] rfl rfl (any_of HT_.out (by kernel_rfl)) (fun _ _ _ h => h) (Or.inl ⟨by rfl, ?_⟩) ?_ ?_
 rotate_left
 ·intro w'; go_simp
  with_reducible rfl
 rotate_left
 ·simp only [Act.put, List.setIfInBounds_toArray, List.set_cons_zero, List.set_cons_succ, i64_w, i32_w]; rfl
 refine inv_at [1, 2, 3, 5, 6, 7, 8] (fun a0_ b a w' => ∃ (b_ : Nat) (s6_ : Value) (s7_ : Value) (m3_ : Value) (m8_ : Value), a = putSel a0_ b [(1, 17, .int .i64 2), (2, 18, .int .u8 2), (3, 19, m3_), (5, 21, .agg #[.int .i64 1, .int .i64 2]), (6, 22, s6_), (7, 23, s7_), (8, 5, m8_)] ∧ (Below wd.heap.size wd w') ∧ (b 3 = true → b 7 = false → Kd.R (Kd.int .u8) 5 w' wd.heap.size (fun _ => True) (.slice (some ⟨b_, 0, none⟩) 1 1) ([2])) ∧ (b 6 = true → b 7 = false → Kd.R (Kd.int .u8) 5 w' wd.heap.size (fun _ => True) (s6_) (be8s [1, 2])) ∧ (b 7 = true → Kd.R (Kd.int .u8) 5 w' wd.heap.size (fun _ => True) (s7_) ([2] ++ be8s [1, 2])) ∧ (b 3 = true → (m3_ : Value) = .slice (some ⟨b_, 0, none⟩) 1 1) ∧ (b 8 = true → (m8_ : Value) = s7_)) HT_.out HW_.out (by kernel_rfl) (by kernel_rfl) ?_ ?_ ?_
 ·exact ⟨0, .bool false, .bool false, .bool false, .bool false, by simp only [putSel, Bool.false_eq_true, if_false], below_drew HW.out, fun h_ => absurd h_ (by decide), fun h_ => absurd h_ (by decide), fun h_ => absurd h_ (by decide), fun h_ => absurd h_ (by decide), fun h_ => absurd h_ (by decide)⟩
 ·skip
  clear HW; refine steps_cons ?_ ?_
  ·rintro b a w' ⟨b_, s6_, s7_, m3_, m8_, ha, QHW, QH3, QH6, QH7, QX3_, QX8_⟩ hb_ hon hoff; refine ⟨_, rfl, fun K hK => ?_⟩; have e16 := ef ha 16 (.pointer (some ⟨w.heap.size, 0, none⟩)); replace ha := sd ha; have HW := sd QHW; have q0 := cells_at HW.out (blk_cell HX.out 0); refine value_ (w1 := w') (v := .int .i64 2) (by rfl) rfl ?_ ?_
   ·go_simp; (try simp only [i64_w]); try rfl
   refine hK.out _ _ ⟨b_, s6_, s7_, m3_, m8_, uk ha.out 0 hb_ rfl rfl rfl, QHW, fun h0_ _ => aF hoff 3 h0_, QH6, fun h0_ => aF hoff 7 h0_, fun h0_ => aF hoff 3 h0_, fun h0_ => aF hoff 8 h0_⟩
  refine steps_cons ?_ ?_
  ·rintro b a w' ⟨b_, s6_, s7_, m3_, m8_, ha, QHW, QH3, QH6, QH7, QX3_, QX8_⟩ hb_ hon hoff; refine ⟨_, rfl, fun K hK => ?_⟩; have e17 := ek ha 0 1 17 (.int .i64 2) hon; replace ha := sd ha; have HW := sd QHW; refine value_ (w1 := w') (v := .int .u8 2) (by rfl) rfl ?_ ?_
   ·go_simp; (try simp only [i64_w]); try rfl
   refine hK.out _ _ ⟨b_, s6_, s7_, m3_, m8_, uk ha.out 1 hb_ rfl rfl rfl, QHW, fun h0_ _ => aF hoff 3 h0_, QH6, fun h0_ => aF hoff 7 h0_, fun h0_ => aF hoff 3 h0_, fun h0_ => aF hoff 8 h0_⟩
  refine steps_cons ?_ ?_
  ·rintro b a w' ⟨b_, s6_, s7_, m3_, m8_, ha, QHW, QH3, QH6, QH7, QX3_, QX8_⟩ hb_ hon hoff; refine ⟨_, rfl, fun K hK => ?_⟩; have e18 := ek ha 1 2 18 (.int .u8 2) hon; replace ha := sd ha; have HW := sd QHW; refine value_ (w1 := w'.alloc (.cells #[.int .u8 2] 5)) (v := .slice (some ⟨w'.heap.size, 0, none⟩) 1 1) (by rfl) rfl (by go_simp) ?_; refine hK.out _ _ ⟨w'.heap.size, s6_, s7_, (.slice (some ⟨w'.heap.size, 0, none⟩) 1 1), m8_, uk ha.out 2 hb_ rfl rfl rfl, below_alloc HW.out _, fun _ _ => Kd.R_lower (own_oneR w' 2) HW.out.size, fun h0_ h1_ => Kd.R_alloc (QH6 h0_ h1_) _, fun h0_ => aF hoff 7 h0_, fun _ => rfl, fun h0_ => aF hoff 8 h0_⟩
  refine steps_cons ?_ ?_
  ·rintro b a w' ⟨b_, s6_, s7_, m3_, m8_, ha, QHW, QH3, QH6, QH7, QX3_, QX8_⟩ hb_ hon hoff; refine ⟨_, rfl, fun K hK => ?_⟩; have e20 := ef ha 20 (.pointer (some ⟨w.heap.size, 1, none⟩)); replace ha := sd ha; have HW := sd QHW; have q1 := cells_at HW.out (blk_cell HX.out 1); have q2 := cells_at HW.out (blk_cell HX.out 2); refine value_ (w1 := w') (v := .agg #[.int .i64 1, .int .i64 2]) (by rfl) rfl ?_ ?_
   ·go_simp; (try simp only [i64_w]); try rfl
   refine hK.out _ _ ⟨b_, s6_, s7_, m3_, m8_, uk ha.out 3 hb_ rfl rfl rfl, QHW, QH3, fun h0_ _ => aF hoff 6 h0_, fun h0_ => aF hoff 7 h0_, QX3_, fun h0_ => aF hoff 8 h0_⟩
  refine steps_cons ?_ ?_
  ·rintro b a w' ⟨b_, s6_, s7_, m3_, m8_, ha, QHW, QH3, QH6, QH7, QX3_, QX8_⟩ hb_ hon hoff; refine ⟨_, rfl, fun K hK => ?_⟩; have e21 := ek ha 3 5 21 (.agg #[.int .i64 1, .int .i64 2]) hon; replace ha := sd ha; have HW := sd QHW; refine goes_ Tryd.func84 (by kernel_rfl) rfl #[.agg #[.int .i64 1, .int .i64 2]] (by rfl) rfl rfl (ev1 e21) ?_; refine (nid_calls 1 2 w').mono ?_; rintro e w2 ⟨v2, rfl, hR, hB⟩; refine ⟨_, rfl, ?_⟩; refine hK.out _ _ ⟨b_, v2, s7_, m3_, m8_, uk ha.out 4 hb_ rfl rfl rfl, below_step HW.out hB, fun h0_ h1_ => Kd.R_below (QH3 h0_ h1_) hB, fun _ _ => Kd.R_lower hR HW.out.size, fun h0_ => aF hoff 7 h0_, QX3_, fun h0_ => aF hoff 8 h0_⟩
  refine steps_cons ?_ ?_
  ·rintro b a w' ⟨b_, s6_, s7_, m3_, m8_, ha, QHW, QH3, QH6, QH7, QX3_, QX8_⟩ hb_ hon hoff; refine ⟨_, rfl, fun K hK => ?_⟩; have e19 := ek ha 2 3 19 (m3_) hon; rw [QX3_ (aC hon 3)] at e19; have e22 := ek ha 4 6 22 (s6_) hon; replace ha := sd ha; have HW := sd QHW; have H3 := sd (QH3 (aC hon 3) hb_); have H6 := sd (QH6 (aC hon 6) hb_); obtain ⟨aR, cR, hs, hcR, hCR⟩ := Kd.R_reads H6.out; rw [hs] at e22; refine cat_step_at (Kd.int .u8) intKM wd w' wd.heap.size (by rfl) (.tmp 19) (.tmp 22) 22 5 (.int .u8 0) 1 rfl Tryd.underlying22 infoU8 rfl (by decide) (by omega) (.slice (some ⟨b_, 0, none⟩) 1 1) [2] (be8s [1, 2]) (aR) ((be8s [1, 2]).length) (cR) (eval_of e19) (eval_of e22) H3.out hCR HW.out HW.out.size (by simp only [List.length_cons, List.length_nil, be8s_len]; omega) ?_; intro v1 w1 ho hb hg hat; refine hK.out _ _ ⟨b_, s6_, v1, m3_, m8_, uk ha.out 5 hb_ rfl rfl rfl, hb, fun _ h1_ => aU b 7 h1_, fun _ h1_ => aU b 7 h1_, fun _ => ho, QX3_, fun h0_ => aF hoff 8 h0_⟩
  refine steps_cons ?_ ?_
  ·rintro b a w' ⟨b_, s6_, s7_, m3_, m8_, ha, QHW, QH3, QH6, QH7, QX3_, QX8_⟩ hb_ hon hoff; refine ⟨_, rfl, fun K hK => ?_⟩; have e23 := ek ha 5 7 23 (s7_) hon; replace ha := sd ha; have HW := sd QHW; have H7 := sd (QH7 (aC hon 7)); refine value_ (w1 := w') (v := s7_) (by rfl) rfl ?_ ?_
   ·go_simp; (try simp only [i64_w]); try rfl
   refine hK.out _ _ ⟨b_, s6_, s7_, m3_, (s7_), uk ha.out 6 hb_ rfl rfl rfl, QHW, fun _ h1_ => aT hon 7 h1_, fun _ h1_ => aT hon 7 h1_, QH7, QX3_, fun _ => rfl⟩
  exact steps_nil
 ·rintro b a w' hall ⟨b_, s6_, s7_, m3_, m8_, ha, QHW, QH3, QH6, QH7, QX3_, QX8_⟩; clear HW; have hb1_ := hall 1 (by kernel_rfl); have hb2_ := hall 2 (by kernel_rfl); have hb3_ := hall 3 (by kernel_rfl); have hb5_ := hall 5 (by kernel_rfl); have hb6_ := hall 6 (by kernel_rfl); have hb7_ := hall 7 (by kernel_rfl); have hb8_ := hall 8 (by kernel_rfl); subst ha; obtain rfl := QX3_ hb3_; obtain rfl := QX8_ hb8_; simp only [putSel, hb1_, hb2_, hb3_, hb5_, hb6_, hb7_, hb8_, if_true, Act.put, List.setIfInBounds_toArray, List.set_cons_zero, List.set_cons_succ]; have HW := sd QHW; clear QHW; clear QH3; clear QH6; have H7 := sd (QH7 hb7_); clear QH7; clear hall hb1_ hb2_ hb3_ hb5_ hb6_ hb7_ hb8_; go_wp2; go_ret; exact ⟨_, rfl, Kd.R_lower H7.out HB.out.size, below_step HB.out HW.out⟩
set_option maxRecDepth 100000 in
set_option maxHeartbeats 4000000 in
theorem enc_2 (w : World) : Calls Tryd.prog 21 #[.agg #[.int .i64 2, .int .i64 1, .int .i64 2, .int .i64 0, .int .i64 0, .slice none 0 0, .slice none 0 0]] w fun e w' => ∃ v, e = .returned (.tuple #[v, .nilIface]) ∧ Kd.R (Kd.int .u8) 5 w' w.heap.size (fun _ => True) v ([2] ++ be8s [1, 2]) ∧ Below w.heap.size w w' := by
 have HX := sd (blk_new w (.cells #[.int .i64 2, .int .i64 1, .int .i64 2, .int .i64 0, .int .i64 0, .slice none 0 0, .slice none 0 0] 50)); have HB := sd (below_alloc (Below.refl w.heap.size w) (.cells #[.int .i64 2, .int .i64 1, .int .i64 2, .int .i64 0, .int .i64 0, .slice none 0 0, .slice none 0 0] 50))
 go_enter Tryd.func21, Tryd.ntmps21
 go_wp2_with (first | (go_at_call 25; refine (right_2 _).mono ?_; rintro e w1 ⟨rfl, hB⟩; replace HX := sd (blk_below HX.out hB); have q0 := (blk_cell HX.out 0); have q1 := (blk_cell HX.out 1); have q2 := (blk_cell HX.out 2); have q3 := (blk_cell HX.out 3); have q4 := (blk_cell HX.out 4); have q5 := (blk_cell HX.out 5); have q6 := (blk_cell HX.out 6); replace HB := sd (below_step HB.out hB); clear hB) | (go_at_call 54; refine (put_2 _).mono ?_; rintro e w2 ⟨v, rfl, hR, hB⟩; have HRR := sd (Kd.R_lower hR HB.out.size); replace HB := sd (below_step HB.out hB); clear hB hR)); go_ret2; exact ⟨v, rfl, HRR.out, HB.out⟩
set_option maxRecDepth 100000 in
set_option maxHeartbeats 4000000 in
theorem enc_0 (w : World) : Calls Tryd.prog 21 #[.agg #[.int .i64 0, .int .i64 0, .int .i64 0, .int .i64 0, .int .i64 0, .slice none 0 0, .slice none 0 0]] w fun e w' => ∃ u, e = .returned (.tuple #[.slice none 0 0, u]) ∧ Chain w' [(⟨#[119, 105, 114, 101]⟩, 0)] 1 u ∧ Below w.heap.size w w' := by
 have HB := sd (below_alloc (Below.refl w.heap.size w) (.cells #[.int .i64 0, .int .i64 0, .int .i64 0, .int .i64 0, .int .i64 0, .slice none 0 0, .slice none 0 0] 50))
 go_enter Tryd.func21, Tryd.ntmps21
 go_wp2_with (first | (go_at_call 25; refine (right_0 _).mono ?_; rintro e w1 ⟨rfl, hB⟩; replace HB := sd (below_step HB.out hB); clear hB) | (go_at_call 44; refine (new_chain (fs := []) (c := 1) rfl).mono ?_; rintro e w2 ⟨u, rfl, hc, hB⟩; have HC := sd hc; replace HB := sd (below_step HB.out hB); clear hB hc)); go_ret2; exact ⟨u, rfl, HC.out, HB.out⟩
theorem wr_bytes : [2] ++ be8s [1, 2] = [2, 0, 0, 0, 0, 0, 0, 0, 1, 0, 0, 0, 0, 0, 0, 0, 2] := by decide
set_option maxRecDepth 100000 in
set_option maxHeartbeats 4000000 in
theorem wireRuns_calls (w : World) (hg : Door w) : Calls Tryd.prog 5 #[] w fun e w' => e = .returned (.bool true) ∧ Below w.heap.size w w' := by
 have HG := sd hg; clear hg
 go_enter Tryd.func5, Tryd.ntmps5
 go_wp2_with fail; refine (enc_2 _).mono ?_; rintro e w1 ⟨v, rfl, hR, hB⟩; rw [wr_bytes] at hR; obtain ⟨A1, c1, rfl, hc1, hC1⟩ := Kd.R_reads hR; have HC1 := sd hC1; have HB := sd hB; clear hR hB hC1 hc1; go_wp2_with fail; refine (enc_0 _).mono ?_; rintro e w2 ⟨u, rfl, hch, hB⟩; obtain ⟨ut, uz, hu⟩ := chain_iface hch; subst hu; replace HC1 := sd (Kd.C_below HC1.out hB); replace HB := sd (below_step HB.out hB); have HCH := sd hch; clear hB hch; have hal := below_alloc (Below.refl w2.heap.size w2) (.cells #[.int .u8 2, .int .u8 0, .int .u8 0, .int .u8 0, .int .u8 0, .int .u8 0, .int .u8 0, .int .u8 0, .int .u8 1, .int .u8 0, .int .u8 0, .int .u8 0, .int .u8 0, .int .u8 0, .int .u8 0, .int .u8 0, .int .u8 2] 5); have HAL := sd hal; clear hal; go_wp2_with fail; refine (same_u8 A1 c1 [2, 0, 0, 0, 0, 0, 0, 0, 1, 0, 0, 0, 0, 0, 0, 0, 2] (some ⟨w2.heap.size, 0, none⟩) 17 [2, 0, 0, 0, 0, 0, 0, 0, 1, 0, 0, 0, 0, 0, 0, 0, 2] _ (Kd.C_alloc HC1.out _) (C_lit .u8 [2, 0, 0, 0, 0, 0, 0, 0, 1, 0, 0, 0, 0, 0, 0, 0, 2] w2 5 (by simp))).mono ?_; rintro e w3 ⟨rfl, hD⟩; replace HCH := sd (Chain.below hD.below (Chain.below HAL.out HCH.out)); replace HB := sd (below_step (below_step HB.out HAL.out) hD.below); have HK := sd (kind_calls _ _ _ w3 (HG.out.below HB.out) HCH.out); clear hD HAL HCH HC1; simp only [decide_true]; go_wp2_with fail; refine HK.out.mono ?_; rintro e w4 ⟨rfl, hB⟩; replace HB := sd (below_step HB.out hB); clear hB HK; go_wp2; go_ret; exact ⟨rfl, HB.out⟩
end Go.Proofs.YtbplemhjhpfkgaaDoor.Wr

/-
  NumBack: numbers, texts, a byte, an ID, put one behind the other, are read again; what isn't there whole is none, and all behind it.
-/
import Derived.Test.YtnljhdfmhhmdkaaBack7
namespace Go.Proofs.Ytnljhdfmhhmdkaa.Rd
open Go.RowKit Go.Proofs.YtnljhdfmhhmdkaaW.PrintWords Go.Proofs.YtnljhdfmhhmdkaaW.PrintLast Go.Proofs.YtnljhdfmhhmdkaaW.PrintMore
set_option linter.unusedVariables false
set_option linter.unusedSimpArgs false
def nbReg.T3 : Bool × List (List Nat × List Nat) := (true, [([], []), ([], []), ([], []), ([1, 2], [1, 2]), ([3], [3]), ([0, 4, 4], [0, 4]), ([], []), ([6, 5], [6]), ([5, 7, 7], [5, 7]), ([], []), ([9], [9]), ([8, 10, 8], [8, 10]), ([], []), ([12, 11], [12]), ([11, 13, 13], [11, 13]), ([], []), ([15, 14], [15]), ([14, 16, 16], [14, 16]), ([17, 17, 0, 1, 2, 3, 4, 5, 6, 7, 8, 9, 10, 11, 12, 13, 14, 15, 16, 17], [0, 17])])
def nbReg.B3 : List Nat := [0, 0, 0, 6, 14, 31, 0, 127, 255, 0, 512, 2047, 0, 8191, 16383, 0, 65535, 131071, 262143]
theorem nbReg.tab3 : rtab .any (opsOf Try.f7 3) = nbReg.T3 := by kernel_rfl
theorem nbReg.bits3 : waitsOk nbReg.T3.2 nbReg.B3 = true := by kernel_rfl

set_option maxRecDepth 100000 in
set_option maxHeartbeats 8000000 in
theorem back_calls (n m : Int) (s t : ByteArray) (xc xs c cut_ : Int) (w : World) (hn : InI64 n) (hm : InI64 m) (hx : InI64 xc) (hy : InI64 xs) (hc : 0 ≤ c ∧ c < 256) (hs : s.size ≤ 140737488351232) (ht : t.size ≤ 140737488351232) :
    Calls Try.prog 7 #[.int .i64 n, .int .i64 m, .string s, .string t, .agg #[.int .i64 xc, .int .i64 xs], .int .u8 c, .int .i64 cut_] w fun e w' => e = .returned (.bool true) ∧ Below w.heap.size w w' := by
  have HK := Aside0.mk (And.intro hn (And.intro hm (And.intro hx (And.intro hy hc))))
  clear hn hm hx hy hc
  have HID0 := Aside0.mk (blk_new w (.cells #[.int .i64 xc, .int .i64 xs] 42))
  have HB0 := Aside0.mk (below_alloc (Below.refl w.heap.size w) (.cells #[.int .i64 xc, .int .i64 xs] 42))
  go_enter Try.func7, Try.ntmps7
  go_upto_region 1 with fail
  go_cut [2, 3] (fun v u wx => ∃ s1 t1 : ByteArray, v = .string s1 ∧ u = .string t1 ∧ s1.size ≤ 200 ∧ t1.size ≤ 30 ∧ Aside0 (wx.heap[w.heap.size]? = some (.cells #[.int .i64 xc, .int .i64 xs] 42 (0, 0))) ∧ Aside0 (Below w.heap.size w wx))
  case first =>
    by_cases h1 : s.size ≤ 200 <;> by_cases h2 : t.size ≤ 30
    all_goals
      go_quiet (fail)
      go_wp2
      go_meet
      case rel => exact ⟨_, _, rfl, rfl, by first | omega | (simp [ByteArray.size_extract]; omega), by first | omega | (simp [ByteArray.size_extract]; omega), ⟨HID0.out⟩, ⟨pw_below_drewN HB0.out _⟩⟩
  case rest =>
    obtain ⟨s1, t1, rfl, rfl, hs1, ht1, HID, HBw⟩ := hcut
    obtain ⟨wd, rfl⟩ : ∃ wd : World, wd = wc := ⟨_, rfl⟩
    have h8s := text8_len s1 (by omega)
    have h8t := text8_len t1 (by omega)
    have HW := Aside0.mk (Below.refl wd.heap.size wd)
    clear HID0 HB0
    go_upto_region 3 with fail
    go_cut [15] (fun v wx => Aside0 (Kd.R (Kd.int .u8) 5 wx wd.heap.size (fun _ => True) v (be8s [n, m] ++ text8 s1 ++ [c] ++ be8s [xc, xs] ++ text8 t1)) ∧ Aside0 (Below wd.heap.size wd wx))
    case first =>
      refine start_ (n := 19) (S := fun w' => True) (ds := []) #[false, false, false, false, false, false, false, false, false, false, false, false, false, false, false, false, false, false, false] (by kernel_rfl) rfl rfl trivial (fun hHeld => ?_)
      refine with_tabW nbReg.tab3 nbReg.bits3 (fun HT_ HW_ => ?_)
      refine pure_ (i := 0) (N := some 35) (v := ?_) (a' := ?_) #[true, false, false, false, false, false, false, false, false, false, false, false, false, false, false, false, false, false, false] rfl rfl (any_of HT_.out (by kernel_rfl)) (fun _ _ _ h => h) (Or.inl ⟨by rfl, ?_⟩) ?_ ?_
      rotate_left
      · intro w'
        go_simp
        with_reducible rfl
      rotate_left
      · simp only [Act.put, List.setIfInBounds_toArray, List.set_cons_zero, List.set_cons_succ, i64_w, i32_w]
        rfl
      refine pure_ (i := 1) (N := some 36) (v := ?_) (a' := ?_) #[true, true, false, false, false, false, false, false, false, false, false, false, false, false, false, false, false, false, false] rfl rfl (any_of HT_.out (by kernel_rfl)) (fun _ _ _ h => h) (Or.inl ⟨by rfl, ?_⟩) ?_ ?_
      rotate_left
      · intro w'
        go_simp
        with_reducible rfl
      rotate_left
      · simp only [Act.put, List.setIfInBounds_toArray, List.set_cons_zero, List.set_cons_succ, i64_w, i32_w]
        rfl
      refine pure_ (i := 2) (N := some 37) (v := ?_) (a' := ?_) #[true, true, true, false, false, false, false, false, false, false, false, false, false, false, false, false, false, false, false] rfl rfl (any_of HT_.out (by kernel_rfl)) (fun _ _ _ h => h) (Or.inl ⟨by rfl, ?_⟩) ?_ ?_
      rotate_left
      · intro w'
        go_simp
        with_reducible rfl
      rotate_left
      · simp only [Act.put, List.setIfInBounds_toArray, List.set_cons_zero, List.set_cons_succ, i64_w, i32_w]
        rfl
      refine pure_ (i := 6) (N := some 41) (v := ?_) (a' := ?_) #[true, true, true, false, false, false, true, false, false, false, false, false, false, false, false, false, false, false, false] rfl rfl (any_of HT_.out (by kernel_rfl)) (fun _ _ _ h => h) (Or.inl ⟨by rfl, ?_⟩) ?_ ?_
      rotate_left
      · intro w'
        go_simp
        with_reducible rfl
      rotate_left
      · simp only [Act.put, List.setIfInBounds_toArray, List.set_cons_zero, List.set_cons_succ, i64_w, i32_w]
        rfl
      refine pure_ (i := 9) (N := some 44) (v := ?_) (a' := ?_) #[true, true, true, false, false, false, true, false, false, true, false, false, false, false, false, false, false, false, false] rfl rfl (any_of HT_.out (by kernel_rfl)) (fun _ _ _ h => h) (Or.inl ⟨by rfl, ?_⟩) ?_ ?_
      rotate_left
      · intro w'
        go_simp
        with_reducible rfl
      rotate_left
      · simp only [Act.put, List.setIfInBounds_toArray, List.set_cons_zero, List.set_cons_succ, i64_w, i32_w]
        rfl
      refine pure_ (i := 15) (N := some 50) (v := ?_) (a' := ?_) #[true, true, true, false, false, false, true, false, false, true, false, false, false, false, false, true, false, false, false] rfl rfl (any_of HT_.out (by kernel_rfl)) (fun _ _ _ h => h) (Or.inl ⟨by rfl, ?_⟩) ?_ ?_
      rotate_left
      · intro w'
        go_simp
        with_reducible rfl
      rotate_left
      · simp only [Act.put, List.setIfInBounds_toArray, List.set_cons_zero, List.set_cons_succ, i64_w, i32_w]
        rfl
      refine inv_at [3, 4, 5, 7, 8, 10, 11, 12, 13, 14, 16, 17, 18] (fun a0_ b a w' => ∃ (b3_ : Nat) (b10_ : Nat) (s4_ : Value) (s5_ : Value) (s7_ : Value) (s8_ : Value) (s11_ : Value) (s13_ : Value) (s14_ : Value) (s16_ : Value) (s17_ : Value) (m3_ : Value) (m10_ : Value) (m18_ : Value), a = putSel a0_ b [(3, 38, m3_), (4, 39, s4_), (5, 40, s5_), (7, 42, s7_), (8, 43, s8_), (10, 45, m10_), (11, 46, s11_), (12, 47, .agg #[.int .i64 xc, .int .i64 xs]), (13, 48, s13_), (14, 49, s14_), (16, 51, s16_), (17, 52, s17_), (18, 15, m18_)] ∧ (Below wd.heap.size wd w') ∧ (b 3 = true → b 4 = false → w'.heap[b3_]? = some (.cells #[.int .i64 n, .int .i64 m] 3 (0, 0))) ∧ (b 4 = true → b 5 = false → Kd.R (Kd.int .u8) 5 w' wd.heap.size (fun _ => True) (s4_) (be8s [n, m])) ∧ (b 5 = true → b 8 = false → Kd.R (Kd.int .u8) 5 w' wd.heap.size (fun _ => True) (s5_) (be8s [n, m])) ∧ (b 7 = true → b 8 = false → Kd.R (Kd.int .u8) 5 w' wd.heap.size (fun _ => True) (s7_) (text8 s1)) ∧ (b 8 = true → b 11 = false → Kd.R (Kd.int .u8) 5 w' wd.heap.size (fun _ => True) (s8_) (be8s [n, m] ++ text8 s1)) ∧ (b 10 = true → b 11 = false → Kd.R (Kd.int .u8) 5 w' wd.heap.size (fun _ => True) (.slice (some ⟨b10_, 0, none⟩) 1 1) ([c])) ∧ (b 11 = true → b 14 = false → Kd.R (Kd.int .u8) 5 w' wd.heap.size (fun _ => True) (s11_) (be8s [n, m] ++ text8 s1 ++ [c])) ∧ (b 13 = true → b 14 = false → Kd.R (Kd.int .u8) 5 w' wd.heap.size (fun _ => True) (s13_) (be8s [xc, xs])) ∧ (b 14 = true → b 17 = false → Kd.R (Kd.int .u8) 5 w' wd.heap.size (fun _ => True) (s14_) (be8s [n, m] ++ text8 s1 ++ [c] ++ be8s [xc, xs])) ∧ (b 16 = true → b 17 = false → Kd.R (Kd.int .u8) 5 w' wd.heap.size (fun _ => True) (s16_) (text8 t1)) ∧ (b 17 = true → Kd.R (Kd.int .u8) 5 w' wd.heap.size (fun _ => True) (s17_) (be8s [n, m] ++ text8 s1 ++ [c] ++ be8s [xc, xs] ++ text8 t1)) ∧ (b 5 = true → b 10 = true → b 8 = false → Far s5_ (.slice (some ⟨b10_, 0, none⟩) 1 1)) ∧ (b 5 = true → b 13 = true → b 8 = false → Far s5_ s13_) ∧ (b 5 = true → b 16 = true → b 8 = false → Far s5_ s16_) ∧ (b 8 = true → b 13 = true → b 11 = false → Far s8_ s13_) ∧ (b 8 = true → b 16 = true → b 11 = false → Far s8_ s16_) ∧ (b 11 = true → b 16 = true → b 14 = false → Far s11_ s16_) ∧ (b 3 = true → (m3_ : Value) = .slice (some ⟨b3_, 0, none⟩) 2 2) ∧ (b 10 = true → (m10_ : Value) = .slice (some ⟨b10_, 0, none⟩) 1 1) ∧ (b 18 = true → (m18_ : Value) = s17_)) HT_.out HW_.out (by kernel_rfl) (by kernel_rfl) ?_ ?_ ?_
      · exact ⟨0, 0, .bool false, .bool false, .bool false, .bool false, .bool false, .bool false, .bool false, .bool false, .bool false, .bool false, .bool false, .bool false, by simp only [putSel, Bool.false_eq_true, if_false], below_drew HW.out, fun h_ => absurd h_ (by decide), fun h_ => absurd h_ (by decide), fun h_ => absurd h_ (by decide), fun h_ => absurd h_ (by decide), fun h_ => absurd h_ (by decide), fun h_ => absurd h_ (by decide), fun h_ => absurd h_ (by decide), fun h_ => absurd h_ (by decide), fun h_ => absurd h_ (by decide), fun h_ => absurd h_ (by decide), fun h_ => absurd h_ (by decide), fun h_ => absurd h_ (by decide), fun h_ => absurd h_ (by decide), fun h_ => absurd h_ (by decide), fun h_ => absurd h_ (by decide), fun h_ => absurd h_ (by decide), fun h_ => absurd h_ (by decide), fun h_ => absurd h_ (by decide), fun h_ => absurd h_ (by decide), fun h_ => absurd h_ (by decide)⟩
      · skip
        clear HW
        refine steps_cons ?_ ?_
        · rintro b a w' ⟨b3_, b10_, s4_, s5_, s7_, s8_, s11_, s13_, s14_, s16_, s17_, m3_, m10_, m18_, ha, Q_HW, Q_HS3, Q_H4, Q_H5, Q_H7, Q_H8, Q_H10, Q_H11, Q_H13, Q_H14, Q_H16, Q_H17, Q_P5q, Q_P5r, Q_P5s, Q_P8r, Q_P8s, Q_P11s, Q_X3_, Q_X10_, Q_X18_⟩ hb_ hon hoff
          refine ⟨_, rfl, fun K hK => ?_⟩
          have e36 : a.tmps[36]? = some (.int .i64 n) := by rw [ha]; exact (putSel_off rfl).trans rfl
          have e37 : a.tmps[37]? = some (.int .i64 m) := by rw [ha]; exact (putSel_off rfl).trans rfl
          replace ha := Aside0.mk ha
          have HW := Aside0.mk Q_HW
          refine value_ (w1 := w'.alloc (.cells #[.int .i64 n, .int .i64 m] 3)) (v := .slice (some ⟨w'.heap.size, 0, none⟩) 2 2) (by rfl) rfl (by go_simp) ?_
          refine hK.out _ _ ⟨w'.heap.size, b10_, s4_, s5_, s7_, s8_, s11_, s13_, s14_, s16_, s17_, (.slice (some ⟨w'.heap.size, 0, none⟩) 2 2), m10_, m18_, (by rw [ha.out]; exact putSel_upk 0 hb_ rfl rfl rfl), below_alloc HW.out _, fun _ _ => blk_new w' _, fun h0_ _ => absurd ((hoff 4 (by kernel_rfl)).symm.trans h0_) (by decide), fun h0_ _ => absurd ((hoff 5 (by kernel_rfl)).symm.trans h0_) (by decide), fun h0_ _ => absurd ((hoff 7 (by kernel_rfl)).symm.trans h0_) (by decide), fun h0_ _ => absurd ((hoff 8 (by kernel_rfl)).symm.trans h0_) (by decide), fun h0_ h1_ => Kd.R_alloc (Q_H10 h0_ h1_) _, fun h0_ _ => absurd ((hoff 11 (by kernel_rfl)).symm.trans h0_) (by decide), fun h0_ _ => absurd ((hoff 13 (by kernel_rfl)).symm.trans h0_) (by decide), fun h0_ _ => absurd ((hoff 14 (by kernel_rfl)).symm.trans h0_) (by decide), fun h0_ _ => absurd ((hoff 16 (by kernel_rfl)).symm.trans h0_) (by decide), fun h0_ => absurd ((hoff 17 (by kernel_rfl)).symm.trans h0_) (by decide), fun h0_ _ _ => absurd ((hoff 5 (by kernel_rfl)).symm.trans h0_) (by decide), fun h0_ _ _ => absurd ((hoff 5 (by kernel_rfl)).symm.trans h0_) (by decide), fun h0_ _ _ => absurd ((hoff 5 (by kernel_rfl)).symm.trans h0_) (by decide), fun h0_ _ _ => absurd ((hoff 8 (by kernel_rfl)).symm.trans h0_) (by decide), fun h0_ _ _ => absurd ((hoff 8 (by kernel_rfl)).symm.trans h0_) (by decide), fun h0_ _ _ => absurd ((hoff 11 (by kernel_rfl)).symm.trans h0_) (by decide), fun _ => rfl, Q_X10_, fun h0_ => absurd ((hoff 18 (by kernel_rfl)).symm.trans h0_) (by decide)⟩
        refine steps_cons ?_ ?_
        · rintro b a w' ⟨b3_, b10_, s4_, s5_, s7_, s8_, s11_, s13_, s14_, s16_, s17_, m3_, m10_, m18_, ha, Q_HW, Q_HS3, Q_H4, Q_H5, Q_H7, Q_H8, Q_H10, Q_H11, Q_H13, Q_H14, Q_H16, Q_H17, Q_P5q, Q_P5r, Q_P5s, Q_P8r, Q_P8s, Q_P11s, Q_X3_, Q_X10_, Q_X18_⟩ hb_ hon hoff
          refine ⟨_, rfl, fun K hK => ?_⟩
          have e38 : a.tmps[38]? = some (m3_) := by rw [ha]; exact putSel_on (e := (3, 38, m3_)) 0 rfl rfl (hon 3 (by kernel_rfl)) rfl
          rw [Q_X3_ (hon 3 (by kernel_rfl))] at e38
          replace ha := Aside0.mk ha
          have HW := Aside0.mk Q_HW
          have HS3 := Aside0.mk (Q_HS3 (hon 3 (by kernel_rfl)) hb_)
          have hC3 := C_block (xs := [n, m]) HS3.out (by simp)
          refine goes_ Try.func11 (by kernel_rfl) rfl #[.slice (some ⟨b3_, 0, none⟩) 2 2] (by rfl) rfl rfl (by simp only [List.map_toArray, List.map_cons, List.map_nil, Act.eval, Array.getD_eq_getD_getElem?, Option.getD_some, e38]) ?_
          refine (num_calls (some ⟨b3_, 0, none⟩) 2 [n, m] w' hC3 (by simp)).mono ?_
          rintro e w2 ⟨v2, rfl, hR, hB⟩
          refine ⟨_, rfl, ?_⟩
          refine hK.out _ _ ⟨b3_, b10_, v2, s5_, s7_, s8_, s11_, s13_, s14_, s16_, s17_, m3_, m10_, m18_, (by rw [ha.out]; exact putSel_upk 1 hb_ rfl rfl rfl), below_step HW.out hB, fun _ h1_ => absurd ((up_self b 4).symm.trans h1_) (by decide), fun _ _ => Kd.R_lower hR HW.out.size, fun h0_ _ => absurd ((hoff 5 (by kernel_rfl)).symm.trans h0_) (by decide), fun h0_ _ => absurd ((hoff 7 (by kernel_rfl)).symm.trans h0_) (by decide), fun h0_ _ => absurd ((hoff 8 (by kernel_rfl)).symm.trans h0_) (by decide), fun h0_ h1_ => Kd.R_below (Q_H10 h0_ h1_) hB, fun h0_ _ => absurd ((hoff 11 (by kernel_rfl)).symm.trans h0_) (by decide), fun h0_ _ => absurd ((hoff 13 (by kernel_rfl)).symm.trans h0_) (by decide), fun h0_ _ => absurd ((hoff 14 (by kernel_rfl)).symm.trans h0_) (by decide), fun h0_ _ => absurd ((hoff 16 (by kernel_rfl)).symm.trans h0_) (by decide), fun h0_ => absurd ((hoff 17 (by kernel_rfl)).symm.trans h0_) (by decide), fun h0_ _ _ => absurd ((hoff 5 (by kernel_rfl)).symm.trans h0_) (by decide), fun h0_ _ _ => absurd ((hoff 5 (by kernel_rfl)).symm.trans h0_) (by decide), fun h0_ _ _ => absurd ((hoff 5 (by kernel_rfl)).symm.trans h0_) (by decide), fun h0_ _ _ => absurd ((hoff 8 (by kernel_rfl)).symm.trans h0_) (by decide), fun h0_ _ _ => absurd ((hoff 8 (by kernel_rfl)).symm.trans h0_) (by decide), fun h0_ _ _ => absurd ((hoff 11 (by kernel_rfl)).symm.trans h0_) (by decide), Q_X3_, Q_X10_, fun h0_ => absurd ((hoff 18 (by kernel_rfl)).symm.trans h0_) (by decide)⟩
        refine steps_cons ?_ ?_
        · rintro b a w' ⟨b3_, b10_, s4_, s5_, s7_, s8_, s11_, s13_, s14_, s16_, s17_, m3_, m10_, m18_, ha, Q_HW, Q_HS3, Q_H4, Q_H5, Q_H7, Q_H8, Q_H10, Q_H11, Q_H13, Q_H14, Q_H16, Q_H17, Q_P5q, Q_P5r, Q_P5s, Q_P8r, Q_P8s, Q_P11s, Q_X3_, Q_X10_, Q_X18_⟩ hb_ hon hoff
          refine ⟨_, rfl, fun K hK => ?_⟩
          have e35 : a.tmps[35]? = some (.slice none 0 0) := by rw [ha]; exact (putSel_off rfl).trans rfl
          have e39 : a.tmps[39]? = some (s4_) := by rw [ha]; exact putSel_on (e := (4, 39, s4_)) 1 rfl rfl (hon 4 (by kernel_rfl)) rfl
          replace ha := Aside0.mk ha
          have HW := Aside0.mk Q_HW
          have H4 := Aside0.mk (Q_H4 (hon 4 (by kernel_rfl)) hb_)
          obtain ⟨aR, cR, hs, hcR, hCR⟩ := Kd.R_reads H4.out
          rw [hs] at e39
          refine cat_step_at (Kd.int .u8) intKM wd w' wd.heap.size (by rfl) (.tmp 35) (.tmp 39) 24 5 (.int .u8 0) 1 rfl Try.underlying24 infoU8 rfl (by decide) (by omega) (.slice none 0 0) ([]) (be8s [n, m]) (aR) ((be8s [n, m]).length) (cR) (eval_of e35) (eval_of e39) (Kd.R_nil _ _ _ _ _) (hCR) HW.out HW.out.size (by simp only [List.length_append, List.length_cons, List.length_nil, be8s_len]; omega) ?_
          intro v1 w1 ho hb hg hat
          rw [List.nil_append] at ho
          refine hK.out _ _ ⟨b3_, b10_, s4_, v1, s7_, s8_, s11_, s13_, s14_, s16_, s17_, m3_, m10_, m18_, (by rw [ha.out]; exact putSel_upk 2 hb_ rfl rfl rfl), hb, fun _ h1_ => absurd ((hon 4 (by kernel_rfl)).symm.trans h1_) (by decide), fun _ h1_ => absurd ((up_self b 5).symm.trans h1_) (by decide), fun _ _ => ho, fun h0_ _ => absurd ((hoff 7 (by kernel_rfl)).symm.trans h0_) (by decide), fun h0_ _ => absurd ((hoff 8 (by kernel_rfl)).symm.trans h0_) (by decide), fun h0_ h1_ => Kd.R_grown2 (Q_H10 h0_ h1_) rfl hg (far_nil _), fun h0_ _ => absurd ((hoff 11 (by kernel_rfl)).symm.trans h0_) (by decide), fun h0_ _ => absurd ((hoff 13 (by kernel_rfl)).symm.trans h0_) (by decide), fun h0_ _ => absurd ((hoff 14 (by kernel_rfl)).symm.trans h0_) (by decide), fun h0_ _ => absurd ((hoff 16 (by kernel_rfl)).symm.trans h0_) (by decide), fun h0_ => absurd ((hoff 17 (by kernel_rfl)).symm.trans h0_) (by decide), fun _ _ _ => far_next hat (far_nil _) (Kd.R_lt (Q_H10 (by assumption) (hoff 11 (by kernel_rfl)))), fun _ h1_ _ => absurd ((hoff 13 (by kernel_rfl)).symm.trans h1_) (by decide), fun _ h1_ _ => absurd ((hoff 16 (by kernel_rfl)).symm.trans h1_) (by decide), fun h0_ _ _ => absurd ((hoff 8 (by kernel_rfl)).symm.trans h0_) (by decide), fun h0_ _ _ => absurd ((hoff 8 (by kernel_rfl)).symm.trans h0_) (by decide), fun h0_ _ _ => absurd ((hoff 11 (by kernel_rfl)).symm.trans h0_) (by decide), Q_X3_, Q_X10_, fun h0_ => absurd ((hoff 18 (by kernel_rfl)).symm.trans h0_) (by decide)⟩
        refine steps_cons ?_ ?_
        · rintro b a w' ⟨b3_, b10_, s4_, s5_, s7_, s8_, s11_, s13_, s14_, s16_, s17_, m3_, m10_, m18_, ha, Q_HW, Q_HS3, Q_H4, Q_H5, Q_H7, Q_H8, Q_H10, Q_H11, Q_H13, Q_H14, Q_H16, Q_H17, Q_P5q, Q_P5r, Q_P5s, Q_P8r, Q_P8s, Q_P11s, Q_X3_, Q_X10_, Q_X18_⟩ hb_ hon hoff
          refine ⟨_, rfl, fun K hK => ?_⟩
          have e41 : a.tmps[41]? = some (.string s1) := by rw [ha]; exact (putSel_off rfl).trans rfl
          replace ha := Aside0.mk ha
          have HW := Aside0.mk Q_HW
          have H5 := Aside0.mk (Q_H5 (hon 5 (by kernel_rfl)) (hoff 8 (by kernel_rfl)))
          refine goes_ Try.func12 (by kernel_rfl) rfl #[.string s1] (by rfl) rfl rfl (by simp only [List.map_toArray, List.map_cons, List.map_nil, Act.eval, Array.getD_eq_getD_getElem?, Option.getD_some, e41]) ?_
          refine (txt_calls s1 w').mono ?_
          rintro e w2 ⟨v2, rfl, hR, hB⟩
          refine ⟨_, rfl, ?_⟩
          refine hK.out _ _ ⟨b3_, b10_, s4_, s5_, v2, s8_, s11_, s13_, s14_, s16_, s17_, m3_, m10_, m18_, (by rw [ha.out]; exact putSel_upk 3 hb_ rfl rfl rfl), below_step HW.out hB, fun _ h1_ => absurd ((hon 4 (by kernel_rfl)).symm.trans h1_) (by decide), fun _ h1_ => absurd ((hon 5 (by kernel_rfl)).symm.trans h1_) (by decide), fun _ _ => Kd.R_below H5.out hB, fun _ _ => Kd.R_lower hR HW.out.size, fun h0_ _ => absurd ((hoff 8 (by kernel_rfl)).symm.trans h0_) (by decide), fun h0_ h1_ => Kd.R_below (Q_H10 h0_ h1_) hB, fun h0_ _ => absurd ((hoff 11 (by kernel_rfl)).symm.trans h0_) (by decide), fun h0_ _ => absurd ((hoff 13 (by kernel_rfl)).symm.trans h0_) (by decide), fun h0_ _ => absurd ((hoff 14 (by kernel_rfl)).symm.trans h0_) (by decide), fun h0_ _ => absurd ((hoff 16 (by kernel_rfl)).symm.trans h0_) (by decide), fun h0_ => absurd ((hoff 17 (by kernel_rfl)).symm.trans h0_) (by decide), Q_P5q, fun _ h1_ _ => absurd ((hoff 13 (by kernel_rfl)).symm.trans h1_) (by decide), fun _ h1_ _ => absurd ((hoff 16 (by kernel_rfl)).symm.trans h1_) (by decide), fun h0_ _ _ => absurd ((hoff 8 (by kernel_rfl)).symm.trans h0_) (by decide), fun h0_ _ _ => absurd ((hoff 8 (by kernel_rfl)).symm.trans h0_) (by decide), fun h0_ _ _ => absurd ((hoff 11 (by kernel_rfl)).symm.trans h0_) (by decide), Q_X3_, Q_X10_, fun h0_ => absurd ((hoff 18 (by kernel_rfl)).symm.trans h0_) (by decide)⟩
        refine steps_cons ?_ ?_
        · rintro b a w' ⟨b3_, b10_, s4_, s5_, s7_, s8_, s11_, s13_, s14_, s16_, s17_, m3_, m10_, m18_, ha, Q_HW, Q_HS3, Q_H4, Q_H5, Q_H7, Q_H8, Q_H10, Q_H11, Q_H13, Q_H14, Q_H16, Q_H17, Q_P5q, Q_P5r, Q_P5s, Q_P8r, Q_P8s, Q_P11s, Q_X3_, Q_X10_, Q_X18_⟩ hb_ hon hoff
          refine ⟨_, rfl, fun K hK => ?_⟩
          have e40 : a.tmps[40]? = some (s5_) := by rw [ha]; exact putSel_on (e := (5, 40, s5_)) 2 rfl rfl (hon 5 (by kernel_rfl)) rfl
          have e42 : a.tmps[42]? = some (s7_) := by rw [ha]; exact putSel_on (e := (7, 42, s7_)) 3 rfl rfl (hon 7 (by kernel_rfl)) rfl
          replace ha := Aside0.mk ha
          have HW := Aside0.mk Q_HW
          have H5 := Aside0.mk (Q_H5 (hon 5 (by kernel_rfl)) hb_)
          have H7 := Aside0.mk (Q_H7 (hon 7 (by kernel_rfl)) hb_)
          obtain ⟨aR, cR, hs, hcR, hCR⟩ := Kd.R_reads H7.out
          rw [hs] at e42
          refine cat_step_at (Kd.int .u8) intKM wd w' wd.heap.size (by rfl) (.tmp 40) (.tmp 42) 24 5 (.int .u8 0) 1 rfl Try.underlying24 infoU8 rfl (by decide) (by omega) (s5_) (be8s [n, m]) (text8 s1) (aR) ((text8 s1).length) (cR) (eval_of e40) (eval_of e42) (H5.out) (hCR) HW.out HW.out.size (by simp only [List.length_append, List.length_cons, List.length_nil, be8s_len]; omega) ?_
          intro v1 w1 ho hb hg hat
          refine hK.out _ _ ⟨b3_, b10_, s4_, s5_, s7_, v1, s11_, s13_, s14_, s16_, s17_, m3_, m10_, m18_, (by rw [ha.out]; exact putSel_upk 4 hb_ rfl rfl rfl), hb, fun _ h1_ => absurd ((hon 4 (by kernel_rfl)).symm.trans h1_) (by decide), fun _ h1_ => absurd ((hon 5 (by kernel_rfl)).symm.trans h1_) (by decide), fun _ h1_ => absurd ((up_self b 8).symm.trans h1_) (by decide), fun _ h1_ => absurd ((up_self b 8).symm.trans h1_) (by decide), fun _ _ => ho, fun h0_ h1_ => Kd.R_grown2 (Q_H10 h0_ h1_) rfl hg (Q_P5q (hon 5 (by kernel_rfl)) h0_ hb_), fun h0_ _ => absurd ((hoff 11 (by kernel_rfl)).symm.trans h0_) (by decide), fun h0_ _ => absurd ((hoff 13 (by kernel_rfl)).symm.trans h0_) (by decide), fun h0_ _ => absurd ((hoff 14 (by kernel_rfl)).symm.trans h0_) (by decide), fun h0_ _ => absurd ((hoff 16 (by kernel_rfl)).symm.trans h0_) (by decide), fun h0_ => absurd ((hoff 17 (by kernel_rfl)).symm.trans h0_) (by decide), fun _ _ h2_ => absurd ((up_self b 8).symm.trans h2_) (by decide), fun _ _ h2_ => absurd ((up_self b 8).symm.trans h2_) (by decide), fun _ _ h2_ => absurd ((up_self b 8).symm.trans h2_) (by decide), fun _ h1_ _ => absurd ((hoff 13 (by kernel_rfl)).symm.trans h1_) (by decide), fun _ h1_ _ => absurd ((hoff 16 (by kernel_rfl)).symm.trans h1_) (by decide), fun h0_ _ _ => absurd ((hoff 11 (by kernel_rfl)).symm.trans h0_) (by decide), Q_X3_, Q_X10_, fun h0_ => absurd ((hoff 18 (by kernel_rfl)).symm.trans h0_) (by decide)⟩
        refine steps_cons ?_ ?_
        · rintro b a w' ⟨b3_, b10_, s4_, s5_, s7_, s8_, s11_, s13_, s14_, s16_, s17_, m3_, m10_, m18_, ha, Q_HW, Q_HS3, Q_H4, Q_H5, Q_H7, Q_H8, Q_H10, Q_H11, Q_H13, Q_H14, Q_H16, Q_H17, Q_P5q, Q_P5r, Q_P5s, Q_P8r, Q_P8s, Q_P11s, Q_X3_, Q_X10_, Q_X18_⟩ hb_ hon hoff
          refine ⟨_, rfl, fun K hK => ?_⟩
          have e44 : a.tmps[44]? = some (.int .u8 c) := by rw [ha]; exact (putSel_off rfl).trans rfl
          replace ha := Aside0.mk ha
          have HW := Aside0.mk Q_HW
          refine value_ (w1 := w'.alloc (.cells #[.int .u8 c] 5)) (v := .slice (some ⟨w'.heap.size, 0, none⟩) 1 1) (by rfl) rfl (by go_simp) ?_
          refine hK.out _ _ ⟨b3_, w'.heap.size, s4_, s5_, s7_, s8_, s11_, s13_, s14_, s16_, s17_, m3_, (.slice (some ⟨w'.heap.size, 0, none⟩) 1 1), m18_, (by rw [ha.out]; exact putSel_upk 5 hb_ rfl rfl rfl), below_alloc HW.out _, fun h0_ h1_ => blk_alloc (Q_HS3 h0_ h1_) _, fun h0_ h1_ => Kd.R_alloc (Q_H4 h0_ h1_) _, fun h0_ h1_ => Kd.R_alloc (Q_H5 h0_ h1_) _, fun h0_ h1_ => Kd.R_alloc (Q_H7 h0_ h1_) _, fun h0_ h1_ => Kd.R_alloc (Q_H8 h0_ h1_) _, fun _ _ => Kd.R_lower (own_oneR w' c) HW.out.size, fun h0_ _ => absurd ((hoff 11 (by kernel_rfl)).symm.trans h0_) (by decide), fun h0_ _ => absurd ((hoff 13 (by kernel_rfl)).symm.trans h0_) (by decide), fun h0_ _ => absurd ((hoff 14 (by kernel_rfl)).symm.trans h0_) (by decide), fun h0_ _ => absurd ((hoff 16 (by kernel_rfl)).symm.trans h0_) (by decide), fun h0_ => absurd ((hoff 17 (by kernel_rfl)).symm.trans h0_) (by decide), fun _ _ _ => far_new (Kd.R_lt (Q_H5 (by assumption) (by assumption))) (fun k hk => Nat.le_of_eq (Option.some.inj hk)), fun _ h1_ _ => absurd ((hoff 13 (by kernel_rfl)).symm.trans h1_) (by decide), fun _ h1_ _ => absurd ((hoff 16 (by kernel_rfl)).symm.trans h1_) (by decide), fun _ h1_ _ => absurd ((hoff 13 (by kernel_rfl)).symm.trans h1_) (by decide), fun _ h1_ _ => absurd ((hoff 16 (by kernel_rfl)).symm.trans h1_) (by decide), fun h0_ _ _ => absurd ((hoff 11 (by kernel_rfl)).symm.trans h0_) (by decide), Q_X3_, fun _ => rfl, fun h0_ => absurd ((hoff 18 (by kernel_rfl)).symm.trans h0_) (by decide)⟩
        refine steps_cons ?_ ?_
        · rintro b a w' ⟨b3_, b10_, s4_, s5_, s7_, s8_, s11_, s13_, s14_, s16_, s17_, m3_, m10_, m18_, ha, Q_HW, Q_HS3, Q_H4, Q_H5, Q_H7, Q_H8, Q_H10, Q_H11, Q_H13, Q_H14, Q_H16, Q_H17, Q_P5q, Q_P5r, Q_P5s, Q_P8r, Q_P8s, Q_P11s, Q_X3_, Q_X10_, Q_X18_⟩ hb_ hon hoff
          refine ⟨_, rfl, fun K hK => ?_⟩
          have e43 : a.tmps[43]? = some (s8_) := by rw [ha]; exact putSel_on (e := (8, 43, s8_)) 4 rfl rfl (hon 8 (by kernel_rfl)) rfl
          have e45 : a.tmps[45]? = some (m10_) := by rw [ha]; exact putSel_on (e := (10, 45, m10_)) 5 rfl rfl (hon 10 (by kernel_rfl)) rfl
          rw [Q_X10_ (hon 10 (by kernel_rfl))] at e45
          replace ha := Aside0.mk ha
          have HW := Aside0.mk Q_HW
          have H8 := Aside0.mk (Q_H8 (hon 8 (by kernel_rfl)) hb_)
          have H10 := Aside0.mk (Q_H10 (hon 10 (by kernel_rfl)) hb_)
          obtain ⟨aR, cR, hs, hcR, hCR⟩ := Kd.R_reads H10.out
          rw [hs] at e45
          refine cat_step_at (Kd.int .u8) intKM wd w' wd.heap.size (by rfl) (.tmp 43) (.tmp 45) 24 5 (.int .u8 0) 1 rfl Try.underlying24 infoU8 rfl (by decide) (by omega) (s8_) (be8s [n, m] ++ text8 s1) ([c]) (aR) (([c]).length) (cR) (eval_of e43) (eval_of e45) (H8.out) (hCR) HW.out HW.out.size (by simp only [List.length_append, List.length_cons, List.length_nil, be8s_len]; omega) ?_
          intro v1 w1 ho hb hg hat
          refine hK.out _ _ ⟨b3_, b10_, s4_, s5_, s7_, s8_, v1, s13_, s14_, s16_, s17_, m3_, m10_, m18_, (by rw [ha.out]; exact putSel_upk 6 hb_ rfl rfl rfl), hb, fun _ h1_ => absurd ((hon 4 (by kernel_rfl)).symm.trans h1_) (by decide), fun _ h1_ => absurd ((hon 5 (by kernel_rfl)).symm.trans h1_) (by decide), fun _ h1_ => absurd ((hon 8 (by kernel_rfl)).symm.trans h1_) (by decide), fun _ h1_ => absurd ((hon 8 (by kernel_rfl)).symm.trans h1_) (by decide), fun _ h1_ => absurd ((up_self b 11).symm.trans h1_) (by decide), fun _ h1_ => absurd ((up_self b 11).symm.trans h1_) (by decide), fun _ _ => ho, fun h0_ _ => absurd ((hoff 13 (by kernel_rfl)).symm.trans h0_) (by decide), fun h0_ _ => absurd ((hoff 14 (by kernel_rfl)).symm.trans h0_) (by decide), fun h0_ _ => absurd ((hoff 16 (by kernel_rfl)).symm.trans h0_) (by decide), fun h0_ => absurd ((hoff 17 (by kernel_rfl)).symm.trans h0_) (by decide), fun _ _ h2_ => absurd ((hon 8 (by kernel_rfl)).symm.trans h2_) (by decide), fun _ h1_ _ => absurd ((hoff 13 (by kernel_rfl)).symm.trans h1_) (by decide), fun _ h1_ _ => absurd ((hoff 16 (by kernel_rfl)).symm.trans h1_) (by decide), fun _ _ h2_ => absurd ((up_self b 11).symm.trans h2_) (by decide), fun _ _ h2_ => absurd ((up_self b 11).symm.trans h2_) (by decide), fun _ h1_ _ => absurd ((hoff 16 (by kernel_rfl)).symm.trans h1_) (by decide), Q_X3_, Q_X10_, fun h0_ => absurd ((hoff 18 (by kernel_rfl)).symm.trans h0_) (by decide)⟩
        refine steps_cons ?_ ?_
        · rintro b a w' ⟨b3_, b10_, s4_, s5_, s7_, s8_, s11_, s13_, s14_, s16_, s17_, m3_, m10_, m18_, ha, Q_HW, Q_HS3, Q_H4, Q_H5, Q_H7, Q_H8, Q_H10, Q_H11, Q_H13, Q_H14, Q_H16, Q_H17, Q_P5q, Q_P5r, Q_P5s, Q_P8r, Q_P8s, Q_P11s, Q_X3_, Q_X10_, Q_X18_⟩ hb_ hon hoff
          refine ⟨_, rfl, fun K hK => ?_⟩
          have e11 : a.tmps[11]? = some (.pointer (some ⟨w.heap.size, 0, none⟩)) := by rw [ha]; exact (putSel_off rfl).trans rfl
          replace ha := Aside0.mk ha
          have HW := Aside0.mk Q_HW
          have q0 := cells_at HW.out (blk_cell HID.out 0)
          have q1 := cells_at HW.out (blk_cell HID.out 1)
          refine value_ (w1 := w') (v := .agg #[.int .i64 xc, .int .i64 xs]) (by rfl) rfl ?_ ?_
          · go_simp
            (try simp only [i64_w])
            try rfl
          refine hK.out _ _ ⟨b3_, b10_, s4_, s5_, s7_, s8_, s11_, s13_, s14_, s16_, s17_, m3_, m10_, m18_, (by rw [ha.out]; exact putSel_upk 7 hb_ rfl rfl rfl), Q_HW, Q_HS3, Q_H4, Q_H5, Q_H7, Q_H8, Q_H10, Q_H11, fun h0_ _ => absurd ((hoff 13 (by kernel_rfl)).symm.trans h0_) (by decide), fun h0_ _ => absurd ((hoff 14 (by kernel_rfl)).symm.trans h0_) (by decide), fun h0_ _ => absurd ((hoff 16 (by kernel_rfl)).symm.trans h0_) (by decide), fun h0_ => absurd ((hoff 17 (by kernel_rfl)).symm.trans h0_) (by decide), Q_P5q, fun _ h1_ _ => absurd ((hoff 13 (by kernel_rfl)).symm.trans h1_) (by decide), fun _ h1_ _ => absurd ((hoff 16 (by kernel_rfl)).symm.trans h1_) (by decide), fun _ h1_ _ => absurd ((hoff 13 (by kernel_rfl)).symm.trans h1_) (by decide), fun _ h1_ _ => absurd ((hoff 16 (by kernel_rfl)).symm.trans h1_) (by decide), fun _ h1_ _ => absurd ((hoff 16 (by kernel_rfl)).symm.trans h1_) (by decide), Q_X3_, Q_X10_, fun h0_ => absurd ((hoff 18 (by kernel_rfl)).symm.trans h0_) (by decide)⟩
        refine steps_cons ?_ ?_
        · rintro b a w' ⟨b3_, b10_, s4_, s5_, s7_, s8_, s11_, s13_, s14_, s16_, s17_, m3_, m10_, m18_, ha, Q_HW, Q_HS3, Q_H4, Q_H5, Q_H7, Q_H8, Q_H10, Q_H11, Q_H13, Q_H14, Q_H16, Q_H17, Q_P5q, Q_P5r, Q_P5s, Q_P8r, Q_P8s, Q_P11s, Q_X3_, Q_X10_, Q_X18_⟩ hb_ hon hoff
          refine ⟨_, rfl, fun K hK => ?_⟩
          have e47 : a.tmps[47]? = some (.agg #[.int .i64 xc, .int .i64 xs]) := by rw [ha]; exact putSel_on (e := (12, 47, .agg #[.int .i64 xc, .int .i64 xs])) 7 rfl rfl (hon 12 (by kernel_rfl)) rfl
          replace ha := Aside0.mk ha
          have HW := Aside0.mk Q_HW
          have H11 := Aside0.mk (Q_H11 (hon 11 (by kernel_rfl)) (hoff 14 (by kernel_rfl)))
          refine goes_ Try.func22 (by kernel_rfl) rfl #[.agg #[.int .i64 xc, .int .i64 xs]] (by rfl) rfl rfl (by simp only [List.map_toArray, List.map_cons, List.map_nil, Act.eval, Array.getD_eq_getD_getElem?, Option.getD_some, e47]) ?_
          refine (nid_calls xc xs w').mono ?_
          rintro e w2 ⟨v2, rfl, hR, hB⟩
          refine ⟨_, rfl, ?_⟩
          refine hK.out _ _ ⟨b3_, b10_, s4_, s5_, s7_, s8_, s11_, v2, s14_, s16_, s17_, m3_, m10_, m18_, (by rw [ha.out]; exact putSel_upk 8 hb_ rfl rfl rfl), below_step HW.out hB, fun _ h1_ => absurd ((hon 4 (by kernel_rfl)).symm.trans h1_) (by decide), fun _ h1_ => absurd ((hon 5 (by kernel_rfl)).symm.trans h1_) (by decide), fun _ h1_ => absurd ((hon 8 (by kernel_rfl)).symm.trans h1_) (by decide), fun _ h1_ => absurd ((hon 8 (by kernel_rfl)).symm.trans h1_) (by decide), fun _ h1_ => absurd ((hon 11 (by kernel_rfl)).symm.trans h1_) (by decide), fun _ h1_ => absurd ((hon 11 (by kernel_rfl)).symm.trans h1_) (by decide), fun _ _ => Kd.R_below H11.out hB, fun _ _ => Kd.R_lower hR HW.out.size, fun h0_ _ => absurd ((hoff 14 (by kernel_rfl)).symm.trans h0_) (by decide), fun h0_ _ => absurd ((hoff 16 (by kernel_rfl)).symm.trans h0_) (by decide), fun h0_ => absurd ((hoff 17 (by kernel_rfl)).symm.trans h0_) (by decide), fun _ _ h2_ => absurd ((hon 8 (by kernel_rfl)).symm.trans h2_) (by decide), fun _ _ h2_ => absurd ((hon 8 (by kernel_rfl)).symm.trans h2_) (by decide), fun _ h1_ _ => absurd ((hoff 16 (by kernel_rfl)).symm.trans h1_) (by decide), fun _ _ h2_ => absurd ((hon 11 (by kernel_rfl)).symm.trans h2_) (by decide), fun _ h1_ _ => absurd ((hoff 16 (by kernel_rfl)).symm.trans h1_) (by decide), fun _ h1_ _ => absurd ((hoff 16 (by kernel_rfl)).symm.trans h1_) (by decide), Q_X3_, Q_X10_, fun h0_ => absurd ((hoff 18 (by kernel_rfl)).symm.trans h0_) (by decide)⟩
        refine steps_cons ?_ ?_
        · rintro b a w' ⟨b3_, b10_, s4_, s5_, s7_, s8_, s11_, s13_, s14_, s16_, s17_, m3_, m10_, m18_, ha, Q_HW, Q_HS3, Q_H4, Q_H5, Q_H7, Q_H8, Q_H10, Q_H11, Q_H13, Q_H14, Q_H16, Q_H17, Q_P5q, Q_P5r, Q_P5s, Q_P8r, Q_P8s, Q_P11s, Q_X3_, Q_X10_, Q_X18_⟩ hb_ hon hoff
          refine ⟨_, rfl, fun K hK => ?_⟩
          have e46 : a.tmps[46]? = some (s11_) := by rw [ha]; exact putSel_on (e := (11, 46, s11_)) 6 rfl rfl (hon 11 (by kernel_rfl)) rfl
          have e48 : a.tmps[48]? = some (s13_) := by rw [ha]; exact putSel_on (e := (13, 48, s13_)) 8 rfl rfl (hon 13 (by kernel_rfl)) rfl
          replace ha := Aside0.mk ha
          have HW := Aside0.mk Q_HW
          have H11 := Aside0.mk (Q_H11 (hon 11 (by kernel_rfl)) hb_)
          have H13 := Aside0.mk (Q_H13 (hon 13 (by kernel_rfl)) hb_)
          obtain ⟨aR, cR, hs, hcR, hCR⟩ := Kd.R_reads H13.out
          rw [hs] at e48
          refine cat_step_at (Kd.int .u8) intKM wd w' wd.heap.size (by rfl) (.tmp 46) (.tmp 48) 24 5 (.int .u8 0) 1 rfl Try.underlying24 infoU8 rfl (by decide) (by omega) (s11_) (be8s [n, m] ++ text8 s1 ++ [c]) (be8s [xc, xs]) (aR) ((be8s [xc, xs]).length) (cR) (eval_of e46) (eval_of e48) (H11.out) (hCR) HW.out HW.out.size (by simp only [List.length_append, List.length_cons, List.length_nil, be8s_len]; omega) ?_
          intro v1 w1 ho hb hg hat
          refine hK.out _ _ ⟨b3_, b10_, s4_, s5_, s7_, s8_, s11_, s13_, v1, s16_, s17_, m3_, m10_, m18_, (by rw [ha.out]; exact putSel_upk 9 hb_ rfl rfl rfl), hb, fun _ h1_ => absurd ((hon 4 (by kernel_rfl)).symm.trans h1_) (by decide), fun _ h1_ => absurd ((hon 5 (by kernel_rfl)).symm.trans h1_) (by decide), fun _ h1_ => absurd ((hon 8 (by kernel_rfl)).symm.trans h1_) (by decide), fun _ h1_ => absurd ((hon 8 (by kernel_rfl)).symm.trans h1_) (by decide), fun _ h1_ => absurd ((hon 11 (by kernel_rfl)).symm.trans h1_) (by decide), fun _ h1_ => absurd ((hon 11 (by kernel_rfl)).symm.trans h1_) (by decide), fun _ h1_ => absurd ((up_self b 14).symm.trans h1_) (by decide), fun _ h1_ => absurd ((up_self b 14).symm.trans h1_) (by decide), fun _ _ => ho, fun h0_ _ => absurd ((hoff 16 (by kernel_rfl)).symm.trans h0_) (by decide), fun h0_ => absurd ((hoff 17 (by kernel_rfl)).symm.trans h0_) (by decide), fun _ _ h2_ => absurd ((hon 8 (by kernel_rfl)).symm.trans h2_) (by decide), fun _ _ h2_ => absurd ((hon 8 (by kernel_rfl)).symm.trans h2_) (by decide), fun _ h1_ _ => absurd ((hoff 16 (by kernel_rfl)).symm.trans h1_) (by decide), fun _ _ h2_ => absurd ((hon 11 (by kernel_rfl)).symm.trans h2_) (by decide), fun _ h1_ _ => absurd ((hoff 16 (by kernel_rfl)).symm.trans h1_) (by decide), fun _ _ h2_ => absurd ((up_self b 14).symm.trans h2_) (by decide), Q_X3_, Q_X10_, fun h0_ => absurd ((hoff 18 (by kernel_rfl)).symm.trans h0_) (by decide)⟩
        refine steps_cons ?_ ?_
        · rintro b a w' ⟨b3_, b10_, s4_, s5_, s7_, s8_, s11_, s13_, s14_, s16_, s17_, m3_, m10_, m18_, ha, Q_HW, Q_HS3, Q_H4, Q_H5, Q_H7, Q_H8, Q_H10, Q_H11, Q_H13, Q_H14, Q_H16, Q_H17, Q_P5q, Q_P5r, Q_P5s, Q_P8r, Q_P8s, Q_P11s, Q_X3_, Q_X10_, Q_X18_⟩ hb_ hon hoff
          refine ⟨_, rfl, fun K hK => ?_⟩
          have e50 : a.tmps[50]? = some (.string t1) := by rw [ha]; exact (putSel_off rfl).trans rfl
          replace ha := Aside0.mk ha
          have HW := Aside0.mk Q_HW
          have H14 := Aside0.mk (Q_H14 (hon 14 (by kernel_rfl)) (hoff 17 (by kernel_rfl)))
          refine goes_ Try.func12 (by kernel_rfl) rfl #[.string t1] (by rfl) rfl rfl (by simp only [List.map_toArray, List.map_cons, List.map_nil, Act.eval, Array.getD_eq_getD_getElem?, Option.getD_some, e50]) ?_
          refine (txt_calls t1 w').mono ?_
          rintro e w2 ⟨v2, rfl, hR, hB⟩
          refine ⟨_, rfl, ?_⟩
          refine hK.out _ _ ⟨b3_, b10_, s4_, s5_, s7_, s8_, s11_, s13_, s14_, v2, s17_, m3_, m10_, m18_, (by rw [ha.out]; exact putSel_upk 10 hb_ rfl rfl rfl), below_step HW.out hB, fun _ h1_ => absurd ((hon 4 (by kernel_rfl)).symm.trans h1_) (by decide), fun _ h1_ => absurd ((hon 5 (by kernel_rfl)).symm.trans h1_) (by decide), fun _ h1_ => absurd ((hon 8 (by kernel_rfl)).symm.trans h1_) (by decide), fun _ h1_ => absurd ((hon 8 (by kernel_rfl)).symm.trans h1_) (by decide), fun _ h1_ => absurd ((hon 11 (by kernel_rfl)).symm.trans h1_) (by decide), fun _ h1_ => absurd ((hon 11 (by kernel_rfl)).symm.trans h1_) (by decide), fun _ h1_ => absurd ((hon 14 (by kernel_rfl)).symm.trans h1_) (by decide), fun _ h1_ => absurd ((hon 14 (by kernel_rfl)).symm.trans h1_) (by decide), fun _ _ => Kd.R_below H14.out hB, fun _ _ => Kd.R_lower hR HW.out.size, fun h0_ => absurd ((hoff 17 (by kernel_rfl)).symm.trans h0_) (by decide), fun _ _ h2_ => absurd ((hon 8 (by kernel_rfl)).symm.trans h2_) (by decide), fun _ _ h2_ => absurd ((hon 8 (by kernel_rfl)).symm.trans h2_) (by decide), fun _ _ h2_ => absurd ((hon 8 (by kernel_rfl)).symm.trans h2_) (by decide), fun _ _ h2_ => absurd ((hon 11 (by kernel_rfl)).symm.trans h2_) (by decide), fun _ _ h2_ => absurd ((hon 11 (by kernel_rfl)).symm.trans h2_) (by decide), fun _ _ h2_ => absurd ((hon 14 (by kernel_rfl)).symm.trans h2_) (by decide), Q_X3_, Q_X10_, fun h0_ => absurd ((hoff 18 (by kernel_rfl)).symm.trans h0_) (by decide)⟩
        refine steps_cons ?_ ?_
        · rintro b a w' ⟨b3_, b10_, s4_, s5_, s7_, s8_, s11_, s13_, s14_, s16_, s17_, m3_, m10_, m18_, ha, Q_HW, Q_HS3, Q_H4, Q_H5, Q_H7, Q_H8, Q_H10, Q_H11, Q_H13, Q_H14, Q_H16, Q_H17, Q_P5q, Q_P5r, Q_P5s, Q_P8r, Q_P8s, Q_P11s, Q_X3_, Q_X10_, Q_X18_⟩ hb_ hon hoff
          refine ⟨_, rfl, fun K hK => ?_⟩
          have e49 : a.tmps[49]? = some (s14_) := by rw [ha]; exact putSel_on (e := (14, 49, s14_)) 9 rfl rfl (hon 14 (by kernel_rfl)) rfl
          have e51 : a.tmps[51]? = some (s16_) := by rw [ha]; exact putSel_on (e := (16, 51, s16_)) 10 rfl rfl (hon 16 (by kernel_rfl)) rfl
          replace ha := Aside0.mk ha
          have HW := Aside0.mk Q_HW
          have H14 := Aside0.mk (Q_H14 (hon 14 (by kernel_rfl)) hb_)
          have H16 := Aside0.mk (Q_H16 (hon 16 (by kernel_rfl)) hb_)
          obtain ⟨aR, cR, hs, hcR, hCR⟩ := Kd.R_reads H16.out
          rw [hs] at e51
          refine cat_step_at (Kd.int .u8) intKM wd w' wd.heap.size (by rfl) (.tmp 49) (.tmp 51) 24 5 (.int .u8 0) 1 rfl Try.underlying24 infoU8 rfl (by decide) (by omega) (s14_) (be8s [n, m] ++ text8 s1 ++ [c] ++ be8s [xc, xs]) (text8 t1) (aR) ((text8 t1).length) (cR) (eval_of e49) (eval_of e51) (H14.out) (hCR) HW.out HW.out.size (by simp only [List.length_append, List.length_cons, List.length_nil, be8s_len]; omega) ?_
          intro v1 w1 ho hb hg hat
          refine hK.out _ _ ⟨b3_, b10_, s4_, s5_, s7_, s8_, s11_, s13_, s14_, s16_, v1, m3_, m10_, m18_, (by rw [ha.out]; exact putSel_upk 11 hb_ rfl rfl rfl), hb, fun _ h1_ => absurd ((hon 4 (by kernel_rfl)).symm.trans h1_) (by decide), fun _ h1_ => absurd ((hon 5 (by kernel_rfl)).symm.trans h1_) (by decide), fun _ h1_ => absurd ((hon 8 (by kernel_rfl)).symm.trans h1_) (by decide), fun _ h1_ => absurd ((hon 8 (by kernel_rfl)).symm.trans h1_) (by decide), fun _ h1_ => absurd ((hon 11 (by kernel_rfl)).symm.trans h1_) (by decide), fun _ h1_ => absurd ((hon 11 (by kernel_rfl)).symm.trans h1_) (by decide), fun _ h1_ => absurd ((hon 14 (by kernel_rfl)).symm.trans h1_) (by decide), fun _ h1_ => absurd ((hon 14 (by kernel_rfl)).symm.trans h1_) (by decide), fun _ h1_ => absurd ((up_self b 17).symm.trans h1_) (by decide), fun _ h1_ => absurd ((up_self b 17).symm.trans h1_) (by decide), fun _ => ho, fun _ _ h2_ => absurd ((hon 8 (by kernel_rfl)).symm.trans h2_) (by decide), fun _ _ h2_ => absurd ((hon 8 (by kernel_rfl)).symm.trans h2_) (by decide), fun _ _ h2_ => absurd ((hon 8 (by kernel_rfl)).symm.trans h2_) (by decide), fun _ _ h2_ => absurd ((hon 11 (by kernel_rfl)).symm.trans h2_) (by decide), fun _ _ h2_ => absurd ((hon 11 (by kernel_rfl)).symm.trans h2_) (by decide), fun _ _ h2_ => absurd ((hon 14 (by kernel_rfl)).symm.trans h2_) (by decide), Q_X3_, Q_X10_, fun h0_ => absurd ((hoff 18 (by kernel_rfl)).symm.trans h0_) (by decide)⟩
        refine steps_cons ?_ ?_
        · rintro b a w' ⟨b3_, b10_, s4_, s5_, s7_, s8_, s11_, s13_, s14_, s16_, s17_, m3_, m10_, m18_, ha, Q_HW, Q_HS3, Q_H4, Q_H5, Q_H7, Q_H8, Q_H10, Q_H11, Q_H13, Q_H14, Q_H16, Q_H17, Q_P5q, Q_P5r, Q_P5s, Q_P8r, Q_P8s, Q_P11s, Q_X3_, Q_X10_, Q_X18_⟩ hb_ hon hoff
          refine ⟨_, rfl, fun K hK => ?_⟩
          have e52 : a.tmps[52]? = some (s17_) := by rw [ha]; exact putSel_on (e := (17, 52, s17_)) 11 rfl rfl (hon 17 (by kernel_rfl)) rfl
          replace ha := Aside0.mk ha
          have HW := Aside0.mk Q_HW
          have H17 := Aside0.mk (Q_H17 (hon 17 (by kernel_rfl)))
          refine value_ (w1 := w') (v := s17_) (by rfl) rfl ?_ ?_
          · go_simp
            (try simp only [i64_w])
            try rfl
          refine hK.out _ _ ⟨b3_, b10_, s4_, s5_, s7_, s8_, s11_, s13_, s14_, s16_, s17_, m3_, m10_, (s17_), (by rw [ha.out]; exact putSel_upk 12 hb_ rfl rfl rfl), Q_HW, fun _ h1_ => absurd ((hon 4 (by kernel_rfl)).symm.trans h1_) (by decide), fun _ h1_ => absurd ((hon 5 (by kernel_rfl)).symm.trans h1_) (by decide), fun _ h1_ => absurd ((hon 8 (by kernel_rfl)).symm.trans h1_) (by decide), fun _ h1_ => absurd ((hon 8 (by kernel_rfl)).symm.trans h1_) (by decide), fun _ h1_ => absurd ((hon 11 (by kernel_rfl)).symm.trans h1_) (by decide), fun _ h1_ => absurd ((hon 11 (by kernel_rfl)).symm.trans h1_) (by decide), fun _ h1_ => absurd ((hon 14 (by kernel_rfl)).symm.trans h1_) (by decide), fun _ h1_ => absurd ((hon 14 (by kernel_rfl)).symm.trans h1_) (by decide), fun _ h1_ => absurd ((hon 17 (by kernel_rfl)).symm.trans h1_) (by decide), fun _ h1_ => absurd ((hon 17 (by kernel_rfl)).symm.trans h1_) (by decide), Q_H17, fun _ _ h2_ => absurd ((hon 8 (by kernel_rfl)).symm.trans h2_) (by decide), fun _ _ h2_ => absurd ((hon 8 (by kernel_rfl)).symm.trans h2_) (by decide), fun _ _ h2_ => absurd ((hon 8 (by kernel_rfl)).symm.trans h2_) (by decide), fun _ _ h2_ => absurd ((hon 11 (by kernel_rfl)).symm.trans h2_) (by decide), fun _ _ h2_ => absurd ((hon 11 (by kernel_rfl)).symm.trans h2_) (by decide), fun _ _ h2_ => absurd ((hon 14 (by kernel_rfl)).symm.trans h2_) (by decide), Q_X3_, Q_X10_, fun _ => rfl⟩
        exact steps_nil
      · rintro b a w' hall ⟨b3_, b10_, s4_, s5_, s7_, s8_, s11_, s13_, s14_, s16_, s17_, m3_, m10_, m18_, ha, Q_HW, Q_HS3, Q_H4, Q_H5, Q_H7, Q_H8, Q_H10, Q_H11, Q_H13, Q_H14, Q_H16, Q_H17, Q_P5q, Q_P5r, Q_P5s, Q_P8r, Q_P8s, Q_P11s, Q_X3_, Q_X10_, Q_X18_⟩
        clear HW
        have hb3_ := hall 3 (by kernel_rfl)
        have hb4_ := hall 4 (by kernel_rfl)
        have hb5_ := hall 5 (by kernel_rfl)
        have hb7_ := hall 7 (by kernel_rfl)
        have hb8_ := hall 8 (by kernel_rfl)
        have hb10_ := hall 10 (by kernel_rfl)
        have hb11_ := hall 11 (by kernel_rfl)
        have hb12_ := hall 12 (by kernel_rfl)
        have hb13_ := hall 13 (by kernel_rfl)
        have hb14_ := hall 14 (by kernel_rfl)
        have hb16_ := hall 16 (by kernel_rfl)
        have hb17_ := hall 17 (by kernel_rfl)
        have hb18_ := hall 18 (by kernel_rfl)
        subst ha
        obtain rfl := Q_X3_ hb3_
        obtain rfl := Q_X10_ hb10_
        obtain rfl := Q_X18_ hb18_
        simp only [putSel, hb3_, hb4_, hb5_, hb7_, hb8_, hb10_, hb11_, hb12_, hb13_, hb14_, hb16_, hb17_, hb18_, if_true, Act.put, List.setIfInBounds_toArray, List.set_cons_zero, List.set_cons_succ]
        have HW := Aside0.mk Q_HW
        clear Q_HW
        clear Q_HS3
        clear Q_H4
        clear Q_H5
        clear Q_H7
        clear Q_H8
        clear Q_H10
        clear Q_H11
        clear Q_H13
        clear Q_H14
        clear Q_H16
        have H17 := Aside0.mk (Q_H17 hb17_)
        clear Q_H17
        clear Q_P5q
        clear Q_P5r
        clear Q_P5s
        clear Q_P8r
        clear Q_P8s
        clear Q_P11s
        clear hall hb3_ hb4_ hb5_ hb7_ hb8_ hb10_ hb11_ hb12_ hb13_ hb14_ hb16_ hb17_ hb18_
        go_wp2
        go_meet
        case rel => exact ⟨H17, HW⟩
    case rest =>
      obtain ⟨H17, HW1⟩ := hcut
      have h17 := H17.out
      rw [show be8s [n, m] ++ text8 s1 ++ [c] ++ be8s [xc, xs] ++ text8 t1 = be8 n ++ (be8 m ++ (text8 s1 ++ (c :: (be8 xc ++ (be8 xs ++ text8 t1))))) by simp [be8s]] at h17
      obtain ⟨B, hB⟩ : ∃ B, B = be8 n ++ (be8 m ++ (text8 s1 ++ (c :: (be8 xc ++ (be8 xs ++ text8 t1))))) := ⟨_, rfl⟩
      rw [← hB] at h17
      have hlen : B.length = s1.size + t1.size + 35 := by rw [hB]; simp only [List.length_append, List.length_cons, be8_len, h8s, h8t]; omega
      have hby : Byt B := by rw [hB]; exact back_byt HK.out.2.2.2.2
      obtain ⟨W1, rfl⟩ : ∃ W1 : World, W1 = wc := ⟨_, rfl⟩
      obtain ⟨A15, c15, rfl, hc15, hC15⟩ := Kd.R_reads h17
      have HC15 := Aside0.mk hC15
      have HRd := Lib.hid (read_calls A15 c15 B W1 hC15 hby (by omega))
      have HIDa := Aside0.mk (blk_below HID.out HW1.out)
      have HBa := Aside0.mk (below_step HBw.out HW1.out)
      have HBB := Lib.hid hB
      have HBL := Lib.hid hlen
      have HC5 := Aside0.mk hc15
      have hBl : 35 ≤ B.length := by omega
      have hBl2 : B.length ≤ 265 := by omega
      have HBY := Aside0.mk hby
      clear h17 H17 hC15 hc15 hB hlen hby HW HW1 HID HBw h8s h8t
      go_wp2_with fail
      refine HRd.out.mono ?_
      rintro e w2 ⟨w0, g, rfl, hI, hB0, hB2⟩
      have HBb := Aside0.mk (below_step HBa.out hB0)
      have HC0 := Aside0.mk (Kd.C_below HC15.out hB0)
      have HID0 := Aside0.mk (blk_below HIDa.out hB0)
      have HI := Aside0.mk hI
      have HW := Aside0.mk hB2
      clear HRd HBa HC15 HIDa hB0 hB2 hI
      have hlb : ((B.length : Int) != 17 + (s1.size : Int) + 1 + 16 + 1 + (t1.size : Int)) = false := by rw [bne_eq_false_iff_eq]; have := HBL.out; omega
      have HZ1 : Aside0 (∀ W, Calls Try.prog 11 #[.slice none 0 0] W fun e w' => ∃ A c, e = .returned (.slice A 0 c) ∧ Below W.heap.size W w') := ⟨fun W => (num_calls none 0 [] W (C_nil _ W) (by simp)).mono fun e w' ⟨v, he, hR, hB⟩ => by obtain ⟨A, c, rfl, _, _⟩ := Kd.R_reads hR; exact ⟨A, c, he, hB⟩⟩
      have HZ2 : Aside0 (∀ W, Calls Try.prog 12 #[.string (zstr 256)] W fun e w' => ∃ A c, e = .returned (.slice A 0 c) ∧ Below W.heap.size W w') := ⟨fun W => (txt_calls (zstr 256) W).mono fun e w' ⟨v, he, hR, hB⟩ => by
        have hz : text8 (zstr 256) = [] := by unfold text8; rw [if_pos (by rw [zstr_size]; omega)]
        rw [hz] at hR
        obtain ⟨A, c, rfl, _, _⟩ := Kd.R_reads hR; exact ⟨A, c, he, hB⟩⟩
      have hz1 : ∀ W : World, (Instr.makeSlice 24 (.int .i64 256) (.int .i64 256)).run Try.prog W = .ok (.slice (some ⟨W.heap.size, 0, none⟩) 256 256) (W.alloc (.cells (zs8 256) 5)) := made_zs8 256 (by omega)
      have hz2 := fun W => conv_zs8 256 W (by omega)
      go_upto_region 7 with (first | (go_at_call 11; refine (HZ1.out _).mono ?_; rintro e w3 ⟨aZ, cZ, rfl, hB⟩; replace HI := Aside0.mk (HI.out.below hB); replace HW := Aside0.mk (below_step HW.out hB); clear hB) | (go_at_call 12; refine (HZ2.out _).mono ?_; rintro e w3 ⟨aY, cY, rfl, hB⟩; replace HI := Aside0.mk ((HI.out.alloc _).below hB); replace HW := Aside0.mk (below_step (below_alloc HW.out _) hB); clear hB))
      clear hz1 hz2 HZ1 HZ2 hlb
      have hBq := HBB.out
      rw [hBq] at HI
      clear hBq
      go_wp2_with fail
      refine (rn_ok HK.out.1 HI.out HW.out).mono ?_
      rintro e w5 ⟨rfl, hI, hB, hK⟩
      replace HI := Aside0.mk hI
      replace HW := Aside0.mk hB
      clear hI hB hK
      go_wp2_with fail
      refine (rn_ok HK.out.2.1 HI.out HW.out).mono ?_
      rintro e w6 ⟨rfl, hI, hB, hK⟩
      replace HI := Aside0.mk hI
      replace HW := Aside0.mk hB
      clear hI hB hK
      go_wp2_with fail
      refine (rt_ok (show s1.size ≤ 255 by omega) HI.out HW.out).mono ?_
      rintro e w7 ⟨rfl, hI, hB, hK⟩
      replace HI := Aside0.mk hI
      replace HW := Aside0.mk hB
      clear hI hB hK
      go_wp2_with fail
      refine (rb_ok HI.out HW.out).mono ?_
      rintro e w8 ⟨rfl, hI, hB, hK⟩
      replace HI := Aside0.mk hI
      replace HW := Aside0.mk hB
      clear hI hB hK
      go_wp2_with fail
      refine (ri_ok HK.out.2.2.1 HK.out.2.2.2.1 HI.out HW.out).mono ?_
      rintro e w9 ⟨rfl, hI, hB, hK⟩
      replace HI := Aside0.mk hI
      replace HW := Aside0.mk hB
      clear hI hB hK
      rw [← List.append_nil (text8 t1)] at HI
      go_wp2_with fail
      refine (rt_ok (show t1.size ≤ 255 by omega) HI.out HW.out).mono ?_
      rintro e w10 ⟨rfl, hI, hB, hK⟩
      replace HI := Aside0.mk hI
      replace HW := Aside0.mk hB
      clear hI hB hK
      have HY := Aside0.mk (blk_new w10 (.cells #[.int .i64 xc, .int .i64 xs] 42))
      have hg10 : g < w10.heap.size := HI.out.lt
      have hw10 : w.heap.size < w10.heap.size := blk_lt (blk_below HID0.out HW.out)
      have p0 := blk_cell (blk_below HID0.out HW.out) 0
      have p1 := blk_cell (blk_below HID0.out HW.out) 1
      have HP := Aside0.mk (And.intro p0 p1)
      replace HI := Aside0.mk (HI.out.alloc (.cells #[.int .i64 xc, .int .i64 xs] 42))
      replace HW := Aside0.mk (below_alloc HW.out (.cells #[.int .i64 xc, .int .i64 xs] 42))
      have HG1 : Aside0 (∀ W, IsRd w0 W g [] false → Calls Try.prog 13 #[.pointer (some ⟨g, 0, none⟩)] W fun e w' => e = .returned (.bool true) ∧ W = w') := ⟨fun W h => good_calls g [] false w0 W h⟩
      have HG2 : Aside0 (∀ W, IsRd w0 W g [] true → Calls Try.prog 13 #[.pointer (some ⟨g, 0, none⟩)] W fun e w' => e = .returned (.bool false) ∧ W = w') := ⟨fun W h => good_calls g [] true w0 W h⟩
      have HG3 : Aside0 (∀ W, IsRd w0 W g [] false → Calls Try.prog 14 #[.pointer (some ⟨g, 0, none⟩)] W fun e w' => e = .returned (.bool true) ∧ W = w') := ⟨fun W h => done_calls g [] false w0 W h⟩
      have HG4 : Aside0 (∀ W, IsRd w0 W g [] false → Below w0.heap.size w0 W → Calls Try.prog 20 #[.pointer (some ⟨g, 0, none⟩)] W fun e w' => e = .returned (.int .u8 0) ∧ IsRd w0 w' g [] true ∧ Below w0.heap.size w0 w' ∧ KeepBut W w' g none) := ⟨fun W h1 h2 => byte_calls g [] false w0 W h1 h2⟩
      go_upto_region 10 with (first | (go_at_call 13; (first | (with_reducible refine (HG1.out _ HI.out).mono ?_) | (with_reducible refine (HG2.out _ HI.out).mono ?_)); rintro e wG ⟨rfl, rfl⟩) | (go_at_call 14; refine (HG3.out _ HI.out).mono ?_; rintro e wG ⟨rfl, rfl⟩) | (go_at_call 20; refine (HG4.out _ HI.out HW.out).mono ?_; rintro e w11 ⟨rfl, hI, hB, hK⟩; replace HY := Aside0.mk (hK.blk HY.out (Nat.ne_of_gt hg10) (by simp)); replace HI := Aside0.mk hI; replace HW := Aside0.mk hB; clear hI hB hK))
      clear HG1 HG2 HG3 HG4 HI HP p0 p1
      obtain ⟨kk, hkk, HWI⟩ : ∃ kk : Nat, kk < B.length ∧ Aside0 (∀ W, Calls Try.prog 18 #[.int .i64 cut_, .int .i64 0, .int .i64 ((B.length : Int) - 1)] W fun e w' => e = .returned (.int .i64 (kk : Int)) ∧ W = w') := by
        have h1 := within_bd cut_ 0 ((B.length : Int) - 1) (by omega)
        refine ⟨(within cut_ 0 ((B.length : Int) - 1)).toNat, by omega, ⟨fun W => ?_⟩⟩
        have h2 := within_calls cut_ 0 ((B.length : Int) - 1) W (by omega) (by omega) (by omega)
        rwa [show (((within cut_ 0 ((B.length : Int) - 1)).toNat : Nat) : Int) = within cut_ 0 ((B.length : Int) - 1) by omega]
      obtain ⟨hcut, hrd, hln⟩ := cut_u8 A15 c15 B (kk : Int) kk (by omega) (by omega) (by omega) HC5.out
      obtain ⟨p, q, d, i, j, u, b1, b2, b3, b4, b5, b6, x1, x2, x3, x4, x5, e1, e2, e3, e4, e5, e6, z1, z2, z3⟩ := back_cut HK.out.1 HK.out.2.1 HK.out.2.2.1 HK.out.2.2.2.1 (show s1.size ≤ 255 by omega) (show t1.size ≤ 255 by omega) B HBB.out kk hkk
      have hR0 : Kd.C (Kd.int .u8) w11 A15 (B.take kk).length (B.take kk) := by have h := hrd w11 (Kd.C_below HC0.out HW.out); rwa [hln]
      have hcut2 : ∀ W : World, (Instr.slice 24 (.slice A15 B.length c15) none (some (.int .i64 (kk : Int))) none).run Try.prog W = .ok (.slice A15 (B.take kk).length c15) W := fun W => by rw [hcut W, hln]
      have HYB : Aside0 (Byt (B.take kk)) := ⟨fun x hx => HBY.out x (List.mem_of_mem_take hx)⟩
      have hl2 : (B.take kk).length ≤ 265 := by rw [List.length_take]; omega
      replace HBb := Aside0.mk (below_step HBb.out HW.out)
      clear hrd hln hcut HBB HBY HC0 HID0 hg10 HBL HC5
      generalize B.take kk = bk at *
      have HRd := Lib.hid (read_calls A15 c15 bk w11 hR0 HYB.out (by omega))
      clear hR0 HYB HW
      go_wp2_with (first | (go_at_call 18; refine (HWI.out _).mono ?_; rintro e wW ⟨rfl, rfl⟩))
      refine HRd.out.mono ?_
      rintro e w12 ⟨wv, g2, rfl, hI, hB0, hB2⟩
      replace HBb := Aside0.mk (below_step HBb.out hB0)
      replace HY := Aside0.mk (blk_below HY.out hB0)
      have HI := Aside0.mk hI
      have HW := Aside0.mk hB2
      clear HRd hB0 hB2 hI HWI hcut2
      have HQ1 : Aside0 (∀ W, IsRd wv W g2 bk false → Below wv.heap.size wv W → Calls Try.prog 17 #[.pointer (some ⟨g2, 0, none⟩)] W fun e w' => e = .returned (.int .i64 p) ∧ IsRd wv w' g2 b1 x1 ∧ Below wv.heap.size wv w' ∧ KeepBut W w' g2 none) := ⟨fun W h1 h2 => by have := number_calls g2 bk false wv W h1 h2; rwa [e1] at this⟩
      have HQ2 : Aside0 (∀ W, IsRd wv W g2 b1 x1 → Below wv.heap.size wv W → Calls Try.prog 17 #[.pointer (some ⟨g2, 0, none⟩)] W fun e w' => e = .returned (.int .i64 q) ∧ IsRd wv w' g2 b2 x2 ∧ Below wv.heap.size wv w' ∧ KeepBut W w' g2 none) := ⟨fun W h1 h2 => by have := number_calls g2 b1 x1 wv W h1 h2; rwa [e2] at this⟩
      have HQ3 : Aside0 (∀ W, IsRd wv W g2 b2 x2 → Below wv.heap.size wv W → Calls Try.prog 9 #[.pointer (some ⟨g2, 0, none⟩)] W fun e w' => e = .returned (.string u) ∧ IsRd wv w' g2 b3 x3 ∧ Below wv.heap.size wv w' ∧ KeepBut W w' g2 none) := ⟨fun W h1 h2 => by have := text_calls g2 b2 x2 wv W h1 h2; rwa [e3] at this⟩
      have HQ4 : Aside0 (∀ W, IsRd wv W g2 b3 x3 → Below wv.heap.size wv W → Calls Try.prog 20 #[.pointer (some ⟨g2, 0, none⟩)] W fun e w' => e = .returned (.int .u8 d) ∧ IsRd wv w' g2 b4 x4 ∧ Below wv.heap.size wv w' ∧ KeepBut W w' g2 none) := ⟨fun W h1 h2 => by have := byte_calls g2 b3 x3 wv W h1 h2; rwa [e4] at this⟩
      have HQ5 : Aside0 (∀ W, IsRd wv W g2 b4 x4 → Below wv.heap.size wv W → Calls Try.prog 23 #[.pointer (some ⟨g2, 0, none⟩)] W fun e w' => e = .returned (.agg #[.int .i64 i, .int .i64 j]) ∧ IsRd wv w' g2 b5 x5 ∧ Below wv.heap.size wv w' ∧ KeepBut W w' g2 none) := ⟨fun W h1 h2 => by have := rid_calls g2 b4 x4 wv W h1 h2; rwa [e5] at this⟩
      have HQ6 : Aside0 (∀ W, IsRd wv W g2 b5 x5 → Below wv.heap.size wv W → Calls Try.prog 9 #[.pointer (some ⟨g2, 0, none⟩)] W fun e w' => e = .returned (.string ⟨#[]⟩) ∧ IsRd wv w' g2 b6 true ∧ Below wv.heap.size wv w' ∧ KeepBut W w' g2 none) := ⟨fun W h1 h2 => by have := text_calls g2 b5 x5 wv W h1 h2; rwa [e6] at this⟩
      clear e1 e2 e3 e4 e5 e6
      go_wp2_with fail
      refine (HQ1.out _ HI.out HW.out).mono ?_
      rintro e w13 ⟨rfl, hI, hB, hK⟩
      replace HI := Aside0.mk hI
      replace HW := Aside0.mk hB
      clear hI hB hK HQ1
      go_wp2_with fail
      refine (HQ2.out _ HI.out HW.out).mono ?_
      rintro e w14 ⟨rfl, hI, hB, hK⟩
      replace HI := Aside0.mk hI
      replace HW := Aside0.mk hB
      clear hI hB hK HQ2
      go_wp2_with fail
      refine (HQ3.out _ HI.out HW.out).mono ?_
      rintro e w15 ⟨rfl, hI, hB, hK⟩
      replace HI := Aside0.mk hI
      replace HW := Aside0.mk hB
      clear hI hB hK HQ3
      go_wp2_with fail
      refine (HQ4.out _ HI.out HW.out).mono ?_
      rintro e w16 ⟨rfl, hI, hB, hK⟩
      replace HI := Aside0.mk hI
      replace HW := Aside0.mk hB
      clear hI hB hK HQ4
      go_wp2_with fail
      refine (HQ5.out _ HI.out HW.out).mono ?_
      rintro e w17 ⟨rfl, hI, hB, hK⟩
      replace HI := Aside0.mk hI
      replace HW := Aside0.mk hB
      clear hI hB hK HQ5
      go_wp2_with fail
      refine (HQ6.out _ HI.out HW.out).mono ?_
      rintro e w18 ⟨rfl, hI, hB, hK⟩
      replace HI := Aside0.mk hI
      replace HW := Aside0.mk hB
      clear hI hB hK HQ6
      have hy18 := blk_below HY.out HW.out
      have y0 := blk_cell hy18 0
      have y1 := blk_cell hy18 1
      have f0 := blk_frozen hy18 0
      have f1 := blk_frozen hy18 1
      have hyl := blk_lt hy18
      clear hy18
      go_upto_region 15 with fail
      obtain ⟨hI, hB, hY⟩ := rd_store HI.out HW.out HY.out i j
      have hBv := below_set (j := 1) (v := .int .i64 j) (below_set (j := 0) (v := .int .i64 i) HBb.out (Nat.le_of_lt hw10)) (Nat.le_of_lt hw10)
      clear y0 y1 f0 f1 hyl HY HI HW HBb
      generalize (w18.setCell ⟨w10.heap.size, 0, none⟩ (.int .i64 i)).setCell ⟨w10.heap.size, 1, none⟩ (.int .i64 j) = w19 at *
      generalize (wv.setCell ⟨w10.heap.size, 0, none⟩ (.int .i64 i)).setCell ⟨w10.heap.size, 1, none⟩ (.int .i64 j) = wu at *
      have HI := Aside0.mk hI
      have HW := Aside0.mk hB
      have HBv := Aside0.mk hBv
      have y0 := blk_cell hY 0
      have y1 := blk_cell hY 1
      clear hI hB hY hBv
      have HG : Aside0 (Calls Try.prog 13 #[.pointer (some ⟨g2, 0, none⟩)] w19 fun e w' => e = .returned (.bool false) ∧ w19 = w') := ⟨good_calls g2 b6 true wu w19 HI.out⟩
      have HD : Aside0 (Calls Try.prog 14 #[.pointer (some ⟨g2, 0, none⟩)] w19 fun e w' => e = .returned (.bool false) ∧ w19 = w') := ⟨done_calls g2 b6 true wu w19 HI.out⟩
      have HN : Aside0 (∀ W, IsRd wu W g2 b6 true → Below wu.heap.size wu W → Calls Try.prog 17 #[.pointer (some ⟨g2, 0, none⟩)] W fun e w' => e = .returned (.int .i64 0) ∧ IsRd wu w' g2 b6 true ∧ Below wu.heap.size wu w' ∧ KeepBut W w' g2 none) := ⟨fun W h1 h2 => by have := number_calls g2 b6 true wu W h1 h2; rwa [num_bad] at this⟩
      have HT : Aside0 (∀ W, IsRd wu W g2 b6 true → Below wu.heap.size wu W → Calls Try.prog 9 #[.pointer (some ⟨g2, 0, none⟩)] W fun e w' => e = .returned (.string ⟨#[]⟩) ∧ IsRd wu w' g2 b6 true ∧ Below wu.heap.size wu w' ∧ KeepBut W w' g2 none) := ⟨fun W h1 h2 => by have := text_calls g2 b6 true wu W h1 h2; rwa [txt_bad] at this⟩
      have HJ : Aside0 (∀ W, IsRd wu W g2 b6 true → Below wu.heap.size wu W → Calls Try.prog 23 #[.pointer (some ⟨g2, 0, none⟩)] W fun e w' => e = .returned (.agg #[.int .i64 0, .int .i64 0]) ∧ IsRd wu w' g2 b6 true ∧ Below wu.heap.size wu w' ∧ KeepBut W w' g2 none) := ⟨fun W h1 h2 => by have := rid_calls g2 b6 true wu W h1 h2; rwa [id_bad] at this⟩
      have hcase : (kk < 8 ∧ p = 0 ∧ q = 0 ∧ u = ⟨#[]⟩ ∧ d = 0 ∧ i = 0 ∧ j = 0) ∨ (8 ≤ kk ∧ kk < 16 ∧ p = n ∧ q = 0 ∧ u = ⟨#[]⟩ ∧ d = 0 ∧ i = 0 ∧ j = 0) ∨ (8 ≤ kk ∧ 16 ≤ kk ∧ p = n) := by
        by_cases h8 : kk < 8
        · exact .inl ⟨h8, z1 h8, z3 (by omega)⟩
        · by_cases h16 : kk < 16
          · exact .inr (.inl ⟨by omega, h16, z2 (by omega), z3 h16⟩)
          · exact .inr (.inr ⟨by omega, by omega, z2 (by omega)⟩)
      clear z1 z2 z3 HK
      have hd8 : (kk < 8 → decide ((kk : Int) < 8) = true ∧ decide ((8 : Int) ≤ (kk : Int)) = false) ∧ (8 ≤ kk → decide ((kk : Int) < 8) = false ∧ decide ((8 : Int) ≤ (kk : Int)) = true) ∧ (kk < 16 → decide ((kk : Int) < 16) = true) ∧ (16 ≤ kk → decide ((kk : Int) < 16) = false) := ⟨fun h => ⟨decide_eq_true (by omega), decide_eq_false (by omega)⟩, fun h => ⟨decide_eq_false (by omega), decide_eq_true (by omega)⟩, fun h => decide_eq_true (by omega), fun h => decide_eq_false (by omega)⟩
      rcases hcase with ⟨h8, rfl, rfl, rfl, rfl, rfl, rfl⟩ | ⟨h8, h16, rfl, rfl, rfl, rfl, rfl, rfl⟩ | ⟨h8, h16, rfl⟩
      · obtain ⟨t1_, t2_⟩ := hd8.1 h8
        have t3_ := hd8.2.2.1 (by omega)
        clear hd8
        go_upto_region 17 with (first | (go_at_call 13; refine HG.out.mono ?_; rintro e wG ⟨rfl, rfl⟩) | (go_at_call 14; refine HD.out.mono ?_; rintro e wG ⟨rfl, rfl⟩))
        clear HG HD y0 y1 t1_ t2_ t3_
        go_wp2_with (first | (go_at_call 17; refine (HN.out _ HI.out HW.out).mono ?_; rintro e wA ⟨rfl, hI, hB, hK⟩; replace HI := Aside0.mk hI; replace HW := Aside0.mk hB; clear hI hB hK) | (go_at_call 9; refine (HT.out _ HI.out HW.out).mono ?_; rintro e wA ⟨rfl, hI, hB, hK⟩; replace HI := Aside0.mk hI; replace HW := Aside0.mk hB; clear hI hB hK) | (go_at_call 23; refine (HJ.out _ HI.out HW.out).mono ?_; rintro e wA ⟨rfl, hI, hB, hK⟩; replace HI := Aside0.mk hI; replace HW := Aside0.mk hB; clear hI hB hK) | (go_at_call 3; refine (runs_calls _).mono ?_; rintro e wA ⟨rfl, hB⟩; replace HW := Aside0.mk (below_step HW.out hB); clear hB))
        go_ret
        exact ⟨rfl, below_step HBv.out HW.out⟩
      · obtain ⟨t1_, t2_⟩ := hd8.2.1 h8
        have t3_ := hd8.2.2.1 h16
        clear hd8
        go_upto_region 17 with (first | (go_at_call 13; refine HG.out.mono ?_; rintro e wG ⟨rfl, rfl⟩) | (go_at_call 14; refine HD.out.mono ?_; rintro e wG ⟨rfl, rfl⟩))
        clear HG HD y0 y1 t1_ t2_ t3_
        go_wp2_with (first | (go_at_call 17; refine (HN.out _ HI.out HW.out).mono ?_; rintro e wA ⟨rfl, hI, hB, hK⟩; replace HI := Aside0.mk hI; replace HW := Aside0.mk hB; clear hI hB hK) | (go_at_call 9; refine (HT.out _ HI.out HW.out).mono ?_; rintro e wA ⟨rfl, hI, hB, hK⟩; replace HI := Aside0.mk hI; replace HW := Aside0.mk hB; clear hI hB hK) | (go_at_call 23; refine (HJ.out _ HI.out HW.out).mono ?_; rintro e wA ⟨rfl, hI, hB, hK⟩; replace HI := Aside0.mk hI; replace HW := Aside0.mk hB; clear hI hB hK) | (go_at_call 3; refine (runs_calls _).mono ?_; rintro e wA ⟨rfl, hB⟩; replace HW := Aside0.mk (below_step HW.out hB); clear hB))
        go_ret
        exact ⟨rfl, below_step HBv.out HW.out⟩
      · obtain ⟨t1_, t2_⟩ := hd8.2.1 h8
        have t3_ := hd8.2.2.2 h16
        clear hd8
        go_upto_region 17 with (first | (go_at_call 13; refine HG.out.mono ?_; rintro e wG ⟨rfl, rfl⟩) | (go_at_call 14; refine HD.out.mono ?_; rintro e wG ⟨rfl, rfl⟩))
        clear HG HD y0 y1 t1_ t2_ t3_
        go_wp2_with (first | (go_at_call 17; refine (HN.out _ HI.out HW.out).mono ?_; rintro e wA ⟨rfl, hI, hB, hK⟩; replace HI := Aside0.mk hI; replace HW := Aside0.mk hB; clear hI hB hK) | (go_at_call 9; refine (HT.out _ HI.out HW.out).mono ?_; rintro e wA ⟨rfl, hI, hB, hK⟩; replace HI := Aside0.mk hI; replace HW := Aside0.mk hB; clear hI hB hK) | (go_at_call 23; refine (HJ.out _ HI.out HW.out).mono ?_; rintro e wA ⟨rfl, hI, hB, hK⟩; replace HI := Aside0.mk hI; replace HW := Aside0.mk hB; clear hI hB hK) | (go_at_call 3; refine (runs_calls _).mono ?_; rintro e wA ⟨rfl, hB⟩; replace HW := Aside0.mk (below_step HW.out hB); clear hB))
        go_ret
        exact ⟨rfl, below_step HBv.out HW.out⟩
end Go.Proofs.Ytnljhdfmhhmdkaa.Rd

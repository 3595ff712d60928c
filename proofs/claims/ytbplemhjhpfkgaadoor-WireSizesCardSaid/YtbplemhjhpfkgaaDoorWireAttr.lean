/-
  wire.attr: an attribute's bytes.
-/
import Derived.Test.YtbplemhjhpfkgaaDoorWireCon
namespace Go.Proofs.YtbplemhjhpfkgaaDoor.Wr
open Go.RowKit Go.Proofs.YtbplemhjhpfkgaaDoorW.PrintWords Go.Proofs.YtbplemhjhpfkgaaDoorW.PrintLast Go.Proofs.YtbplemhjhpfkgaaDoorW.PrintMore Go.Proofs.YtbplemhjhpfkgaaDoor.Rd
open Go.Proofs.YtbplemhjhpfkgaaDoor.Cd (Co At kCo kAt at_Co at_At nilCo nilAt C_blk64 text8_le)
set_option linter.unusedVariables false
set_option linter.unusedSimpArgs false
/-- An attribute's bytes in a message. -/
def aW (x : At) : List Int := text8 x.1 ++ (if x.2.1 = true then [1] ++ text8 x.2.2.2 else [0] ++ be8s [x.2.2.1])
def wa3Reg.T3 : Bool × List (List Nat × List Nat) := (true, [([], []), ([], []), ([0, 1], [0, 1]), ([], []), ([3], [3]), ([4], [4]), ([5, 2], [5]), ([2, 6, 6], [2, 6]), ([7, 7, 0, 1, 2, 3, 4, 5, 6, 7], [7])])
def wa3Reg.B3 : List Nat := [0, 0, 3, 0, 8, 24, 63, 127, 255]
theorem wa3Reg.tab3 : rtab .any (opsOf Tryd.f86 3) = wa3Reg.T3 := by kernel_rfl
theorem wa3Reg.bits3 : waitsOk wa3Reg.T3.2 wa3Reg.B3 = true := by kernel_rfl
def wa4Reg.T4 : Bool × List (List Nat × List Nat) := (true, [([], []), ([], []), ([0, 1], [0, 1]), ([], []), ([3], [3]), ([4], [4]), ([5], [5]), ([6, 2], [6]), ([2, 7, 7], [2, 7]), ([8, 8, 0, 1, 2, 3, 4, 5, 6, 7, 8], [8])])
def wa4Reg.B4 : List Nat := [0, 0, 3, 0, 8, 24, 56, 127, 255, 511]
theorem wa4Reg.tab4 : rtab .any (opsOf Tryd.f86 4) = wa4Reg.T4 := by kernel_rfl
theorem wa4Reg.bits4 : waitsOk wa4Reg.T4.2 wa4Reg.B4 = true := by kernel_rfl
set_option maxRecDepth 100000 in
set_option maxHeartbeats 8000000 in
theorem attr_calls (nm : ByteArray) (it : Bool) (n : Int) (tx : ByteArray) (w : World) :
    Calls Tryd.prog 86 #[.agg #[.string nm, .bool it, .int .i64 n, .string tx]] w fun e w' => ∃ v, e = .returned v ∧ Kd.R (Kd.int .u8) 5 w' w.heap.size (fun _ => True) v (aW (nm, it, n, tx)) ∧ Below w.heap.size w w' := by
  have htn := text8_le nm
  have htt := text8_le tx
  have HX := Aside0.mk (blk_new w (.cells #[.string nm, .bool it, .int .i64 n, .string tx] 59))
  have HB := Aside0.mk (below_alloc (Below.refl w.heap.size w) (.cells #[.string nm, .bool it, .int .i64 n, .string tx] 59))
  go_enter Tryd.func86, Tryd.ntmps86
  go_upto_region 1 with fail
  generalize (w.alloc (.cells #[.string nm, .bool it, .int .i64 n, .string tx] 59)) = wd at *
  go_cut [3] (fun v wx => Aside0 (Kd.R (Kd.int .u8) 5 wx wd.heap.size (fun _ => True) v (text8 nm)) ∧ Aside0 (wx.heap[w.heap.size]? = some (.cells #[.string nm, .bool it, .int .i64 n, .string tx] 59 (0, 0))) ∧ Aside0 (Below wd.heap.size wd wx))
  case first =>
    have q0 := blk_cell HX.out 0
    have hlx := blk_lt HX.out
    go_wp2_with (first | (go_at_call 77; refine (txt_calls nm _).mono ?_; rintro e w3 ⟨v3, rfl, hR, hB⟩; have HD := Aside0.mk hR; have HP := Aside0.mk (blk_below HX.out hB); have HW := Aside0.mk hB; clear hR hB))
    go_meet
    case rel => exact ⟨HD, HP, HW⟩
  case rest =>
    obtain ⟨HD, HP, HW⟩ := hcut
    clear HX
    obtain ⟨pr, hpr⟩ : ∃ b, text8 nm = b := ⟨_, rfl⟩
    have HE : Hid (aW (nm, it, n, tx) = pr ++ (if it = true then [1] ++ text8 tx else [0] ++ be8s [n])) := Lib.hid (by rw [← hpr]; rfl)
    rw [hpr] at HD htn
    clear hpr
    have q1 := blk_cell HP.out 1
    have hlx := blk_lt HP.out
    cases it
    · have HE2 : Hid (aW (nm, false, n, tx) = pr ++ [0] ++ be8s [n]) := Lib.hid (by rw [HE.out, if_neg (by decide), List.append_assoc])
      go_upto_region 4 with fail
      clear q1 hlx
      refine start_ (n := 10) (S := fun w' => True) (ds := []) #[false, false, false, false, false, false, false, false, false, false] (by kernel_rfl) rfl rfl trivial (fun hHeld => ?_)
      refine with_tabW wa4Reg.tab4 wa4Reg.bits4 (fun HT_ HW_ => ?_)
      refine pure_ (i := 0) (N := some 18) (v := ?_) (a' := ?_) #[true, false, false, false, false, false, false, false, false, false] rfl rfl (any_of HT_.out (by kernel_rfl)) (fun _ _ _ h => h) (Or.inl ⟨by rfl, ?_⟩) ?_ ?_
      rotate_left
      · intro w'
        go_simp
        with_reducible rfl
      rotate_left
      · simp only [Act.put, List.setIfInBounds_toArray, List.set_cons_zero, List.set_cons_succ, i64_w, i32_w]
        rfl
      refine pure_ (i := 3) (N := some 21) (v := ?_) (a' := ?_) #[true, false, false, true, false, false, false, false, false, false] rfl rfl (any_of HT_.out (by kernel_rfl)) (fun _ _ _ h => h) (Or.inl ⟨by rfl, ?_⟩) ?_ ?_
      rotate_left
      · intro w'
        go_simp
        with_reducible rfl
      rotate_left
      · simp only [Act.put, List.setIfInBounds_toArray, List.set_cons_zero, List.set_cons_succ, i64_w, i32_w]
        rfl
      refine pure_ (i := 4) (N := some 22) (v := ?_) (a' := ?_) #[true, false, false, true, true, false, false, false, false, false] rfl rfl (any_of HT_.out (by kernel_rfl)) (fun _ _ _ h => h) (Or.inl ⟨by rfl, ?_⟩) ?_ ?_
      rotate_left
      · intro w'
        go_simp
        with_reducible rfl
      rotate_left
      · simp only [Act.put, List.setIfInBounds_toArray, List.set_cons_zero, List.set_cons_succ, i64_w, i32_w]
        rfl
      refine inv_at [1, 2, 5, 6, 7, 8, 9] (fun a0_ b a w' => ∃ (b1_ : Nat) (s2_ : Value) (s7_ : Value) (s8_ : Value) (n6_ : Nat) (m1_ : Value) (m6_ : Value) (m9_ : Value), a = putSel a0_ b [(1, 19, m1_), (2, 20, s2_), (5, 23, .int .i64 n), (6, 24, m6_), (7, 25, s7_), (8, 26, s8_), (9, 2, m9_)] ∧ (Below wd.heap.size wd w') ∧ (w'.heap[w.heap.size]? = some (.cells #[.string nm, .bool false, .int .i64 n, .string tx] 59 (0, 0))) ∧ (b 2 = false → Kd.R (Kd.int .u8) 5 w' wd.heap.size (fun _ => True) (u3) (pr)) ∧ (b 1 = true → b 2 = false → Kd.R (Kd.int .u8) 5 w' wd.heap.size (fun _ => True) (.slice (some ⟨b1_, 0, none⟩) 1 1) ([0])) ∧ (b 2 = true → b 8 = false → Kd.R (Kd.int .u8) 5 w' wd.heap.size (fun _ => True) (s2_) (pr ++ [0])) ∧ (b 6 = true → b 7 = false → w'.heap[n6_]? = some (.cells #[.int .i64 n] 3 (0, 0))) ∧ (b 7 = true → b 8 = false → Kd.R (Kd.int .u8) 5 w' wd.heap.size (fun _ => True) (s7_) (be8s [n])) ∧ (b 8 = true → Kd.R (Kd.int .u8) 5 w' wd.heap.size (fun _ => True) (s8_) (pr ++ [0] ++ be8s [n])) ∧ (b 7 = true → b 2 = false → Far (u3) (s7_)) ∧ (b 1 = true → (m1_ : Value) = .slice (some ⟨b1_, 0, none⟩) 1 1) ∧ (b 6 = true → (m6_ : Value) = .slice (some ⟨n6_, 0, none⟩) 1 1) ∧ (b 9 = true → (m9_ : Value) = s8_)) HT_.out HW_.out (by kernel_rfl) (by kernel_rfl) ?_ ?_ ?_
      · exact ⟨0, .bool false, .bool false, .bool false, 0, .bool false, .bool false, .bool false, by simp only [putSel, Bool.false_eq_true, if_false], below_drew HW.out, HP.out, fun _ => HD.out, fun h_ => absurd h_ (by decide), fun h_ => absurd h_ (by decide), fun h_ => absurd h_ (by decide), fun h_ => absurd h_ (by decide), fun h_ => absurd h_ (by decide), fun h_ => absurd h_ (by decide), fun h_ => absurd h_ (by decide), fun h_ => absurd h_ (by decide), fun h_ => absurd h_ (by decide)⟩
      · skip
        clear HD HP HW
        refine steps_cons ?_ ?_
        · rintro b a w' ⟨b1_, s2_, s7_, s8_, n6_, m1_, m6_, m9_, ha, Q_HW, Q_HP, Q_HD, Q_HM0, Q_HA0, Q_HS1, Q_HM1, Q_HA1, Q_P0_1, Q_X1_, Q_X6_, Q_X9_⟩ hb_ hon hoff
          refine ⟨_, rfl, fun K hK => ?_⟩
          replace ha := Aside0.mk ha
          have HW := Aside0.mk Q_HW
          have HP := Aside0.mk Q_HP
          have HD := Aside0.mk (Q_HD (hoff 2 (by kernel_rfl)))
          refine value_ (w1 := w'.alloc (.cells #[.int .u8 (0)] 5)) (v := .slice (some ⟨w'.heap.size, 0, none⟩) 1 1) (by rfl) rfl (by go_simp) ?_
          refine hK.out _ _ ⟨w'.heap.size, s2_, s7_, s8_, n6_, (.slice (some ⟨w'.heap.size, 0, none⟩) 1 1), m6_, m9_, (by rw [ha.out]; exact putSel_upk 0 hb_ rfl rfl rfl), below_alloc HW.out _, blk_alloc HP.out _, fun _ => Kd.R_alloc HD.out _, fun _ _ => Kd.R_lower (own_oneR w' _) HW.out.size, fun h0_ _ => absurd ((hoff 2 (by kernel_rfl)).symm.trans h0_) (by decide), fun h0_ h1_ => blk_alloc (Q_HS1 h0_ h1_) _, fun h0_ _ => absurd ((hoff 7 (by kernel_rfl)).symm.trans h0_) (by decide), fun h0_ => absurd ((hoff 8 (by kernel_rfl)).symm.trans h0_) (by decide), fun h0_ _ => absurd ((hoff 7 (by kernel_rfl)).symm.trans h0_) (by decide), fun _ => rfl, Q_X6_, fun h0_ => absurd ((hoff 9 (by kernel_rfl)).symm.trans h0_) (by decide)⟩
        refine steps_cons ?_ ?_
        · rintro b a w' ⟨b1_, s2_, s7_, s8_, n6_, m1_, m6_, m9_, ha, Q_HW, Q_HP, Q_HD, Q_HM0, Q_HA0, Q_HS1, Q_HM1, Q_HA1, Q_P0_1, Q_X1_, Q_X6_, Q_X9_⟩ hb_ hon hoff
          refine ⟨_, rfl, fun K hK => ?_⟩
          have e18 : a.tmps[18]? = some (u3) := by rw [ha]; exact (putSel_off rfl).trans rfl
          have e19 : a.tmps[19]? = some (m1_) := by rw [ha]; exact putSel_on (e := (1, 19, m1_)) 0 rfl rfl (hon 1 (by kernel_rfl)) rfl
          rw [Q_X1_ (hon 1 (by kernel_rfl))] at e19
          replace ha := Aside0.mk ha
          have HW := Aside0.mk Q_HW
          have HP := Aside0.mk Q_HP
          have HD := Aside0.mk (Q_HD hb_)
          have HM0 := Aside0.mk (Q_HM0 (hon 1 (by kernel_rfl)) hb_)
          obtain ⟨aR, cR, hs, hcR, hCR⟩ := Kd.R_reads HM0.out
          rw [hs] at e19
          refine cat_step_at (Kd.int .u8) intKM wd w' wd.heap.size (by rfl) (.tmp 18) (.tmp 19) 22 5 (.int .u8 0) 1 rfl Tryd.underlying22 infoU8 rfl (by decide) (by omega) (u3) (pr) ([0]) (aR) (([0]).length) (cR) (eval_of e18) (eval_of e19) (HD.out) (hCR) HW.out HW.out.size (by first | omega | (simp only [List.length_append, List.length_cons, List.length_nil, be8s_len]; omega)) ?_
          intro v1 w1 ho hb hg hat
          refine hK.out _ _ ⟨b1_, v1, s7_, s8_, n6_, m1_, m6_, m9_, (by rw [ha.out]; exact putSel_upk 1 hb_ rfl rfl rfl), hb, blk_grown HP.out hg (Kd.R_ne HD.out HP.out (by decide)), fun h0_ => absurd ((up_self b 2).symm.trans h0_) (by decide), fun _ h1_ => absurd ((up_self b 2).symm.trans h1_) (by decide), fun _ _ => ho, fun h0_ h1_ => blk_grown (Q_HS1 h0_ h1_) hg (Kd.R_ne HD.out (Q_HS1 h0_ h1_) (by decide)), fun h0_ _ => absurd ((hoff 7 (by kernel_rfl)).symm.trans h0_) (by decide), fun h0_ => absurd ((hoff 8 (by kernel_rfl)).symm.trans h0_) (by decide), fun _ h1_ => absurd ((up_self b 2).symm.trans h1_) (by decide), Q_X1_, Q_X6_, fun h0_ => absurd ((hoff 9 (by kernel_rfl)).symm.trans h0_) (by decide)⟩
        refine steps_cons ?_ ?_
        · rintro b a w' ⟨b1_, s2_, s7_, s8_, n6_, m1_, m6_, m9_, ha, Q_HW, Q_HP, Q_HD, Q_HM0, Q_HA0, Q_HS1, Q_HM1, Q_HA1, Q_P0_1, Q_X1_, Q_X6_, Q_X9_⟩ hb_ hon hoff
          refine ⟨_, rfl, fun K hK => ?_⟩
          have e22 : a.tmps[22]? = some (.pointer (some ⟨w.heap.size, 2, none⟩)) := by rw [ha]; exact (putSel_off rfl).trans rfl
          replace ha := Aside0.mk ha
          have HW := Aside0.mk Q_HW
          have HP := Aside0.mk Q_HP
          have q0 := (blk_cell HP.out 2).trans (rfl : _ = some (Value.int .i64 n))
          refine value_ (w1 := w') (v := .int .i64 n) (by rfl) rfl ?_ ?_
          · go_simp
            (try simp only [i64_w])
            try rfl
          refine hK.out _ _ ⟨b1_, s2_, s7_, s8_, n6_, m1_, m6_, m9_, (by rw [ha.out]; exact putSel_upk 2 hb_ rfl rfl rfl), Q_HW, Q_HP, Q_HD, Q_HM0, Q_HA0, fun h0_ _ => absurd ((hoff 6 (by kernel_rfl)).symm.trans h0_) (by decide), fun h0_ _ => absurd ((hoff 7 (by kernel_rfl)).symm.trans h0_) (by decide), fun h0_ => absurd ((hoff 8 (by kernel_rfl)).symm.trans h0_) (by decide), fun h0_ _ => absurd ((hoff 7 (by kernel_rfl)).symm.trans h0_) (by decide), Q_X1_, fun h0_ => absurd ((hoff 6 (by kernel_rfl)).symm.trans h0_) (by decide), fun h0_ => absurd ((hoff 9 (by kernel_rfl)).symm.trans h0_) (by decide)⟩
        refine steps_cons ?_ ?_
        · rintro b a w' ⟨b1_, s2_, s7_, s8_, n6_, m1_, m6_, m9_, ha, Q_HW, Q_HP, Q_HD, Q_HM0, Q_HA0, Q_HS1, Q_HM1, Q_HA1, Q_P0_1, Q_X1_, Q_X6_, Q_X9_⟩ hb_ hon hoff
          refine ⟨_, rfl, fun K hK => ?_⟩
          have e23 : a.tmps[23]? = some (.int .i64 n) := by rw [ha]; exact putSel_on (e := (5, 23, .int .i64 n)) 2 rfl rfl (hon 5 (by kernel_rfl)) rfl
          replace ha := Aside0.mk ha
          have HW := Aside0.mk Q_HW
          have HP := Aside0.mk Q_HP
          refine value_ (w1 := w'.alloc (.cells #[.int .i64 n] 3)) (v := .slice (some ⟨w'.heap.size, 0, none⟩) 1 1) (by rfl) rfl (by go_simp) ?_
          refine hK.out _ _ ⟨b1_, s2_, s7_, s8_, w'.heap.size, m1_, (.slice (some ⟨w'.heap.size, 0, none⟩) 1 1), m9_, (by rw [ha.out]; exact putSel_upk 3 hb_ rfl rfl rfl), below_alloc HW.out _, blk_alloc HP.out _, fun h0_ => Kd.R_alloc (Q_HD h0_) _, fun h0_ h1_ => Kd.R_alloc (Q_HM0 h0_ h1_) _, fun h0_ h1_ => Kd.R_alloc (Q_HA0 h0_ h1_) _, fun _ _ => blk_new w' _, fun h0_ _ => absurd ((hoff 7 (by kernel_rfl)).symm.trans h0_) (by decide), fun h0_ => absurd ((hoff 8 (by kernel_rfl)).symm.trans h0_) (by decide), fun h0_ _ => absurd ((hoff 7 (by kernel_rfl)).symm.trans h0_) (by decide), Q_X1_, fun _ => rfl, fun h0_ => absurd ((hoff 9 (by kernel_rfl)).symm.trans h0_) (by decide)⟩
        refine steps_cons ?_ ?_
        · rintro b a w' ⟨b1_, s2_, s7_, s8_, n6_, m1_, m6_, m9_, ha, Q_HW, Q_HP, Q_HD, Q_HM0, Q_HA0, Q_HS1, Q_HM1, Q_HA1, Q_P0_1, Q_X1_, Q_X6_, Q_X9_⟩ hb_ hon hoff
          refine ⟨_, rfl, fun K hK => ?_⟩
          have e24 : a.tmps[24]? = some (m6_) := by rw [ha]; exact putSel_on (e := (6, 24, m6_)) 3 rfl rfl (hon 6 (by kernel_rfl)) rfl
          rw [Q_X6_ (hon 6 (by kernel_rfl))] at e24
          replace ha := Aside0.mk ha
          have HW := Aside0.mk Q_HW
          have HP := Aside0.mk Q_HP
          have HA0 := Aside0.mk (Q_HA0 (hon 2 (by kernel_rfl)) (hoff 8 (by kernel_rfl)))
          have HS1 := Aside0.mk (Q_HS1 (hon 6 (by kernel_rfl)) hb_)
          have hC := C_blk64 (xs := [n]) HS1.out (by simp)
          refine goes_ Tryd.func66 (by kernel_rfl) rfl #[.slice (some ⟨n6_, 0, none⟩) 1 1] (by rfl) rfl rfl (by simp only [List.map_toArray, List.map_cons, List.map_nil, Act.eval, Array.getD_eq_getD_getElem?, Option.getD_some, e24]) ?_
          refine (num_calls (some ⟨n6_, 0, none⟩) 1 [n] w' hC (by simp)).mono ?_
          rintro e w2 ⟨v2, rfl, hR, hB⟩
          refine ⟨_, rfl, ?_⟩
          refine hK.out _ _ ⟨b1_, s2_, v2, s8_, n6_, m1_, m6_, m9_, (by rw [ha.out]; exact putSel_upk 4 hb_ rfl rfl rfl), below_step HW.out hB, blk_below HP.out hB, fun h0_ => absurd ((hon 2 (by kernel_rfl)).symm.trans h0_) (by decide), fun _ h1_ => absurd ((hon 2 (by kernel_rfl)).symm.trans h1_) (by decide), fun _ _ => Kd.R_below HA0.out hB, fun _ h1_ => absurd ((up_self b 7).symm.trans h1_) (by decide), fun _ _ => Kd.R_lower hR HW.out.size, fun h0_ => absurd ((hoff 8 (by kernel_rfl)).symm.trans h0_) (by decide), fun _ h1_ => absurd ((hon 2 (by kernel_rfl)).symm.trans h1_) (by decide), Q_X1_, Q_X6_, fun h0_ => absurd ((hoff 9 (by kernel_rfl)).symm.trans h0_) (by decide)⟩
        refine steps_cons ?_ ?_
        · rintro b a w' ⟨b1_, s2_, s7_, s8_, n6_, m1_, m6_, m9_, ha, Q_HW, Q_HP, Q_HD, Q_HM0, Q_HA0, Q_HS1, Q_HM1, Q_HA1, Q_P0_1, Q_X1_, Q_X6_, Q_X9_⟩ hb_ hon hoff
          refine ⟨_, rfl, fun K hK => ?_⟩
          have e20 : a.tmps[20]? = some (s2_) := by rw [ha]; exact putSel_on (e := (2, 20, s2_)) 1 rfl rfl (hon 2 (by kernel_rfl)) rfl
          have e25 : a.tmps[25]? = some (s7_) := by rw [ha]; exact putSel_on (e := (7, 25, s7_)) 4 rfl rfl (hon 7 (by kernel_rfl)) rfl
          replace ha := Aside0.mk ha
          have HW := Aside0.mk Q_HW
          have HP := Aside0.mk Q_HP
          have HA0 := Aside0.mk (Q_HA0 (hon 2 (by kernel_rfl)) hb_)
          have HM1 := Aside0.mk (Q_HM1 (hon 7 (by kernel_rfl)) hb_)
          obtain ⟨aR, cR, hs, hcR, hCR⟩ := Kd.R_reads HM1.out
          rw [hs] at e25
          refine cat_step_at (Kd.int .u8) intKM wd w' wd.heap.size (by rfl) (.tmp 20) (.tmp 25) 22 5 (.int .u8 0) 1 rfl Tryd.underlying22 infoU8 rfl (by decide) (by omega) (s2_) (pr ++ [0]) (be8s [n]) (aR) ((be8s [n]).length) (cR) (eval_of e20) (eval_of e25) (HA0.out) (hCR) HW.out HW.out.size (by first | omega | (simp only [List.length_append, List.length_cons, List.length_nil, be8s_len]; omega)) ?_
          intro v1 w1 ho hb hg hat
          refine hK.out _ _ ⟨b1_, s2_, s7_, v1, n6_, m1_, m6_, m9_, (by rw [ha.out]; exact putSel_upk 5 hb_ rfl rfl rfl), hb, blk_grown HP.out hg (Kd.R_ne HA0.out HP.out (by decide)), fun h0_ => absurd ((hon 2 (by kernel_rfl)).symm.trans h0_) (by decide), fun _ h1_ => absurd ((hon 2 (by kernel_rfl)).symm.trans h1_) (by decide), fun _ h1_ => absurd ((up_self b 8).symm.trans h1_) (by decide), fun _ h1_ => absurd ((hon 7 (by kernel_rfl)).symm.trans h1_) (by decide), fun _ h1_ => absurd ((up_self b 8).symm.trans h1_) (by decide), fun _ => ho, fun _ h1_ => absurd ((hon 2 (by kernel_rfl)).symm.trans h1_) (by decide), Q_X1_, Q_X6_, fun h0_ => absurd ((hoff 9 (by kernel_rfl)).symm.trans h0_) (by decide)⟩
        refine steps_cons ?_ ?_
        · rintro b a w' ⟨b1_, s2_, s7_, s8_, n6_, m1_, m6_, m9_, ha, Q_HW, Q_HP, Q_HD, Q_HM0, Q_HA0, Q_HS1, Q_HM1, Q_HA1, Q_P0_1, Q_X1_, Q_X6_, Q_X9_⟩ hb_ hon hoff
          refine ⟨_, rfl, fun K hK => ?_⟩
          have e26 : a.tmps[26]? = some (s8_) := by rw [ha]; exact putSel_on (e := (8, 26, s8_)) 5 rfl rfl (hon 8 (by kernel_rfl)) rfl
          replace ha := Aside0.mk ha
          have HW := Aside0.mk Q_HW
          have HP := Aside0.mk Q_HP
          have HA1 := Aside0.mk (Q_HA1 (hon 8 (by kernel_rfl)))
          refine value_ (w1 := w') (v := s8_) (by rfl) rfl ?_ ?_
          · go_simp
            (try simp only [i64_w])
            try rfl
          refine hK.out _ _ ⟨b1_, s2_, s7_, s8_, n6_, m1_, m6_, (s8_), (by rw [ha.out]; exact putSel_upk 6 hb_ rfl rfl rfl), Q_HW, Q_HP, fun h0_ => absurd ((hon 2 (by kernel_rfl)).symm.trans h0_) (by decide), fun _ h1_ => absurd ((hon 2 (by kernel_rfl)).symm.trans h1_) (by decide), fun _ h1_ => absurd ((hon 8 (by kernel_rfl)).symm.trans h1_) (by decide), fun _ h1_ => absurd ((hon 7 (by kernel_rfl)).symm.trans h1_) (by decide), fun _ h1_ => absurd ((hon 8 (by kernel_rfl)).symm.trans h1_) (by decide), Q_HA1, fun _ h1_ => absurd ((hon 2 (by kernel_rfl)).symm.trans h1_) (by decide), Q_X1_, Q_X6_, fun _ => rfl⟩
        exact steps_nil
      · rintro b a w' hall ⟨b1_, s2_, s7_, s8_, n6_, m1_, m6_, m9_, ha, Q_HW, Q_HP, Q_HD, Q_HM0, Q_HA0, Q_HS1, Q_HM1, Q_HA1, Q_P0_1, Q_X1_, Q_X6_, Q_X9_⟩
        clear HD HP HW
        have hb1_ := hall 1 (by kernel_rfl)
        have hb2_ := hall 2 (by kernel_rfl)
        have hb5_ := hall 5 (by kernel_rfl)
        have hb6_ := hall 6 (by kernel_rfl)
        have hb7_ := hall 7 (by kernel_rfl)
        have hb8_ := hall 8 (by kernel_rfl)
        have hb9_ := hall 9 (by kernel_rfl)
        subst ha
        obtain rfl := Q_X1_ hb1_
        obtain rfl := Q_X6_ hb6_
        obtain rfl := Q_X9_ hb9_
        simp only [putSel, hb1_, hb2_, hb5_, hb6_, hb7_, hb8_, hb9_, if_true, Act.put, List.setIfInBounds_toArray, List.set_cons_zero, List.set_cons_succ]
        have HW := Aside0.mk Q_HW
        clear Q_HW
        have HP := Aside0.mk Q_HP
        clear Q_HP
        clear Q_HD
        clear Q_HM0
        clear Q_HA0
        clear Q_HS1
        clear Q_HM1
        have HA1 := Aside0.mk (Q_HA1 hb8_)
        clear Q_HA1
        clear Q_P0_1
        clear hall hb1_ hb2_ hb5_ hb6_ hb7_ hb8_ hb9_
        go_wp2
        go_ret
        refine ⟨_, rfl, ?_, below_step HB.out HW.out⟩
        rw [HE2.out]
        exact Kd.R_lower HA1.out HB.out.size
    · have HE2 : Hid (aW (nm, true, n, tx) = pr ++ [1] ++ text8 tx) := Lib.hid (by rw [HE.out, if_pos rfl, List.append_assoc])
      go_upto_region 3 with fail
      clear q1 hlx
      refine start_ (n := 9) (S := fun w' => True) (ds := []) #[false, false, false, false, false, false, false, false, false] (by kernel_rfl) rfl rfl trivial (fun hHeld => ?_)
      refine with_tabW wa3Reg.tab3 wa3Reg.bits3 (fun HT_ HW_ => ?_)
      refine pure_ (i := 0) (N := some 10) (v := ?_) (a' := ?_) #[true, false, false, false, false, false, false, false, false] rfl rfl (any_of HT_.out (by kernel_rfl)) (fun _ _ _ h => h) (Or.inl ⟨by rfl, ?_⟩) ?_ ?_
      rotate_left
      · intro w'
        go_simp
        with_reducible rfl
      rotate_left
      · simp only [Act.put, List.setIfInBounds_toArray, List.set_cons_zero, List.set_cons_succ, i64_w, i32_w]
        rfl
      refine pure_ (i := 3) (N := some 13) (v := ?_) (a' := ?_) #[true, false, false, true, false, false, false, false, false] rfl rfl (any_of HT_.out (by kernel_rfl)) (fun _ _ _ h => h) (Or.inl ⟨by rfl, ?_⟩) ?_ ?_
      rotate_left
      · intro w'
        go_simp
        with_reducible rfl
      rotate_left
      · simp only [Act.put, List.setIfInBounds_toArray, List.set_cons_zero, List.set_cons_succ, i64_w, i32_w]
        rfl
      refine pure_ (i := 4) (N := some 14) (v := ?_) (a' := ?_) #[true, false, false, true, true, false, false, false, false] rfl rfl (any_of HT_.out (by kernel_rfl)) (fun _ _ _ h => h) (Or.inl ⟨by rfl, ?_⟩) ?_ ?_
      rotate_left
      · intro w'
        go_simp
        with_reducible rfl
      rotate_left
      · simp only [Act.put, List.setIfInBounds_toArray, List.set_cons_zero, List.set_cons_succ, i64_w, i32_w]
        rfl
      refine inv_at [1, 2, 5, 6, 7, 8] (fun a0_ b a w' => ∃ (b1_ : Nat) (s2_ : Value) (s6_ : Value) (s7_ : Value) (m1_ : Value) (m8_ : Value), a = putSel a0_ b [(1, 11, m1_), (2, 12, s2_), (5, 15, .string tx), (6, 16, s6_), (7, 17, s7_), (8, 2, m8_)] ∧ (Below wd.heap.size wd w') ∧ (w'.heap[w.heap.size]? = some (.cells #[.string nm, .bool true, .int .i64 n, .string tx] 59 (0, 0))) ∧ (b 2 = false → Kd.R (Kd.int .u8) 5 w' wd.heap.size (fun _ => True) (u3) (pr)) ∧ (b 1 = true → b 2 = false → Kd.R (Kd.int .u8) 5 w' wd.heap.size (fun _ => True) (.slice (some ⟨b1_, 0, none⟩) 1 1) ([1])) ∧ (b 2 = true → b 7 = false → Kd.R (Kd.int .u8) 5 w' wd.heap.size (fun _ => True) (s2_) (pr ++ [1])) ∧ (b 6 = true → b 7 = false → Kd.R (Kd.int .u8) 5 w' wd.heap.size (fun _ => True) (s6_) (text8 tx)) ∧ (b 7 = true → Kd.R (Kd.int .u8) 5 w' wd.heap.size (fun _ => True) (s7_) (pr ++ [1] ++ text8 tx)) ∧ (b 6 = true → b 2 = false → Far (u3) (s6_)) ∧ (b 1 = true → (m1_ : Value) = .slice (some ⟨b1_, 0, none⟩) 1 1) ∧ (b 8 = true → (m8_ : Value) = s7_)) HT_.out HW_.out (by kernel_rfl) (by kernel_rfl) ?_ ?_ ?_
      · exact ⟨0, .bool false, .bool false, .bool false, .bool false, .bool false, by simp only [putSel, Bool.false_eq_true, if_false], below_drew HW.out, HP.out, fun _ => HD.out, fun h_ => absurd h_ (by decide), fun h_ => absurd h_ (by decide), fun h_ => absurd h_ (by decide), fun h_ => absurd h_ (by decide), fun h_ => absurd h_ (by decide), fun h_ => absurd h_ (by decide), fun h_ => absurd h_ (by decide)⟩
      · skip
        clear HD HP HW
        refine steps_cons ?_ ?_
        · rintro b a w' ⟨b1_, s2_, s6_, s7_, m1_, m8_, ha, Q_HW, Q_HP, Q_HD, Q_HM0, Q_HA0, Q_HM1, Q_HA1, Q_P0_1, Q_X1_, Q_X8_⟩ hb_ hon hoff
          refine ⟨_, rfl, fun K hK => ?_⟩
          replace ha := Aside0.mk ha
          have HW := Aside0.mk Q_HW
          have HP := Aside0.mk Q_HP
          have HD := Aside0.mk (Q_HD (hoff 2 (by kernel_rfl)))
          refine value_ (w1 := w'.alloc (.cells #[.int .u8 (1)] 5)) (v := .slice (some ⟨w'.heap.size, 0, none⟩) 1 1) (by rfl) rfl (by go_simp) ?_
          refine hK.out _ _ ⟨w'.heap.size, s2_, s6_, s7_, (.slice (some ⟨w'.heap.size, 0, none⟩) 1 1), m8_, (by rw [ha.out]; exact putSel_upk 0 hb_ rfl rfl rfl), below_alloc HW.out _, blk_alloc HP.out _, fun _ => Kd.R_alloc HD.out _, fun _ _ => Kd.R_lower (own_oneR w' _) HW.out.size, fun h0_ _ => absurd ((hoff 2 (by kernel_rfl)).symm.trans h0_) (by decide), fun h0_ _ => absurd ((hoff 6 (by kernel_rfl)).symm.trans h0_) (by decide), fun h0_ => absurd ((hoff 7 (by kernel_rfl)).symm.trans h0_) (by decide), fun h0_ _ => absurd ((hoff 6 (by kernel_rfl)).symm.trans h0_) (by decide), fun _ => rfl, fun h0_ => absurd ((hoff 8 (by kernel_rfl)).symm.trans h0_) (by decide)⟩
        refine steps_cons ?_ ?_
        · rintro b a w' ⟨b1_, s2_, s6_, s7_, m1_, m8_, ha, Q_HW, Q_HP, Q_HD, Q_HM0, Q_HA0, Q_HM1, Q_HA1, Q_P0_1, Q_X1_, Q_X8_⟩ hb_ hon hoff
          refine ⟨_, rfl, fun K hK => ?_⟩
          have e10 : a.tmps[10]? = some (u3) := by rw [ha]; exact (putSel_off rfl).trans rfl
          have e11 : a.tmps[11]? = some (m1_) := by rw [ha]; exact putSel_on (e := (1, 11, m1_)) 0 rfl rfl (hon 1 (by kernel_rfl)) rfl
          rw [Q_X1_ (hon 1 (by kernel_rfl))] at e11
          replace ha := Aside0.mk ha
          have HW := Aside0.mk Q_HW
          have HP := Aside0.mk Q_HP
          have HD := Aside0.mk (Q_HD hb_)
          have HM0 := Aside0.mk (Q_HM0 (hon 1 (by kernel_rfl)) hb_)
          obtain ⟨aR, cR, hs, hcR, hCR⟩ := Kd.R_reads HM0.out
          rw [hs] at e11
          refine cat_step_at (Kd.int .u8) intKM wd w' wd.heap.size (by rfl) (.tmp 10) (.tmp 11) 22 5 (.int .u8 0) 1 rfl Tryd.underlying22 infoU8 rfl (by decide) (by omega) (u3) (pr) ([1]) (aR) (([1]).length) (cR) (eval_of e10) (eval_of e11) (HD.out) (hCR) HW.out HW.out.size (by first | omega | (simp only [List.length_append, List.length_cons, List.length_nil, be8s_len]; omega)) ?_
          intro v1 w1 ho hb hg hat
          refine hK.out _ _ ⟨b1_, v1, s6_, s7_, m1_, m8_, (by rw [ha.out]; exact putSel_upk 1 hb_ rfl rfl rfl), hb, blk_grown HP.out hg (Kd.R_ne HD.out HP.out (by decide)), fun h0_ => absurd ((up_self b 2).symm.trans h0_) (by decide), fun _ h1_ => absurd ((up_self b 2).symm.trans h1_) (by decide), fun _ _ => ho, fun h0_ _ => absurd ((hoff 6 (by kernel_rfl)).symm.trans h0_) (by decide), fun h0_ => absurd ((hoff 7 (by kernel_rfl)).symm.trans h0_) (by decide), fun _ h1_ => absurd ((up_self b 2).symm.trans h1_) (by decide), Q_X1_, fun h0_ => absurd ((hoff 8 (by kernel_rfl)).symm.trans h0_) (by decide)⟩
        refine steps_cons ?_ ?_
        · rintro b a w' ⟨b1_, s2_, s6_, s7_, m1_, m8_, ha, Q_HW, Q_HP, Q_HD, Q_HM0, Q_HA0, Q_HM1, Q_HA1, Q_P0_1, Q_X1_, Q_X8_⟩ hb_ hon hoff
          refine ⟨_, rfl, fun K hK => ?_⟩
          have e14 : a.tmps[14]? = some (.pointer (some ⟨w.heap.size, 3, none⟩)) := by rw [ha]; exact (putSel_off rfl).trans rfl
          replace ha := Aside0.mk ha
          have HW := Aside0.mk Q_HW
          have HP := Aside0.mk Q_HP
          have q0 := (blk_cell HP.out 3).trans (rfl : _ = some (Value.string tx))
          refine value_ (w1 := w') (v := .string tx) (by rfl) rfl ?_ ?_
          · go_simp
            (try simp only [i64_w])
            try rfl
          refine hK.out _ _ ⟨b1_, s2_, s6_, s7_, m1_, m8_, (by rw [ha.out]; exact putSel_upk 2 hb_ rfl rfl rfl), Q_HW, Q_HP, Q_HD, Q_HM0, Q_HA0, fun h0_ _ => absurd ((hoff 6 (by kernel_rfl)).symm.trans h0_) (by decide), fun h0_ => absurd ((hoff 7 (by kernel_rfl)).symm.trans h0_) (by decide), fun h0_ _ => absurd ((hoff 6 (by kernel_rfl)).symm.trans h0_) (by decide), Q_X1_, fun h0_ => absurd ((hoff 8 (by kernel_rfl)).symm.trans h0_) (by decide)⟩
        refine steps_cons ?_ ?_
        · rintro b a w' ⟨b1_, s2_, s6_, s7_, m1_, m8_, ha, Q_HW, Q_HP, Q_HD, Q_HM0, Q_HA0, Q_HM1, Q_HA1, Q_P0_1, Q_X1_, Q_X8_⟩ hb_ hon hoff
          refine ⟨_, rfl, fun K hK => ?_⟩
          have e15 : a.tmps[15]? = some (.string tx) := by rw [ha]; exact putSel_on (e := (5, 15, .string tx)) 2 rfl rfl (hon 5 (by kernel_rfl)) rfl
          replace ha := Aside0.mk ha
          have HW := Aside0.mk Q_HW
          have HP := Aside0.mk Q_HP
          have HA0 := Aside0.mk (Q_HA0 (hon 2 (by kernel_rfl)) (hoff 7 (by kernel_rfl)))
          refine goes_ Tryd.func77 (by kernel_rfl) rfl #[.string tx] (by rfl) rfl rfl (by simp only [List.map_toArray, List.map_cons, List.map_nil, Act.eval, Array.getD_eq_getD_getElem?, Option.getD_some, e15]) ?_
          refine (txt_calls tx w').mono ?_
          rintro e w2 ⟨v2, rfl, hR, hB⟩
          refine ⟨_, rfl, ?_⟩
          refine hK.out _ _ ⟨b1_, s2_, v2, s7_, m1_, m8_, (by rw [ha.out]; exact putSel_upk 3 hb_ rfl rfl rfl), below_step HW.out hB, blk_below HP.out hB, fun h0_ => absurd ((hon 2 (by kernel_rfl)).symm.trans h0_) (by decide), fun _ h1_ => absurd ((hon 2 (by kernel_rfl)).symm.trans h1_) (by decide), fun _ _ => Kd.R_below HA0.out hB, fun _ _ => Kd.R_lower hR HW.out.size, fun h0_ => absurd ((hoff 7 (by kernel_rfl)).symm.trans h0_) (by decide), fun _ h1_ => absurd ((hon 2 (by kernel_rfl)).symm.trans h1_) (by decide), Q_X1_, fun h0_ => absurd ((hoff 8 (by kernel_rfl)).symm.trans h0_) (by decide)⟩
        refine steps_cons ?_ ?_
        · rintro b a w' ⟨b1_, s2_, s6_, s7_, m1_, m8_, ha, Q_HW, Q_HP, Q_HD, Q_HM0, Q_HA0, Q_HM1, Q_HA1, Q_P0_1, Q_X1_, Q_X8_⟩ hb_ hon hoff
          refine ⟨_, rfl, fun K hK => ?_⟩
          have e12 : a.tmps[12]? = some (s2_) := by rw [ha]; exact putSel_on (e := (2, 12, s2_)) 1 rfl rfl (hon 2 (by kernel_rfl)) rfl
          have e16 : a.tmps[16]? = some (s6_) := by rw [ha]; exact putSel_on (e := (6, 16, s6_)) 3 rfl rfl (hon 6 (by kernel_rfl)) rfl
          replace ha := Aside0.mk ha
          have HW := Aside0.mk Q_HW
          have HP := Aside0.mk Q_HP
          have HA0 := Aside0.mk (Q_HA0 (hon 2 (by kernel_rfl)) hb_)
          have HM1 := Aside0.mk (Q_HM1 (hon 6 (by kernel_rfl)) hb_)
          obtain ⟨aR, cR, hs, hcR, hCR⟩ := Kd.R_reads HM1.out
          rw [hs] at e16
          refine cat_step_at (Kd.int .u8) intKM wd w' wd.heap.size (by rfl) (.tmp 12) (.tmp 16) 22 5 (.int .u8 0) 1 rfl Tryd.underlying22 infoU8 rfl (by decide) (by omega) (s2_) (pr ++ [1]) (text8 tx) (aR) ((text8 tx).length) (cR) (eval_of e12) (eval_of e16) (HA0.out) (hCR) HW.out HW.out.size (by first | omega | (simp only [List.length_append, List.length_cons, List.length_nil, be8s_len]; omega)) ?_
          intro v1 w1 ho hb hg hat
          refine hK.out _ _ ⟨b1_, s2_, s6_, v1, m1_, m8_, (by rw [ha.out]; exact putSel_upk 4 hb_ rfl rfl rfl), hb, blk_grown HP.out hg (Kd.R_ne HA0.out HP.out (by decide)), fun h0_ => absurd ((hon 2 (by kernel_rfl)).symm.trans h0_) (by decide), fun _ h1_ => absurd ((hon 2 (by kernel_rfl)).symm.trans h1_) (by decide), fun _ h1_ => absurd ((up_self b 7).symm.trans h1_) (by decide), fun _ h1_ => absurd ((up_self b 7).symm.trans h1_) (by decide), fun _ => ho, fun _ h1_ => absurd ((hon 2 (by kernel_rfl)).symm.trans h1_) (by decide), Q_X1_, fun h0_ => absurd ((hoff 8 (by kernel_rfl)).symm.trans h0_) (by decide)⟩
        refine steps_cons ?_ ?_
        · rintro b a w' ⟨b1_, s2_, s6_, s7_, m1_, m8_, ha, Q_HW, Q_HP, Q_HD, Q_HM0, Q_HA0, Q_HM1, Q_HA1, Q_P0_1, Q_X1_, Q_X8_⟩ hb_ hon hoff
          refine ⟨_, rfl, fun K hK => ?_⟩
          have e17 : a.tmps[17]? = some (s7_) := by rw [ha]; exact putSel_on (e := (7, 17, s7_)) 4 rfl rfl (hon 7 (by kernel_rfl)) rfl
          replace ha := Aside0.mk ha
          have HW := Aside0.mk Q_HW
          have HP := Aside0.mk Q_HP
          have HA1 := Aside0.mk (Q_HA1 (hon 7 (by kernel_rfl)))
          refine value_ (w1 := w') (v := s7_) (by rfl) rfl ?_ ?_
          · go_simp
            (try simp only [i64_w])
            try rfl
          refine hK.out _ _ ⟨b1_, s2_, s6_, s7_, m1_, (s7_), (by rw [ha.out]; exact putSel_upk 5 hb_ rfl rfl rfl), Q_HW, Q_HP, fun h0_ => absurd ((hon 2 (by kernel_rfl)).symm.trans h0_) (by decide), fun _ h1_ => absurd ((hon 2 (by kernel_rfl)).symm.trans h1_) (by decide), fun _ h1_ => absurd ((hon 7 (by kernel_rfl)).symm.trans h1_) (by decide), fun _ h1_ => absurd ((hon 7 (by kernel_rfl)).symm.trans h1_) (by decide), Q_HA1, fun _ h1_ => absurd ((hon 2 (by kernel_rfl)).symm.trans h1_) (by decide), Q_X1_, fun _ => rfl⟩
        exact steps_nil
      · rintro b a w' hall ⟨b1_, s2_, s6_, s7_, m1_, m8_, ha, Q_HW, Q_HP, Q_HD, Q_HM0, Q_HA0, Q_HM1, Q_HA1, Q_P0_1, Q_X1_, Q_X8_⟩
        clear HD HP HW
        have hb1_ := hall 1 (by kernel_rfl)
        have hb2_ := hall 2 (by kernel_rfl)
        have hb5_ := hall 5 (by kernel_rfl)
        have hb6_ := hall 6 (by kernel_rfl)
        have hb7_ := hall 7 (by kernel_rfl)
        have hb8_ := hall 8 (by kernel_rfl)
        subst ha
        obtain rfl := Q_X1_ hb1_
        obtain rfl := Q_X8_ hb8_
        simp only [putSel, hb1_, hb2_, hb5_, hb6_, hb7_, hb8_, if_true, Act.put, List.setIfInBounds_toArray, List.set_cons_zero, List.set_cons_succ]
        have HW := Aside0.mk Q_HW
        clear Q_HW
        have HP := Aside0.mk Q_HP
        clear Q_HP
        clear Q_HD
        clear Q_HM0
        clear Q_HA0
        clear Q_HM1
        have HA1 := Aside0.mk (Q_HA1 hb7_)
        clear Q_HA1
        clear Q_P0_1
        clear hall hb1_ hb2_ hb5_ hb6_ hb7_ hb8_
        go_wp2
        go_ret
        refine ⟨_, rfl, ?_, below_step HB.out HW.out⟩
        rw [HE2.out]
        exact Kd.R_lower HA1.out HB.out.size
end Go.Proofs.YtbplemhjhpfkgaaDoor.Wr

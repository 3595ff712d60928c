/-
 wire.constraint: a constraint's bytes.
-/
import Derived.Test.YtbplemhjhpfkgaaDoorZWirePure
import Derived.Test.YtbplemhjhpfkgaaDoorZWords
namespace Go.Proofs.YtbplemhjhpfkgaaDoor.Wr
open Go.RowKit YtbplemhjhpfkgaaDoorW.PrintWords YtbplemhjhpfkgaaDoorW.PrintLast YtbplemhjhpfkgaaDoorW.PrintMore Rd
open Go.Proofs.YtbplemhjhpfkgaaDoor.Cd (Co At kCo kAt at_Co at_At C_blk64 text8_le)
set_option linter.unusedVariables false
set_option linter.unusedSimpArgs false
def cW (x : Co) : List Int := text8 x.1 ++ [x.2.1 % 256] ++ (if x.2.1 = 1 then be8s [x.2.2.1, x.2.2.2.1] else text8 x.2.2.2.2)
def wcReg.T1 : Bool × List (List Nat × List Nat) := (true, [([], []), ([0], [0]), ([1], [1]), ([], []), ([3], [3]), ([4], [4]), ([5], [5]), ([2, 6, 2], [2, 6]), ([7, 7, 0, 1, 2, 3, 4, 5, 6, 7], [7])])
def wcReg.B1 : List Nat := [0, 1, 3, 0, 8, 24, 56, 127, 255]
theorem wcReg.tab1 : rtab .any (opsOf Tryd.f85 1) = wcReg.T1 := by kernel_rfl
theorem wcReg.bits1 : waitsOk wcReg.T1.2 wcReg.B1 = true := by kernel_rfl
set_option maxRecDepth 100000 in
set_option maxHeartbeats 8000000 in
theorem con_calls (nm : ByteArray) (kd lo hi : Int) (tx : ByteArray) (w : World) :
  Calls Tryd.prog 85 #[.agg #[.string nm, .int .i64 kd, .int .i64 lo, .int .i64 hi, .string tx]] w fun e w' => ∃ v, e = .returned v ∧ Kd.R (Kd.int .u8) 5 w' w.heap.size (fun _ => True) v (cW (nm, kd, lo, hi, tx)) ∧ Below w.heap.size w w' := by
 have HP := sd (blk_new w (.cells #[.string nm, .int .i64 kd, .int .i64 lo, .int .i64 hi, .string tx] 44)); have HB := sd (below_alloc (Below.refl w.heap.size w) (.cells #[.string nm, .int .i64 kd, .int .i64 lo, .int .i64 hi, .string tx] 44)); have htn := text8_le nm; have htt := text8_le tx
 go_enter Tryd.func85, Tryd.ntmps85
 go_upto_region 1 with fail
 generalize (w.alloc (.cells #[.string nm, .int .i64 kd, .int .i64 lo, .int .i64 hi, .string tx] 44)) = wd at *; have HW := sd (Below.refl wd.heap.size wd)
 go_cut [3] (fun v wx => Aside0 (Kd.R (Kd.int .u8) 5 wx wd.heap.size (fun _ => True) v (text8 nm ++ [kd % 256])) ∧ Aside0 (wx.heap[w.heap.size]? = some (.cells #[.string nm, .int .i64 kd, .int .i64 lo, .int .i64 hi, .string tx] 44 (0, 0))) ∧ Aside0 (Below wd.heap.size wd wx))
 case first =>
  refine start_ (n := 9) (S := fun w' => True) (ds := []) #[false, false, false, false, false, false, false, false, false] (by kernel_rfl) rfl rfl trivial (fun hHeld => ?_); refine with_tabW wcReg.tab1 wcReg.bits1 (fun HT_ HW_ => ?_); refine pure_ (i := 0) (N := some 4) (v := ?_) (a' := ?_) #[true, false, false, false, false, false, false, false, false] rfl rfl (any_of HT_.out (by kernel_rfl)) (fun _ _ _ h => h) (Or.inl ⟨by rfl, ?_⟩) ?_ ?_
  rotate_left
  ·intro w'; go_simp
   with_reducible rfl
  rotate_left
  ·simp only [Act.put, List.setIfInBounds_toArray, List.set_cons_zero, List.set_cons_succ, i64_w, i32_w]; rfl
  refine pure_ (i := 3) (N := some 7) (v := ?_) (a' := ?_) #[true, false, false, true, false, false, false, false, false] rfl rfl (any_of HT_.out (by kernel_rfl)) (fun _ _ _ h => h) (Or.inl ⟨by rfl, ?_⟩) ?_ ?_
  rotate_left
  ·intro w'; go_simp
   with_reducible rfl
  rotate_left
  ·simp only [Act.put, List.setIfInBounds_toArray, List.set_cons_zero, List.set_cons_succ, i64_w, i32_w]; rfl
  refine inv_at [1, 2, 4, 5, 6, 7, 8] (fun a0_ b a w' => ∃ (b_ : Nat) (s2_ : Value) (s7_ : Value) (m6_ : Value) (m8_ : Value), a = putSel a0_ b [(1, 5, .string nm), (2, 6, s2_), (4, 8, .int .i64 kd), (5, 9, .int .u8 (kd % 256)), (6, 10, m6_), (7, 11, s7_), (8, 3, m8_)] ∧ (Below wd.heap.size wd w') ∧ (w'.heap[w.heap.size]? = some (.cells #[.string nm, .int .i64 kd, .int .i64 lo, .int .i64 hi, .string tx] 44 (0, 0))) ∧ (b 2 = true → b 7 = false → Kd.R (Kd.int .u8) 5 w' wd.heap.size (fun _ => True) (s2_) (text8 nm)) ∧ (b 6 = true → b 7 = false → Kd.R (Kd.int .u8) 5 w' wd.heap.size (fun _ => True) (.slice (some ⟨b_, 0, none⟩) 1 1) ([kd % 256])) ∧ (b 7 = true → Kd.R (Kd.int .u8) 5 w' wd.heap.size (fun _ => True) (s7_) (text8 nm ++ [kd % 256])) ∧ (b 6 = true → (m6_ : Value) = .slice (some ⟨b_, 0, none⟩) 1 1) ∧ (b 8 = true → (m8_ : Value) = s7_)) HT_.out HW_.out (by kernel_rfl) (by kernel_rfl) ?_ ?_ ?_
  ·exact ⟨0, .bool false, .bool false, .bool false, .bool false, by simp only [putSel, Bool.false_eq_true, if_false], below_drew HW.out, HP.out, fun h_ => absurd h_ (by decide), fun h_ => absurd h_ (by decide), fun h_ => absurd h_ (by decide), fun h_ => absurd h_ (by decide), fun h_ => absurd h_ (by decide)⟩
  ·skip
   clear HP HW; refine steps_cons ?_ ?_
   ·rintro b a w' ⟨b_, s2_, s7_, m6_, m8_, ha, QHW, QHP, QH2, QH6, QH7, QX6_, QX8_⟩ hb_ hon hoff; refine ⟨_, rfl, fun K hK => ?_⟩; have e4 := ef ha 4 (.pointer (some ⟨w.heap.size, 0, none⟩)); replace ha := sd ha; have HW := sd QHW; have HP := sd QHP; have q0 := (blk_cell HP.out 0).trans (rfl : _ = some (Value.string nm)); refine value_ (w1 := w') (v := .string nm) (by rfl) rfl ?_ ?_
    ·go_simp; (try simp only [i64_w]); try rfl
    refine hK.out _ _ ⟨b_, s2_, s7_, m6_, m8_, uk ha.out 0 hb_ rfl rfl rfl, QHW, QHP, fun h0_ _ => aF hoff 2 h0_, QH6, fun h0_ => aF hoff 7 h0_, QX6_, fun h0_ => aF hoff 8 h0_⟩
   refine steps_cons ?_ ?_
   ·rintro b a w' ⟨b_, s2_, s7_, m6_, m8_, ha, QHW, QHP, QH2, QH6, QH7, QX6_, QX8_⟩ hb_ hon hoff; refine ⟨_, rfl, fun K hK => ?_⟩; have e5 := ek ha 0 1 5 (.string nm) hon; replace ha := sd ha; have HW := sd QHW; have HP := sd QHP; refine goes_ Tryd.func77 (by kernel_rfl) rfl #[.string nm] (by rfl) rfl rfl (ev1 e5) ?_; refine (txt_calls nm w').mono ?_; rintro e w2 ⟨v2, rfl, hR, hB⟩; refine ⟨_, rfl, ?_⟩; refine hK.out _ _ ⟨b_, v2, s7_, m6_, m8_, uk ha.out 1 hb_ rfl rfl rfl, below_step HW.out hB, blk_below HP.out hB, fun _ _ => Kd.R_lower hR HW.out.size, fun h0_ h1_ => Kd.R_below (QH6 h0_ h1_) hB, fun h0_ => aF hoff 7 h0_, QX6_, fun h0_ => aF hoff 8 h0_⟩
   refine steps_cons ?_ ?_
   ·rintro b a w' ⟨b_, s2_, s7_, m6_, m8_, ha, QHW, QHP, QH2, QH6, QH7, QX6_, QX8_⟩ hb_ hon hoff; refine ⟨_, rfl, fun K hK => ?_⟩; have e7 := ef ha 7 (.pointer (some ⟨w.heap.size, 1, none⟩)); replace ha := sd ha; have HW := sd QHW; have HP := sd QHP; have q0 := (blk_cell HP.out 1).trans (rfl : _ = some (Value.int .i64 kd)); refine value_ (w1 := w') (v := .int .i64 kd) (by rfl) rfl ?_ ?_
    ·go_simp; (try simp only [i64_w]); try rfl
    refine hK.out _ _ ⟨b_, s2_, s7_, m6_, m8_, uk ha.out 2 hb_ rfl rfl rfl, QHW, QHP, QH2, fun h0_ _ => aF hoff 6 h0_, fun h0_ => aF hoff 7 h0_, fun h0_ => aF hoff 6 h0_, fun h0_ => aF hoff 8 h0_⟩
   refine steps_cons ?_ ?_
   ·rintro b a w' ⟨b_, s2_, s7_, m6_, m8_, ha, QHW, QHP, QH2, QH6, QH7, QX6_, QX8_⟩ hb_ hon hoff; refine ⟨_, rfl, fun K hK => ?_⟩; have e8 := ek ha 2 4 8 (.int .i64 kd) hon; replace ha := sd ha; have HW := sd QHW; have HP := sd QHP; refine value_ (w1 := w') (v := .int .u8 (kd % 256)) (by rfl) rfl ?_ ?_
    ·go_simp; (try simp only [i64_w]); try rfl
    refine hK.out _ _ ⟨b_, s2_, s7_, m6_, m8_, uk ha.out 3 hb_ rfl rfl rfl, QHW, QHP, QH2, fun h0_ _ => aF hoff 6 h0_, fun h0_ => aF hoff 7 h0_, fun h0_ => aF hoff 6 h0_, fun h0_ => aF hoff 8 h0_⟩
   refine steps_cons ?_ ?_
   ·rintro b a w' ⟨b_, s2_, s7_, m6_, m8_, ha, QHW, QHP, QH2, QH6, QH7, QX6_, QX8_⟩ hb_ hon hoff; refine ⟨_, rfl, fun K hK => ?_⟩; have e9 := ek ha 3 5 9 (.int .u8 (kd % 256)) hon; replace ha := sd ha; have HW := sd QHW; have HP := sd QHP; refine value_ (w1 := w'.alloc (.cells #[.int .u8 (kd % 256)] 5)) (v := .slice (some ⟨w'.heap.size, 0, none⟩) 1 1) (by rfl) rfl (by go_simp) ?_; refine hK.out _ _ ⟨w'.heap.size, s2_, s7_, (.slice (some ⟨w'.heap.size, 0, none⟩) 1 1), m8_, uk ha.out 4 hb_ rfl rfl rfl, below_alloc HW.out _, blk_alloc HP.out _, fun h0_ h1_ => Kd.R_alloc (QH2 h0_ h1_) _, fun _ _ => Kd.R_lower (own_oneR w' _) HW.out.size, fun h0_ => aF hoff 7 h0_, fun _ => rfl, fun h0_ => aF hoff 8 h0_⟩
   refine steps_cons ?_ ?_
   ·rintro b a w' ⟨b_, s2_, s7_, m6_, m8_, ha, QHW, QHP, QH2, QH6, QH7, QX6_, QX8_⟩ hb_ hon hoff; refine ⟨_, rfl, fun K hK => ?_⟩; have e6 := ek ha 1 2 6 (s2_) hon; have e10 := ek ha 4 6 10 (m6_) hon; rw [QX6_ (aC hon 6)] at e10; replace ha := sd ha; have HW := sd QHW; have HP := sd QHP; have H2 := sd (QH2 (aC hon 2) hb_); have H6 := sd (QH6 (aC hon 6) hb_); obtain ⟨aR, cR, hs, hcR, hCR⟩ := Kd.R_reads H6.out; rw [hs] at e10; refine cat_step_at (Kd.int .u8) intKM wd w' wd.heap.size (by rfl) (.tmp 6) (.tmp 10) 22 5 (.int .u8 0) 1 rfl Tryd.underlying22 infoU8 rfl (by decide) (by omega) (s2_) (text8 nm) ([kd % 256]) (aR) (([kd % 256]).length) (cR) (eval_of e6) (eval_of e10) (H2.out) (hCR) HW.out HW.out.size (by simp only [List.length_cons, List.length_nil]; omega) ?_; intro v1 w1 ho hb hg hat; refine hK.out _ _ ⟨b_, s2_, v1, m6_, m8_, uk ha.out 5 hb_ rfl rfl rfl, hb, blk_grown HP.out hg (Kd.R_ne H2.out HP.out (by decide)), fun _ h1_ => aU b 7 h1_, fun _ h1_ => aU b 7 h1_, fun _ => ho, QX6_, fun h0_ => aF hoff 8 h0_⟩
   refine steps_cons ?_ ?_
   ·rintro b a w' ⟨b_, s2_, s7_, m6_, m8_, ha, QHW, QHP, QH2, QH6, QH7, QX6_, QX8_⟩ hb_ hon hoff; refine ⟨_, rfl, fun K hK => ?_⟩; have e11 := ek ha 5 7 11 (s7_) hon; replace ha := sd ha; have HW := sd QHW; have HP := sd QHP; have H7 := sd (QH7 (aC hon 7)); refine value_ (w1 := w') (v := s7_) (by rfl) rfl ?_ ?_
    ·go_simp; (try simp only [i64_w]); try rfl
    refine hK.out _ _ ⟨b_, s2_, s7_, m6_, (s7_), uk ha.out 6 hb_ rfl rfl rfl, QHW, QHP, fun _ h1_ => aT hon 7 h1_, fun _ h1_ => aT hon 7 h1_, QH7, QX6_, fun _ => rfl⟩
   exact steps_nil
  ·rintro b a w' hall ⟨b_, s2_, s7_, m6_, m8_, ha, QHW, QHP, QH2, QH6, QH7, QX6_, QX8_⟩; clear HP HW; have hb1_ := hall 1 (by kernel_rfl); have hb2_ := hall 2 (by kernel_rfl); have hb4_ := hall 4 (by kernel_rfl); have hb5_ := hall 5 (by kernel_rfl); have hb6_ := hall 6 (by kernel_rfl); have hb7_ := hall 7 (by kernel_rfl); have hb8_ := hall 8 (by kernel_rfl); subst ha; obtain rfl := QX6_ hb6_; obtain rfl := QX8_ hb8_; simp only [putSel, hb1_, hb2_, hb4_, hb5_, hb6_, hb7_, hb8_, if_true, Act.put, List.setIfInBounds_toArray, List.set_cons_zero, List.set_cons_succ]; have HW := sd QHW; clear QHW; have HP := sd QHP; clear QHP; clear QH2; clear QH6; have H7 := sd (QH7 hb7_); clear QH7; clear hall hb1_ hb2_ hb4_ hb5_ hb6_ hb7_ hb8_; go_wp2; go_meet
   case rel => exact ⟨H7, HP, HW⟩
 case rest =>
  obtain ⟨H7, HP1, HW1⟩ := hcut; clear HW HP; have hl7 : (text8 nm ++ [kd % 256]).length ≤ 257 := by simp only [List.length_append, List.length_cons, List.length_nil]; omega
  obtain ⟨b7, hb7⟩ : ∃ b, text8 nm ++ [kd % 256] = b := ⟨_, rfl⟩; have HE : Hid (cW (nm, kd, lo, hi, tx) = b7 ++ (if kd = 1 then be8s [lo, hi] else text8 tx)) := Lib.hid (by rw [← hb7]; rfl); rw [hb7] at H7 hl7; clear hb7; have q1 := blk_cell HP1.out 1; have q2 := blk_cell HP1.out 2; have q3 := blk_cell HP1.out 3; have q4 := blk_cell HP1.out 4; have hl := blk_lt HP1.out
  by_cases k1 : kd = 1
  ·subst k1; have HE2 : Hid (cW (nm, 1, lo, hi, tx) = b7 ++ be8s [lo, hi]) := Lib.hid (by rw [HE.out, if_pos rfl]); have hC : Kd.C (Kd.int .i64) (wc.alloc (.cells #[.int .i64 lo, .int .i64 hi] 3)) (some ⟨wc.heap.size, 0, none⟩) ([lo, hi] : List Int).length [lo, hi] := C_lit .i64 [lo, hi] wc 3 (by simp); have HN := sd (num_calls (some ⟨wc.heap.size, 0, none⟩) 2 [lo, hi] _ hC (by simp)); have HRa := sd (Kd.R_alloc H7.out (.cells #[.int .i64 lo, .int .i64 hi] 3)); have HWa := sd (below_alloc HW1.out (.cells #[.int .i64 lo, .int .i64 hi] 3)); clear hC; go_wp2_with (first | (go_at_call 66; refine HN.out.mono ?_; rintro e w3 ⟨v3, rfl, hR, hB⟩; obtain ⟨aT, cT, rfl, hcT, hCT⟩ := Kd.R_reads hR; have HCT := sd hCT; have HO3 := sd (Kd.R_below HRa.out hB); have HW4 := sd (below_step HWa.out hB); clear hR hB hCT hcT) | ((with_reducible refine gate_builtin (b := .append) (xs := #[.tmp 15, .tmp 21]) rfl ?_); at_builtin; refine Kd.R_append_row (Value.int .u8) (0 : Int) (h1 := fun _ => rfl) (w0 := wd) (wd.heap.size) rfl (.tmp 15) (.tmp 21) 22 5 (.int .u8 0) 1 rfl Tryd.underlying22 infoU8 rfl (by decide) (u3) (b7) (be8s [lo, hi]) (aT) ((be8s [lo, hi]).length) (cT) (fun _ => True) rfl rfl (fun _ _ => trivial) ?aO ?aR ?aB ?aS ?aL ?_; (case aO => exact HO3.out); (case aR => exact HCT.out); (case aB => exact HW4.out); (case aS => exact (below_size (by exact HW4.out))); (case aL => (simp only [be8s_len, List.length_cons, List.length_nil]; omega)); intro v1 w1 ho hb hg hat; have HO4 := sd ho; have HW5 := sd hb; clear ho hb hg hat)); go_ret; refine ⟨_, rfl, ?_, below_step HB.out HW5.out⟩; rw [HE2.out]; exact Kd.R_lower HO4.out HB.out.size
  ·have kb : (kd == 1) = false := by simp [k1]
   have HE2 : Hid (cW (nm, kd, lo, hi, tx) = b7 ++ text8 tx) := Lib.hid (by rw [HE.out, if_neg k1]); clear k1; go_wp2_with (first | (go_at_call 77; refine (txt_calls tx _).mono ?_; rintro e w3 ⟨v3, rfl, hR, hB⟩; obtain ⟨aT, cT, rfl, hcT, hCT⟩ := Kd.R_reads hR; have HCT := sd hCT; have HO3 := sd (Kd.R_below H7.out hB); have HW4 := sd (below_step HW1.out hB); clear hR hB hCT hcT) | ((with_reducible refine gate_builtin (b := .append) (xs := #[.tmp 23, .tmp 26]) rfl ?_); at_builtin; refine Kd.R_append_row (Value.int .u8) (0 : Int) (h1 := fun _ => rfl) (w0 := wd) (wd.heap.size) rfl (.tmp 23) (.tmp 26) 22 5 (.int .u8 0) 1 rfl Tryd.underlying22 infoU8 rfl (by decide) (u3) (b7) (text8 tx) (aT) ((text8 tx).length) (cT) (fun _ => True) rfl rfl (fun _ _ => trivial) ?aO ?aR ?aB ?aS ?aL ?_; (case aO => exact HO3.out); (case aR => exact HCT.out); (case aB => exact HW4.out); (case aS => exact (below_size (by exact HW4.out))); (case aL => omega); intro v1 w1 ho hb hg hat; have HO4 := sd ho; have HW5 := sd hb; clear ho hb hg hat)); go_ret; refine ⟨_, rfl, ?_, below_step HB.out HW5.out⟩; rw [HE2.out]; exact Kd.R_lower HO4.out HB.out.size
end Go.Proofs.YtbplemhjhpfkgaaDoor.Wr

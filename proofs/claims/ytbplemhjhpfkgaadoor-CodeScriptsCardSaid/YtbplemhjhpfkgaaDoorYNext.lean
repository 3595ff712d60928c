/-
 code.next at the bytes of an operation that is right.
-/
import Derived.Test.YtbplemhjhpfkgaaDoorYPart18
set_option linter.unusedVariables false
set_option linter.unusedSimpArgs false
namespace Go.Proofs.YtbplemhjhpfkgaaDoor.Cd
open Go.RowKit YtbplemhjhpfkgaaDoorW.PrintWords YtbplemhjhpfkgaaDoorW.PrintLast YtbplemhjhpfkgaaDoorW.PrintMore Rd
open Go.Proofs.YtbplemhjhpfkgaaDoor.Ft (Door Chain new_chain kind_calls chain_iface)
def nx3Reg.T3 : Bool × List (List Nat × List Nat) := (true, [([], []), ([0], [0]), ([1], [1]), ([2, 2], [2]), ([], []), ([4], [4]), ([3, 3, 0, 1, 2, 3], [3]), ([5, 6, 0, 1, 2, 3, 4, 5, 6], [5])])
def nx3Reg.B3 : List Nat := [0, 1, 3, 7, 0, 16, 15, 127]
theorem nx3Reg.tab3 : rtab .any (opsOf Tryd.f67 3) = nx3Reg.T3 := by kernel_rfl
theorem nx3Reg.bits3 : waitsOk nx3Reg.T3.2 nx3Reg.B3 = true := by kernel_rfl
def nx7Reg.T7 : Bool × List (List Nat × List Nat) := (true, [([], []), ([], []), ([], []), ([1, 2], [1, 2]), ([], []), ([0, 0], [0]), ([3, 5, 0, 1, 2, 3, 5], [3]), ([4, 6, 0, 1, 2, 3, 4, 5, 6], [4])])
def nx7Reg.B7 : List Nat := [0, 0, 0, 6, 0, 1, 47, 127]
theorem nx7Reg.tab7 : rtab .any (opsOf Tryd.f67 7) = nx7Reg.T7 := by kernel_rfl
theorem nx7Reg.bits7 : waitsOk nx7Reg.T7.2 nx7Reg.B7 = true := by kernel_rfl
set_option maxRecDepth 100000 in
set_option maxHeartbeats 16000000 in
theorem next_ok (A : Option Addr) (c : Nat) (o : OpD) (rest : List Int) (w : World) (hr : Kd.C (Kd.int .u8) w A (sB o ++ rest).length (sB o ++ rest)) (hc : (sB o ++ rest).length ≤ c) (hm : (sB o ++ rest).length ≤ 140737488355328) (hy : Byt rest) (hR : rightD o = true) (hw : WfD o) (hb : Byt o.r) :
  Calls Tryd.prog 67 #[.slice A (sB o ++ rest).length c] w fun e w' => ∃ (x : OpX) (A' : Option Addr) (c' : Nat), x.1 = o ∧ e = .returned (.tuple #[oX x, .slice A' rest.length c', .nilIface]) ∧ rest.length ≤ c' ∧ (∀ W, Kd.C (Kd.int .u8) W A (sB o ++ rest).length (sB o ++ rest) → Kd.C (Kd.int .u8) W A' rest.length rest) ∧ LiesX w' x ∧ PastX w.heap.size x ∧ Below w.heap.size w w' := by
 have hle := oBy_le hR; obtain ⟨ob, hob⟩ : ∃ ob, oBy o = ob := ⟨_, rfl⟩; have eL : sB o ++ rest = be8 (ob.length : Int) ++ (ob ++ rest) := by simp only [sB, hob, List.append_assoc]
 have HDec : Hid (∀ A c W, Kd.C (Kd.int .u8) W A ob.length ob → Calls Tryd.prog 31 #[.slice A ob.length c] W fun e w' => ∃ x : OpX, x.1 = o ∧ e = .returned (.tuple #[.agg #[.int .i64 x.1.k, .int .i64 x.1.c, .int .i64 x.1.q, .int .i64 x.1.h, .int .i64 x.1.a, .int .i64 x.1.t, .slice x.2.1.1 x.1.p.length x.2.1.2, .slice x.2.2.1.1 x.1.s.length x.2.2.1.2, .slice x.2.2.2.1 x.1.r.length x.2.2.2.2], .nilIface]) ∧ LiesX w' x ∧ PastX W.heap.size x ∧ Below W.heap.size W w') :=
  Lib.hid (fun A c W h => by have := decode_ok A c o W (by rw [hob]; exact h) hR hw hb; rw [hob] at this; exact this)
 rw [hob] at hle; rw [eL] at hr hc hm ⊢; clear eL hob hR hw hb; obtain ⟨R1, hR1⟩ : ∃ R1, ob ++ rest = R1 := ⟨_, rfl⟩; have e1 : (be8 (ob.length : Int) ++ R1).drop 8 = R1 := List.drop_left' rfl; have e2 : (be8 (ob.length : Int) ++ R1).take 8 = be8 (ob.length : Int) := List.take_left' rfl; have e3 : R1.take ob.length = ob := by rw [← hR1]; exact List.take_left' rfl
 have e4 : R1.drop ob.length = rest := by rw [← hR1]; exact List.drop_left' rfl
 have e5 : R1.length = ob.length + rest.length := by rw [← hR1, List.length_append]
 rw [hR1] at hr hc hm ⊢; clear hR1; have hL : (be8 (ob.length : Int) ++ R1).length = 8 + R1.length := by rw [List.length_append, be8_len]
 obtain ⟨c8, C8, _⟩ := cut_u8 A c (be8 (ob.length : Int) ++ R1) 8 8 rfl (by omega) (by omega) hc; obtain ⟨A1, d8, D8, l8⟩ := off_u8 A c (be8 (ob.length : Int) ++ R1) 8 (by omega) hc; rw [e1] at d8 D8 l8; rw [e2] at C8; obtain ⟨c9, C9, _⟩ := cut_u8 A1 (c - 8) R1 (ob.length : Int) ob.length (by omega) (by omega) (by omega) l8; obtain ⟨A2, d9, D9, l9⟩ := off_u8 A1 (c - 8) R1 ob.length (by omega) l8; rw [e4] at d9 D9 l9; rw [e3] at C9; have HR := sd hr; have H8 := sd (C8 w hr); have hd8 := D8 w hr; have H9 := sd (C9 w hd8); have HRest := Lib.hid (fun W h => D9 W (D8 W h)); have HRead : Hid (∀ W, Kd.C (Kd.int .u8) W A 8 (be8 (ob.length : Int)) → Calls Tryd.prog 63 #[.slice A 8 c] W fun e w' => ∃ w0 g, e = .returned (.pointer (some ⟨g, 0, none⟩)) ∧ IsRs w0 w' g (be8 (ob.length : Int), false) ∧ Below W.heap.size W w0 ∧ Below w0.heap.size w0 w') := Lib.hid (fun W h => read_calls A c (be8 (ob.length : Int)) W h (be8_by _) (by simp [be8_len])); have HN : Hid (rdN (be8 (ob.length : Int), false) = ((ob.length : Int), ([], false))) := Lib.hid (by have := rdN_be8 (ob.length : Int) ⟨by omega, by omega⟩ []; rwa [List.append_nil] at this); have HB8 := Lib.hid (be8_by (ob.length : Int)); have HL := Lib.hid hL; have h5 : ob.length ≤ R1.length := by omega
 have hd1 : decide (((be8 (ob.length : Int) ++ R1).length : Int) < 8) = false := decide_eq_false (by omega); have hd2 : decide ((ob.length : Int) < 0) = false := decide_eq_false (by omega); have hd3 : decide ((ob.length : Int) > (R1.length : Int)) = false := decide_eq_false (by omega); clear hr hd8 C8 D8 C9 D9 e1 e2 e3 e4 e5 hL; have d8' : ∀ W : World, (Instr.slice 22 (.slice A (be8 (ob.length : Int) ++ R1).length c) (some (.int .i64 8)) none none).run Tryd.prog W = .ok (.slice A1 R1.length (c - 8)) W := d8; clear d8; generalize (be8 (ob.length : Int) ++ R1).length = nL at *; generalize be8 (ob.length : Int) = b8 at HN HB8 H8 HRead HRest; have HZ := sd (blk_new w (.cells #[.int .i64 0, .int .i64 0, .int .i64 0, .int .i64 0, .int .i64 0, .int .i64 0, .slice none 0 0, .slice none 0 0, .slice none 0 0] 30)); have HW := sd (below_alloc (Below.refl w.heap.size w) (.cells #[.int .i64 0, .int .i64 0, .int .i64 0, .int .i64 0, .int .i64 0, .int .i64 0, .slice none 0 0, .slice none 0 0, .slice none 0 0] 30))
 go_enter Tryd.func67, Tryd.ntmps67
 go_upto_region 3 with fail
 generalize (w.alloc (.cells #[.int .i64 0, .int .i64 0, .int .i64 0, .int .i64 0, .int .i64 0, .int .i64 0, .slice none 0 0, .slice none 0 0, .slice none 0 0] 30)) = wa at *
 go_cut [5, 6] from 14 to 19 (fun v u wx => v = .int .i64 (ob.length : Int) ∧ u = .slice A1 R1.length (c - 8) ∧ Aside0 (Below w.heap.size w wx) ∧ Aside0 (wx.heap[w.heap.size]? = some (.cells #[.int .i64 0, .int .i64 0, .int .i64 0, .int .i64 0, .int .i64 0, .int .i64 0, .slice none 0 0, .slice none 0 0, .slice none 0 0] 30 (0, 0))))
 case first =>
  refine start_ (n := 8) (S := fun w' => True) (ds := []) #[false, false, false, false, false, false, false, false] (by kernel_rfl) rfl rfl trivial (fun hHeld => ?_); refine with_tabW nx3Reg.tab3 nx3Reg.bits3 (fun HT_ HW_ => ?_); refine pure_ (i := 0) (N := some 14) (v := ?_) (a' := ?_) #[true, false, false, false, false, false, false, false] rfl rfl (any_of HT_.out (by kernel_rfl)) (fun _ _ _ h => h) (Or.inl ⟨by rfl, ?_⟩) ?_ ?_
  rotate_left
  ·intro w'; go_simp
   with_reducible rfl
  rotate_left
  ·simp only [Act.put, List.setIfInBounds_toArray, List.set_cons_zero, List.set_cons_succ, i64_w, i32_w]; rfl
  refine pure_ (i := 1) (N := some 15) (v := ?_) (a' := ?_) #[true, true, false, false, false, false, false, false] rfl rfl (any_of HT_.out (by kernel_rfl)) (fun _ _ _ h => h) (Or.inl ⟨by rfl, ?_⟩) ?_ ?_
  rotate_left
  ·intro w'; go_simp
   with_reducible rfl
  rotate_left
  ·simp only [Act.put, List.setIfInBounds_toArray, List.set_cons_zero, List.set_cons_succ, i64_w, i32_w]; rfl
  refine pure_ (i := 4) (N := some 18) (v := ?_) (a' := ?_) #[true, true, false, false, true, false, false, false] rfl rfl (any_of HT_.out (by kernel_rfl)) (fun _ _ _ h => h) (Or.inl ⟨by rfl, ?_⟩) ?_ ?_
  rotate_left
  ·intro w'; go_simp
   with_reducible rfl
  rotate_left
  ·simp only [Act.put, List.setIfInBounds_toArray, List.set_cons_zero, List.set_cons_succ, i64_w, i32_w]; rfl
  refine pure_ (i := 5) (N := some 19) (v := ?_) (a' := ?_) #[true, true, false, false, true, true, false, false] rfl rfl (any_of HT_.out (by kernel_rfl)) (fun _ _ _ h => h) (Or.inl ⟨by rfl, ?_⟩) ?_ ?_
  rotate_left
  ·intro w'; go_simp
   with_reducible rfl
  rotate_left
  ·simp only [Act.put, List.setIfInBounds_toArray, List.set_cons_zero, List.set_cons_succ, i64_w, i32_w]; rfl
  refine inv_at [2, 3, 6, 7] (fun a0_ b a w' => ∃ (g_ : Nat) (wz_ : World) (m2_ : Value), a = putSel a0_ b [(2, 16, m2_), (3, 17, .int .i64 (ob.length : Int)), (6, 5, .int .i64 (ob.length : Int)), (7, 6, .slice A1 R1.length (c - 8))] ∧ (Below w.heap.size w w') ∧ (w'.heap[w.heap.size]? = some (.cells #[.int .i64 0, .int .i64 0, .int .i64 0, .int .i64 0, .int .i64 0, .int .i64 0, .slice none 0 0, .slice none 0 0, .slice none 0 0] 30 (0, 0))) ∧ (b 2 = true → b 3 = false → IsRs wz_ w' g_ (b8, false) ∧ Below wz_.heap.size wz_ w' ∧ Below w.heap.size w wz_ ∧ wz_.heap[w.heap.size]? = some (.cells #[.int .i64 0, .int .i64 0, .int .i64 0, .int .i64 0, .int .i64 0, .int .i64 0, .slice none 0 0, .slice none 0 0, .slice none 0 0] 30 (0, 0))) ∧ (b 2 = true → (m2_ : Value) = .pointer (some ⟨g_, 0, none⟩))) HT_.out HW_.out (by kernel_rfl) (by kernel_rfl) ?_ ?_ ?_
  ·exact ⟨0, w, .bool false, by simp only [putSel, Bool.false_eq_true, if_false], below_drew HW.out, HZ.out, fun h_ => absurd h_ (by decide), fun h_ => absurd h_ (by decide)⟩
  ·skip
   clear HW HZ; refine steps_cons ?_ ?_
   ·rintro b a w' ⟨g_, wz_, m2_, ha, QHW, QHZ, QR2, QX2_⟩ hb_ hon hoff; refine ⟨_, rfl, fun K hK => ?_⟩; have e15 := ef ha 15 (.slice A 8 c); replace ha := sd ha; have HW := sd QHW; have HZ := sd QHZ; refine goes_ Tryd.func63 (by kernel_rfl) rfl #[.slice A 8 c] (by rfl) rfl rfl (ev1 e15) ?_; refine (HRead.out w' (Kd.C_below H8.out HW.out)).mono ?_; rintro e w2 ⟨wz, gz, rfl, hI, hB0, hB1⟩; refine ⟨_, rfl, ?_⟩; refine hK.out _ _ ⟨gz, wz, (.pointer (some ⟨gz, 0, none⟩)), uk ha.out 0 hb_ rfl rfl rfl, below_step (below_step HW.out hB0) hB1, blk_below (blk_below HZ.out hB0) hB1, fun _ _ => ⟨hI, hB1, below_step HW.out hB0, blk_below HZ.out hB0⟩, fun _ => rfl⟩
   refine steps_cons ?_ ?_
   ·rintro b a w' ⟨g_, wz_, m2_, ha, QHW, QHZ, QR2, QX2_⟩ hb_ hon hoff; refine ⟨_, rfl, fun K hK => ?_⟩; have e16 := ek ha 0 2 16 (m2_) hon; rw [QX2_ (aC hon 2)] at e16; replace ha := sd ha; have HW := sd QHW; have HZ := sd QHZ; have R2 := sd (QR2 (aC hon 2) hb_); refine goes_ Tryd.func91 (by kernel_rfl) rfl #[.pointer (some ⟨g_, 0, none⟩)] (by rfl) rfl rfl (ev1 e16) ?_; refine (rdN_calls HN.out g_ wz_ w' R2.out.1 R2.out.2.1).mono ?_; rintro e w2 ⟨rfl, hI, hB, hKp⟩; refine ⟨_, rfl, ?_⟩; refine hK.out _ _ ⟨g_, wz_, m2_, uk ha.out 1 hb_ rfl rfl rfl, below_step R2.out.2.2.1 hB, blk_below R2.out.2.2.2 hB, fun _ h1_ => aU b 3 h1_, QX2_⟩
   refine steps_cons ?_ ?_
   ·rintro b a w' ⟨g_, wz_, m2_, ha, QHW, QHZ, QR2, QX2_⟩ hb_ hon hoff; refine ⟨_, rfl, fun K hK => ?_⟩; have e17 := ek ha 1 3 17 (.int .i64 (ob.length : Int)) hon; replace ha := sd ha; have HW := sd QHW; have HZ := sd QHZ; refine value_ (w1 := w') (v := .int .i64 (ob.length : Int)) (by rfl) rfl ?_ ?_
    ·go_simp; (try simp only [i64_w]); try rfl
    refine hK.out _ _ ⟨g_, wz_, m2_, uk ha.out 2 hb_ rfl rfl rfl, QHW, QHZ, fun _ h1_ => aT hon 3 h1_, QX2_⟩
   refine steps_cons ?_ ?_
   ·rintro b a w' ⟨g_, wz_, m2_, ha, QHW, QHZ, QR2, QX2_⟩ hb_ hon hoff; refine ⟨_, rfl, fun K hK => ?_⟩; have e19 := ef ha 19 (.slice A1 R1.length (c - 8)); replace ha := sd ha; have HW := sd QHW; have HZ := sd QHZ; refine value_ (w1 := w') (v := .slice A1 R1.length (c - 8)) (by rfl) rfl ?_ ?_
    ·go_simp; (try simp only [i64_w]); try rfl
    refine hK.out _ _ ⟨g_, wz_, m2_, uk ha.out 3 hb_ rfl rfl rfl, QHW, QHZ, fun _ h1_ => aT hon 3 h1_, QX2_⟩
   exact steps_nil
  ·rintro b a w' hall ⟨g_, wz_, m2_, ha, QHW, QHZ, QR2, QX2_⟩; clear HW HZ; have hb2_ := hall 2 (by kernel_rfl); have hb3_ := hall 3 (by kernel_rfl); have hb6_ := hall 6 (by kernel_rfl); have hb7_ := hall 7 (by kernel_rfl); subst ha; obtain rfl := QX2_ hb2_; simp only [putSel, hb2_, hb3_, hb6_, hb7_, if_true, Act.put, List.setIfInBounds_toArray, List.set_cons_zero, List.set_cons_succ]; have HW := sd QHW; clear QHW; have HZ := sd QHZ; clear QHZ; clear QR2; clear hall hb2_ hb3_ hb6_ hb7_; go_wp2; go_meet
   case rel => exact ⟨rfl, rfl, HW, HZ⟩
 case rest =>
  obtain ⟨rfl, rfl, HW2, HZ2⟩ := hcut; clear HW HZ HRead HN; have HW := HW2; have HZ := HZ2; clear HW2 HZ2
  go_upto_region 7 with (go_at_call 31; refine (HDec.out A1 _ _ (Kd.C_below H9.out HW.out)).mono ?_; rintro e w5 ⟨x, hx, rfl, hL, hP, hB⟩; obtain ⟨⟨zk, zc, zq, zh, za, zt, zp, zs, zr8⟩, ⟨A6, m6⟩, ⟨A7, m7⟩, ⟨A8, m8⟩⟩ := x; have HX := Lib.hid hx; have HSZ := sd HW.out.size; have HZ0 := sd (blk_lt HZ.out); have HP6 := sd hP.1; have HP7 := sd hP.2.1; have HP8 := sd hP.2.2; have HL := sd (Lies.below hL (below_alloc (Below.refl w5.heap.size w5) (.cells #[.int .i64 zk, .int .i64 zc, .int .i64 zq, .int .i64 zh, .int .i64 za, .int .i64 zt, .slice A6 zp.length m6, .slice A7 zs.length m7, .slice A8 zr8.length m8] 30))); replace HW := sd (below_alloc (below_step HW.out hB) (.cells #[.int .i64 zk, .int .i64 zc, .int .i64 zq, .int .i64 zh, .int .i64 za, .int .i64 zt, .slice A6 zp.length m6, .slice A7 zs.length m7, .slice A8 zr8.length m8] 30)); replace HZ := blk_below HZ.out hB; have hz5 := blk_lt HZ; replace HZ := sd (blk_alloc HZ (.cells #[.int .i64 zk, .int .i64 zc, .int .i64 zq, .int .i64 zh, .int .i64 za, .int .i64 zt, .slice A6 zp.length m6, .slice A7 zs.length m7, .slice A8 zr8.length m8] 30)); have HO := sd (blk_new w5 (.cells #[.int .i64 zk, .int .i64 zc, .int .i64 zq, .int .i64 zh, .int .i64 za, .int .i64 zt, .slice A6 zp.length m6, .slice A7 zs.length m7, .slice A8 zr8.length m8] 30)); clear hx hL hP hB)
  generalize (w5.alloc (.cells #[.int .i64 zk, .int .i64 zc, .int .i64 zq, .int .i64 zh, .int .i64 za, .int .i64 zt, .slice A6 zp.length m6, .slice A7 zs.length m7, .slice A8 zr8.length m8] 30)) = wb at *; generalize w5.heap.size = bo at *; have HNOZ := sd (show bo ≠ w.heap.size by omega); clear hz5; refine start_ (n := 8) (S := fun w' => True) (ds := []) #[false, false, false, false, false, false, false, false] (by kernel_rfl) rfl rfl trivial (fun hHeld => ?_); refine with_tabW nx7Reg.tab7 nx7Reg.bits7 (fun HT_ HW_ => ?_); refine pure_ (i := 1) (N := some 38) (v := ?_) (a' := ?_) #[false, true, false, false, false, false, false, false] rfl rfl (any_of HT_.out (by kernel_rfl)) (fun _ _ _ h => h) (Or.inl ⟨by rfl, ?_⟩) ?_ ?_
  rotate_left
  ·intro w'; go_simp
   with_reducible rfl
  rotate_left
  ·simp only [Act.put, List.setIfInBounds_toArray, List.set_cons_zero, List.set_cons_succ, i64_w, i32_w]; rfl
  refine pure_ (i := 2) (N := some 39) (v := ?_) (a' := ?_) #[false, true, true, false, false, false, false, false] rfl rfl (any_of HT_.out (by kernel_rfl)) (fun _ _ _ h => h) (Or.inl ⟨by rfl, ?_⟩) ?_ ?_
  rotate_left
  ·intro w'; go_simp
   with_reducible rfl
  rotate_left
  ·simp only [Act.put, List.setIfInBounds_toArray, List.set_cons_zero, List.set_cons_succ, i64_w, i32_w]; rfl
  refine pure_ (i := 3) (N := some 40) (v := ?_) (a' := ?_) #[false, true, true, true, false, false, false, false] rfl rfl (any_of HT_.out (by kernel_rfl)) (fun _ _ _ h => h) (Or.inl ⟨by rfl, ?_⟩) ?_ ?_
  rotate_left
  ·intro w'; go_simp
   with_reducible rfl
  rotate_left
  ·simp only [Act.put, List.setIfInBounds_toArray, List.set_cons_zero, List.set_cons_succ, i64_w, i32_w]; rfl
  refine pure_ (i := 4) (N := some 41) (v := ?_) (a' := ?_) #[false, true, true, true, true, false, false, false] rfl rfl (any_of HT_.out (by kernel_rfl)) (fun _ _ _ h => h) (Or.inl ⟨by rfl, ?_⟩) ?_ ?_
  rotate_left
  ·intro w'; go_simp
   with_reducible rfl
  rotate_left
  ·simp only [Act.put, List.setIfInBounds_toArray, List.set_cons_zero, List.set_cons_succ, i64_w, i32_w]; rfl
  refine inv_at [0, 5, 6, 7] (fun a0_ b a w' => a = putSel a0_ b [(0, 37, .agg #[.int .i64 zk, .int .i64 zc, .int .i64 zq, .int .i64 zh, .int .i64 za, .int .i64 zt, .slice A6 zp.length m6, .slice A7 zs.length m7, .slice A8 zr8.length m8]), (6, 3, .slice A2 rest.length (c - 8 - ob.length)), (7, 4, .nilIface)] ∧ (Below w.heap.size w w') ∧ (w'.heap[bo]? = some (.cells #[.int .i64 zk, .int .i64 zc, .int .i64 zq, .int .i64 zh, .int .i64 za, .int .i64 zt, .slice A6 zp.length m6, .slice A7 zs.length m7, .slice A8 zr8.length m8] 30 (0, 0))) ∧ (b 5 = false → w'.heap[w.heap.size]? = some (.cells #[.int .i64 0, .int .i64 0, .int .i64 0, .int .i64 0, .int .i64 0, .int .i64 0, .slice none 0 0, .slice none 0 0, .slice none 0 0] 30 (0, 0))) ∧ (b 5 = true → w'.heap[w.heap.size]? = some (.cells #[.int .i64 zk, .int .i64 zc, .int .i64 zq, .int .i64 zh, .int .i64 za, .int .i64 zt, .slice A6 zp.length m6, .slice A7 zs.length m7, .slice A8 zr8.length m8] 30 (0, 0))) ∧ (Lies w' (⟨zk, zc, zq, zh, za, zt, zp, zs, zr8⟩ : OpD) A6 A7 A8)) HT_.out HW_.out (by kernel_rfl) (by kernel_rfl) ?_ ?_ ?_
  ·exact ⟨by simp only [putSel, Bool.false_eq_true, if_false], below_drew HW.out, HO.out, fun _ => HZ.out, fun h_ => absurd h_ (by decide), Lies.below HL.out (below_drew (Below.refl _ _))⟩
  ·skip
   clear HL HO HW HZ; refine steps_cons ?_ ?_
   ·rintro b a w' ⟨ha, QHW, QHO, QHZ, QHE, QHL⟩ hb_ hon hoff; refine ⟨_, rfl, fun K hK => ?_⟩; have e7 := ef ha 7 (.pointer (some ⟨bo, 0, none⟩)); replace ha := sd ha; have HW := sd QHW; have HO := sd QHO; have HZ := sd (QHZ (aC hoff 5)); have HL := sd QHL; obtain ⟨q0, q1, q2, q3, q4, q5, q6, q7, q8⟩ := bl9 HO.out; refine value_ (w1 := w') (v := .agg #[.int .i64 zk, .int .i64 zc, .int .i64 zq, .int .i64 zh, .int .i64 za, .int .i64 zt, .slice A6 zp.length m6, .slice A7 zs.length m7, .slice A8 zr8.length m8]) (by rfl) rfl ?_ ?_
    ·go_simp; (try simp only [i64_w]); try rfl
    refine hK.out _ _ ⟨uk ha.out 0 hb_ rfl rfl rfl, QHW, QHO, QHZ, fun h0_ => aF hoff 5 h0_, QHL⟩
   refine steps_cons ?_ ?_
   ·rintro b a w' ⟨ha, QHW, QHO, QHZ, QHE, QHL⟩ hb_ hon hoff; refine ⟨_, rfl, fun K hK => ?_⟩; have e2 := ef ha 2 (.pointer (some ⟨w.heap.size, 0, none⟩)); have e37 := ek ha 0 0 37 (.agg #[.int .i64 zk, .int .i64 zc, .int .i64 zq, .int .i64 zh, .int .i64 za, .int .i64 zt, .slice A6 zp.length m6, .slice A7 zs.length m7, .slice A8 zr8.length m8]) hon; replace ha := sd ha; have HW := sd QHW; have HO := sd QHO; have HZ := sd (QHZ hb_); have HL := sd QHL; obtain ⟨z0, z1, z2, z3, z4, z5, z6, z7, z8⟩ := bl9 HZ.out; obtain ⟨f0, f1, f2, f3, f4, f5, f6, f7, f8⟩ := fz9 HZ.out; have hl := blk_lt HZ.out; refine skip_ (w1 := (((((((((w'.setCell ⟨w.heap.size, 0, none⟩ (Value.int .i64 zk)).setCell ⟨w.heap.size, 1, none⟩ (Value.int .i64 zc)).setCell ⟨w.heap.size, 2, none⟩ (Value.int .i64 zq)).setCell ⟨w.heap.size, 3, none⟩ (Value.int .i64 zh)).setCell ⟨w.heap.size, 4, none⟩ (Value.int .i64 za)).setCell ⟨w.heap.size, 5, none⟩ (Value.int .i64 zt)).setCell ⟨w.heap.size, 6, none⟩ (Value.slice A6 zp.length m6)).setCell ⟨w.heap.size, 7, none⟩ (Value.slice A7 zs.length m7)).setCell ⟨w.heap.size, 8, none⟩ (Value.slice A8 zr8.length m8))) (by rfl) rfl (by go_simp) ?_; refine hK.out _ _ ⟨(by rw [ha.out]; exact putSel_none (v := undef) rfl), (below_set (below_set (below_set (below_set (below_set (below_set (below_set (below_set (below_set HW.out (Nat.le_refl _)) (Nat.le_refl _)) (Nat.le_refl _)) (Nat.le_refl _)) (Nat.le_refl _)) (Nat.le_refl _)) (Nat.le_refl _)) (Nat.le_refl _)) (Nat.le_refl _)), KeepBut.blk (put9 HZ.out (.int .i64 zk) (.int .i64 zc) (.int .i64 zq) (.int .i64 zh) (.int .i64 za) (.int .i64 zt) (.slice A6 zp.length m6) (.slice A7 zs.length m7) (.slice A8 zr8.length m8)).1 HO.out HNOZ.out (by simp), fun h0_ => aU b 5 h0_, fun _ => (blk_put (blk_put (blk_put (blk_put (blk_put (blk_put (blk_put (blk_put (blk_put HZ.out 0 (.int .i64 zk) rfl) 1 (.int .i64 zc) rfl) 2 (.int .i64 zq) rfl) 3 (.int .i64 zh) rfl) 4 (.int .i64 za) rfl) 5 (.int .i64 zt) rfl) 6 (.slice A6 zp.length m6) rfl) 7 (.slice A7 zs.length m7) rfl) 8 (.slice A8 zr8.length m8) rfl), Lies.keep HL.out (put9 HZ.out (.int .i64 zk) (.int .i64 zc) (.int .i64 zq) (.int .i64 zh) (.int .i64 za) (.int .i64 zt) (.slice A6 zp.length m6) (.slice A7 zs.length m7) (.slice A8 zr8.length m8)).1 HP6.out HP7.out HP8.out HZ0.out⟩
   refine steps_cons ?_ ?_
   ·rintro b a w' ⟨ha, QHW, QHO, QHZ, QHE, QHL⟩ hb_ hon hoff; refine ⟨_, rfl, fun K hK => ?_⟩; have e40 := ef ha 40 (.slice A2 rest.length (c - 8 - ob.length)); replace ha := sd ha; have HW := sd QHW; have HO := sd QHO; have HE := sd (QHE (aC hon 5)); have HL := sd QHL; refine value_ (w1 := w') (v := .slice A2 rest.length (c - 8 - ob.length)) (by rfl) rfl ?_ ?_
    ·go_simp; (try simp only [i64_w]); try rfl
    refine hK.out _ _ ⟨uk ha.out 1 hb_ rfl rfl rfl, QHW, QHO, fun h0_ => aT hon 5 h0_, QHE, QHL⟩
   refine steps_cons ?_ ?_
   ·rintro b a w' ⟨ha, QHW, QHO, QHZ, QHE, QHL⟩ hb_ hon hoff; refine ⟨_, rfl, fun K hK => ?_⟩; have e41 := ef ha 41 (.nilIface); replace ha := sd ha; have HW := sd QHW; have HO := sd QHO; have HE := sd (QHE (aC hon 5)); have HL := sd QHL; refine value_ (w1 := w') (v := .nilIface) (by rfl) rfl ?_ ?_
    ·go_simp; (try simp only [i64_w]); try rfl
    refine hK.out _ _ ⟨uk ha.out 2 hb_ rfl rfl rfl, QHW, QHO, fun h0_ => aT hon 5 h0_, QHE, QHL⟩
   exact steps_nil
  ·rintro b a w' hall ⟨ha, QHW, QHO, QHZ, QHE, QHL⟩; clear HL HO HW HZ; have hb0_ := hall 0 (by kernel_rfl); have hb5_ := hall 5 (by kernel_rfl); have hb6_ := hall 6 (by kernel_rfl); have hb7_ := hall 7 (by kernel_rfl); subst ha; simp only [putSel, hb0_, hb5_, hb6_, hb7_, if_true, Act.put, List.setIfInBounds_toArray, List.set_cons_zero, List.set_cons_succ]; have HW := sd QHW; clear QHW; have HO := sd QHO; clear QHO; clear QHZ; have HE := sd (QHE hb5_); clear QHE; have HL := sd QHL; clear QHL; clear hall hb0_ hb5_ hb6_ hb7_; obtain ⟨q0, q1, q2, q3, q4, q5, q6, q7, q8⟩ := bl9 HE.out; go_wp2; refine bodyPost_ret (v := .tuple #[opV zk zc zq zh za zt A6 zp.length m6 A7 zs.length m7 A8 zr8.length m8, .slice A2 rest.length (c - 8 - ob.length), .nilIface]) (by simp [results, Tryd.results67, go_sem, q0, q1, q2, q3, q4, q5, q6, q7, q8]) rfl ⟨((⟨zk, zc, zq, zh, za, zt, zp, zs, zr8⟩ : OpD), (A6, m6), (A7, m7), (A8, m8)), A2, _, HX.out, rfl, l9, HRest.out, HL.out, ⟨HP6.out.le HSZ.out, HP7.out.le HSZ.out, HP8.out.le HSZ.out⟩, HW.out⟩
end Go.Proofs.YtbplemhjhpfkgaaDoor.Cd

/-
 code.put: an operation's bytes, for lists of constraints and attributes.
-/
import Derived.Test.YtbplemhjhpfkgaaDoorYPart6
import Derived.Test.YtbplemhjhpfkgaaDoorYWords
set_option linter.unusedVariables false
set_option linter.unusedSimpArgs false
namespace Go.Proofs.YtbplemhjhpfkgaaDoor.Cd
open Go.RowKit YtbplemhjhpfkgaaDoorW.PrintWords YtbplemhjhpfkgaaDoorW.PrintLast YtbplemhjhpfkgaaDoorW.PrintMore Rd
def cpReg.T1 : Bool × List (List Nat × List Nat) := (true, [([], []), ([0], [0]), ([1], [1]), ([2], [2]), ([], []), ([4], [4]), ([], []), ([6], [6]), ([], []), ([8], [8]), ([], []), ([10], [10]), ([], []), ([12], [12]), ([5, 7, 9, 11, 13], [5, 7, 9, 11, 13]), ([14], [14]), ([3, 15, 15], [3, 15]), ([16, 16, 0, 1, 2, 3, 4, 5, 6, 7, 8, 9, 10, 11, 12, 13, 14, 15, 16], [16])])
def cpReg.B1 : List Nat := [0, 1, 3, 7, 0, 16, 0, 64, 0, 256, 0, 1024, 0, 4096, 16368, 32752, 65535, 131071]
theorem cpReg.tab1 : rtab .any (opsOf Tryd.f45 1) = cpReg.T1 := by kernel_rfl
theorem cpReg.bits1 : waitsOk cpReg.T1.2 cpReg.B1 = true := by kernel_rfl
def cpReg.T6 : Bool × List (List Nat × List Nat) := (true, [([], []), ([], []), ([1], [1]), ([2], [2]), ([0, 3, 3], [0, 3]), ([], []), ([5], [5]), ([6], [6]), ([7], [7]), ([4, 8, 4], [4, 8]), ([9, 9, 0, 1, 2, 3, 4, 5, 6, 7, 8, 9], [0, 9])])
def cpReg.B6 : List Nat := [0, 0, 2, 6, 15, 0, 32, 96, 224, 511, 1023]
theorem cpReg.tab6 : rtab .any (opsOf Tryd.f45 6) = cpReg.T6 := by kernel_rfl
theorem cpReg.bits6 : waitsOk cpReg.T6.2 cpReg.B6 = true := by kernel_rfl
def cpReg.T7 : Bool × List (List Nat × List Nat) := (true, [([], []), ([], []), ([1], [1]), ([], []), ([3], [3]), ([2, 4], [2, 4]), ([5], [5]), ([0, 6, 6], [0, 6]), ([], []), ([8], [8]), ([9, 7], [9]), ([7, 10, 10], [7, 10]), ([11, 11, 0, 1, 2, 3, 4, 5, 6, 7, 8, 9, 10, 11], [0, 11])])
def cpReg.B7 : List Nat := [0, 0, 2, 0, 8, 30, 62, 127, 0, 256, 1023, 2047, 4095]
theorem cpReg.tab7 : rtab .any (opsOf Tryd.f45 7) = cpReg.T7 := by kernel_rfl
theorem cpReg.bits7 : waitsOk cpReg.T7.2 cpReg.B7 = true := by kernel_rfl
def cpReg.T13 : Bool × List (List Nat × List Nat) := (true, [([], []), ([], []), ([1], [1]), ([2], [2]), ([0, 3, 3], [0, 3]), ([], []), ([5], [5]), ([6], [6]), ([7, 4], [7]), ([8], [8]), ([4, 9, 8], [4, 9]), ([10, 10, 0, 1, 2, 3, 4, 5, 6, 7, 8, 9, 10], [0, 10])])
def cpReg.B13 : List Nat := [0, 0, 2, 6, 15, 0, 32, 96, 255, 511, 1023, 2047]
theorem cpReg.tab13 : rtab .any (opsOf Tryd.f45 13) = cpReg.T13 := by kernel_rfl
theorem cpReg.bits13 : waitsOk cpReg.T13.2 cpReg.B13 = true := by kernel_rfl
def cpReg.T14 : Bool × List (List Nat × List Nat) := (true, [([], []), ([], []), ([1], [1]), ([2], [2]), ([3], [3]), ([4], [4]), ([0, 5, 5], [0, 5]), ([], []), ([7], [7]), ([8], [8]), ([9, 6], [9]), ([6, 10, 10], [6, 10]), ([11, 11, 0, 1, 2, 3, 4, 5, 6, 7, 8, 9, 10, 11], [0, 11])])
def cpReg.B14 : List Nat := [0, 0, 2, 6, 14, 30, 63, 0, 128, 384, 1023, 2047, 4095]
theorem cpReg.tab14 : rtab .any (opsOf Tryd.f45 14) = cpReg.T14 := by kernel_rfl
theorem cpReg.bits14 : waitsOk cpReg.T14.2 cpReg.B14 = true := by kernel_rfl

set_option maxRecDepth 100000 in
set_option maxHeartbeats 8000000 in
theorem put_calls (k kc kq kh ka kt : Int) (A6 : Option Addr) (c6 : Nat) (l6 : List Co) (A7 : Option Addr) (c7 : Nat) (l7 : List At) (A8 : Option Addr) (c8 : Nat) (l8 : List Int) (w : World) (h6 : Kd.C kCo w A6 l6.length l6) (h7 : Kd.C kAt w A7 l7.length l7) (h8 : Kd.C (Kd.int .u8) w A8 l8.length l8) (b6 : l6.length ≤ 100000) (b7 : l7.length ≤ 100000) :
  Calls Tryd.prog 45 #[.agg #[.int .i64 k, .int .i64 kc, .int .i64 kq, .int .i64 kh, .int .i64 ka, .int .i64 kt, .slice A6 l6.length c6, .slice A7 l7.length c7, .slice A8 l8.length c8]] w fun e w' => ∃ v, e = .returned v ∧ Kd.R (Kd.int .u8) 5 w' w.heap.size (fun _ => True) v (opB k kc kq kh ka kt l6 l7 l8) ∧ Below w.heap.size w w' := by
 have HX := sd (blk_new w (.cells #[.int .i64 k, .int .i64 kc, .int .i64 kq, .int .i64 kh, .int .i64 ka, .int .i64 kt, .slice A6 l6.length c6, .slice A7 l7.length c7, .slice A8 l8.length c8] 30)); have HB := sd (below_alloc (Below.refl w.heap.size w) (.cells #[.int .i64 k, .int .i64 kc, .int .i64 kq, .int .i64 kh, .int .i64 ka, .int .i64 kt, .slice A6 l6.length c6, .slice A7 l7.length c7, .slice A8 l8.length c8] 30)); have H6 := sd h6; have H7w := sd h7; have H8w := sd h8; clear h6 h7 h8
 go_enter Tryd.func45, Tryd.ntmps45
 go_upto_region 1 with fail
 generalize (w.alloc (.cells #[.int .i64 k, .int .i64 kc, .int .i64 kq, .int .i64 kh, .int .i64 ka, .int .i64 kt, .slice A6 l6.length c6, .slice A7 l7.length c7, .slice A8 l8.length c8] 30)) = wd at *; have HW := sd (Below.refl wd.heap.size wd)
 go_cut [3] (fun v wx => Aside0 (Kd.R (Kd.int .u8) 5 wx wd.heap.size (fun _ => True) v ([k % 256] ++ be8s [kc, kq, kh, ka, kt])) ∧ Aside0 (Below wd.heap.size wd wx))
 case first =>
  refine start_ (n := 18) (S := fun w' => True) (ds := []) #[false, false, false, false, false, false, false, false, false, false, false, false, false, false, false, false, false, false] (by kernel_rfl) rfl rfl trivial (fun hHeld => ?_); refine with_tabW cpReg.tab1 cpReg.bits1 (fun HT_ HW_ => ?_); refine pure_ (i := 0) (N := some 8) (v := ?_) (a' := ?_) #[true, false, false, false, false, false, false, false, false, false, false, false, false, false, false, false, false, false] rfl rfl (any_of HT_.out (by kernel_rfl)) (fun _ _ _ h => h) (Or.inl ⟨by rfl, ?_⟩) ?_ ?_
  rotate_left
  ·intro w'; go_simp
   with_reducible rfl
  rotate_left
  ·simp only [Act.put, List.setIfInBounds_toArray, List.set_cons_zero, List.set_cons_succ, i64_w, i32_w]; rfl
  refine pure_ (i := 4) (N := some 12) (v := ?_) (a' := ?_) #[true, false, false, false, true, false, false, false, false, false, false, false, false, false, false, false, false, false] rfl rfl (any_of HT_.out (by kernel_rfl)) (fun _ _ _ h => h) (Or.inl ⟨by rfl, ?_⟩) ?_ ?_
  rotate_left
  ·intro w'; go_simp
   with_reducible rfl
  rotate_left
  ·simp only [Act.put, List.setIfInBounds_toArray, List.set_cons_zero, List.set_cons_succ, i64_w, i32_w]; rfl
  refine pure_ (i := 6) (N := some 14) (v := ?_) (a' := ?_) #[true, false, false, false, true, false, true, false, false, false, false, false, false, false, false, false, false, false] rfl rfl (any_of HT_.out (by kernel_rfl)) (fun _ _ _ h => h) (Or.inl ⟨by rfl, ?_⟩) ?_ ?_
  rotate_left
  ·intro w'; go_simp
   with_reducible rfl
  rotate_left
  ·simp only [Act.put, List.setIfInBounds_toArray, List.set_cons_zero, List.set_cons_succ, i64_w, i32_w]; rfl
  refine pure_ (i := 8) (N := some 16) (v := ?_) (a' := ?_) #[true, false, false, false, true, false, true, false, true, false, false, false, false, false, false, false, false, false] rfl rfl (any_of HT_.out (by kernel_rfl)) (fun _ _ _ h => h) (Or.inl ⟨by rfl, ?_⟩) ?_ ?_
  rotate_left
  ·intro w'; go_simp
   with_reducible rfl
  rotate_left
  ·simp only [Act.put, List.setIfInBounds_toArray, List.set_cons_zero, List.set_cons_succ, i64_w, i32_w]; rfl
  refine pure_ (i := 10) (N := some 18) (v := ?_) (a' := ?_) #[true, false, false, false, true, false, true, false, true, false, true, false, false, false, false, false, false, false] rfl rfl (any_of HT_.out (by kernel_rfl)) (fun _ _ _ h => h) (Or.inl ⟨by rfl, ?_⟩) ?_ ?_
  rotate_left
  ·intro w'; go_simp
   with_reducible rfl
  rotate_left
  ·simp only [Act.put, List.setIfInBounds_toArray, List.set_cons_zero, List.set_cons_succ, i64_w, i32_w]; rfl
  refine pure_ (i := 12) (N := some 20) (v := ?_) (a' := ?_) #[true, false, false, false, true, false, true, false, true, false, true, false, true, false, false, false, false, false] rfl rfl (any_of HT_.out (by kernel_rfl)) (fun _ _ _ h => h) (Or.inl ⟨by rfl, ?_⟩) ?_ ?_
  rotate_left
  ·intro w'; go_simp
   with_reducible rfl
  rotate_left
  ·simp only [Act.put, List.setIfInBounds_toArray, List.set_cons_zero, List.set_cons_succ, i64_w, i32_w]; rfl
  refine inv_at [1, 2, 3, 5, 7, 9, 11, 13, 14, 15, 16, 17] (fun a0_ b a w' => ∃ (b_ : Nat) (n_ : Nat) (s15_ : Value) (s16_ : Value) (m3_ : Value) (m14_ : Value) (m17_ : Value), a = putSel a0_ b [(1, 9, .int .i64 k), (2, 10, .int .u8 (k % 256)), (3, 11, m3_), (5, 13, .int .i64 kc), (7, 15, .int .i64 kq), (9, 17, .int .i64 kh), (11, 19, .int .i64 ka), (13, 21, .int .i64 kt), (14, 22, m14_), (15, 23, s15_), (16, 24, s16_), (17, 3, m17_)] ∧ (Below wd.heap.size wd w') ∧ (b 3 = true → b 16 = false → Kd.R (Kd.int .u8) 5 w' wd.heap.size (fun _ => True) (.slice (some ⟨b_, 0, none⟩) 1 1) ([k % 256])) ∧ (b 14 = true → b 15 = false → w'.heap[n_]? = some (.cells #[.int .i64 kc, .int .i64 kq, .int .i64 kh, .int .i64 ka, .int .i64 kt] 3 (0, 0))) ∧ (b 15 = true → b 16 = false → Kd.R (Kd.int .u8) 5 w' wd.heap.size (fun _ => True) (s15_) (be8s [kc, kq, kh, ka, kt])) ∧ (b 16 = true → Kd.R (Kd.int .u8) 5 w' wd.heap.size (fun _ => True) (s16_) ([k % 256] ++ be8s [kc, kq, kh, ka, kt])) ∧ (b 3 = true → (m3_ : Value) = .slice (some ⟨b_, 0, none⟩) 1 1) ∧ (b 14 = true → (m14_ : Value) = .slice (some ⟨n_, 0, none⟩) 5 5) ∧ (b 17 = true → (m17_ : Value) = s16_)) HT_.out HW_.out (by kernel_rfl) (by kernel_rfl) ?_ ?_ ?_
  ·exact ⟨0, 0, .bool false, .bool false, .bool false, .bool false, .bool false, by simp only [putSel, Bool.false_eq_true, if_false], below_drew HW.out, fun h_ => absurd h_ (by decide), fun h_ => absurd h_ (by decide), fun h_ => absurd h_ (by decide), fun h_ => absurd h_ (by decide), fun h_ => absurd h_ (by decide), fun h_ => absurd h_ (by decide), fun h_ => absurd h_ (by decide)⟩
  ·skip
   clear HW; refine steps_cons ?_ ?_
   ·rintro b a w' ⟨b_, n_, s15_, s16_, m3_, m14_, m17_, ha, QHW, QH3, QHS, QH6, QH7, QX3_, QX14_, QX17_⟩ hb_ hon hoff; refine ⟨_, rfl, fun K hK => ?_⟩; have e8 := ef ha 8 (.pointer (some ⟨w.heap.size, 0, none⟩)); replace ha := sd ha; have HW := sd QHW; have q0 := (cells_at HW.out (blk_cell HX.out 0)).trans (rfl : _ = some (Value.int .i64 k)); refine value_ (w1 := w') (v := .int .i64 k) (by rfl) rfl ?_ ?_
    ·go_simp; (try simp only [i64_w]); try rfl
    refine hK.out _ _ ⟨b_, n_, s15_, s16_, m3_, m14_, m17_, uk ha.out 0 hb_ rfl rfl rfl, QHW, fun h0_ _ => aF hoff 3 h0_, QHS, QH6, fun h0_ => aF hoff 16 h0_, fun h0_ => aF hoff 3 h0_, QX14_, fun h0_ => aF hoff 17 h0_⟩
   refine steps_cons ?_ ?_
   ·rintro b a w' ⟨b_, n_, s15_, s16_, m3_, m14_, m17_, ha, QHW, QH3, QHS, QH6, QH7, QX3_, QX14_, QX17_⟩ hb_ hon hoff; refine ⟨_, rfl, fun K hK => ?_⟩; have e9 := ek ha 0 1 9 (.int .i64 k) hon; replace ha := sd ha; have HW := sd QHW; refine value_ (w1 := w') (v := .int .u8 (k % 256)) (by rfl) rfl ?_ ?_
    ·go_simp; (try simp only [i64_w]); try rfl
    refine hK.out _ _ ⟨b_, n_, s15_, s16_, m3_, m14_, m17_, uk ha.out 1 hb_ rfl rfl rfl, QHW, fun h0_ _ => aF hoff 3 h0_, QHS, QH6, fun h0_ => aF hoff 16 h0_, fun h0_ => aF hoff 3 h0_, QX14_, fun h0_ => aF hoff 17 h0_⟩
   refine steps_cons ?_ ?_
   ·rintro b a w' ⟨b_, n_, s15_, s16_, m3_, m14_, m17_, ha, QHW, QH3, QHS, QH6, QH7, QX3_, QX14_, QX17_⟩ hb_ hon hoff; refine ⟨_, rfl, fun K hK => ?_⟩; have e10 := ek ha 1 2 10 (.int .u8 (k % 256)) hon; replace ha := sd ha; have HW := sd QHW; refine value_ (w1 := w'.alloc (.cells #[.int .u8 (k % 256)] 5)) (v := .slice (some ⟨w'.heap.size, 0, none⟩) 1 1) (by rfl) rfl (by go_simp) ?_; refine hK.out _ _ ⟨w'.heap.size, n_, s15_, s16_, (.slice (some ⟨w'.heap.size, 0, none⟩) 1 1), m14_, m17_, uk ha.out 2 hb_ rfl rfl rfl, below_alloc HW.out _, fun _ _ => Kd.R_lower (own_oneR w' _) HW.out.size, fun h0_ h1_ => blk_alloc (QHS h0_ h1_) _, fun h0_ h1_ => Kd.R_alloc (QH6 h0_ h1_) _, fun h0_ => aF hoff 16 h0_, fun _ => rfl, QX14_, fun h0_ => aF hoff 17 h0_⟩
   refine steps_cons ?_ ?_
   ·rintro b a w' ⟨b_, n_, s15_, s16_, m3_, m14_, m17_, ha, QHW, QH3, QHS, QH6, QH7, QX3_, QX14_, QX17_⟩ hb_ hon hoff; refine ⟨_, rfl, fun K hK => ?_⟩; have e12 := ef ha 12 (.pointer (some ⟨w.heap.size, 1, none⟩)); replace ha := sd ha; have HW := sd QHW; have q0 := (cells_at HW.out (blk_cell HX.out 1)).trans (rfl : _ = some (Value.int .i64 kc)); refine value_ (w1 := w') (v := .int .i64 kc) (by rfl) rfl ?_ ?_
    ·go_simp; (try simp only [i64_w]); try rfl
    refine hK.out _ _ ⟨b_, n_, s15_, s16_, m3_, m14_, m17_, uk ha.out 3 hb_ rfl rfl rfl, QHW, QH3, fun h0_ _ => aF hoff 14 h0_, fun h0_ _ => aF hoff 15 h0_, fun h0_ => aF hoff 16 h0_, QX3_, fun h0_ => aF hoff 14 h0_, fun h0_ => aF hoff 17 h0_⟩
   refine steps_cons ?_ ?_
   ·rintro b a w' ⟨b_, n_, s15_, s16_, m3_, m14_, m17_, ha, QHW, QH3, QHS, QH6, QH7, QX3_, QX14_, QX17_⟩ hb_ hon hoff; refine ⟨_, rfl, fun K hK => ?_⟩; have e14 := ef ha 14 (.pointer (some ⟨w.heap.size, 2, none⟩)); replace ha := sd ha; have HW := sd QHW; have q0 := (cells_at HW.out (blk_cell HX.out 2)).trans (rfl : _ = some (Value.int .i64 kq)); refine value_ (w1 := w') (v := .int .i64 kq) (by rfl) rfl ?_ ?_
    ·go_simp; (try simp only [i64_w]); try rfl
    refine hK.out _ _ ⟨b_, n_, s15_, s16_, m3_, m14_, m17_, uk ha.out 4 hb_ rfl rfl rfl, QHW, QH3, fun h0_ _ => aF hoff 14 h0_, fun h0_ _ => aF hoff 15 h0_, fun h0_ => aF hoff 16 h0_, QX3_, fun h0_ => aF hoff 14 h0_, fun h0_ => aF hoff 17 h0_⟩
   refine steps_cons ?_ ?_
   ·rintro b a w' ⟨b_, n_, s15_, s16_, m3_, m14_, m17_, ha, QHW, QH3, QHS, QH6, QH7, QX3_, QX14_, QX17_⟩ hb_ hon hoff; refine ⟨_, rfl, fun K hK => ?_⟩; have e16 := ef ha 16 (.pointer (some ⟨w.heap.size, 3, none⟩)); replace ha := sd ha; have HW := sd QHW; have q0 := (cells_at HW.out (blk_cell HX.out 3)).trans (rfl : _ = some (Value.int .i64 kh)); refine value_ (w1 := w') (v := .int .i64 kh) (by rfl) rfl ?_ ?_
    ·go_simp; (try simp only [i64_w]); try rfl
    refine hK.out _ _ ⟨b_, n_, s15_, s16_, m3_, m14_, m17_, uk ha.out 5 hb_ rfl rfl rfl, QHW, QH3, fun h0_ _ => aF hoff 14 h0_, fun h0_ _ => aF hoff 15 h0_, fun h0_ => aF hoff 16 h0_, QX3_, fun h0_ => aF hoff 14 h0_, fun h0_ => aF hoff 17 h0_⟩
   refine steps_cons ?_ ?_
   ·rintro b a w' ⟨b_, n_, s15_, s16_, m3_, m14_, m17_, ha, QHW, QH3, QHS, QH6, QH7, QX3_, QX14_, QX17_⟩ hb_ hon hoff; refine ⟨_, rfl, fun K hK => ?_⟩; have e18 := ef ha 18 (.pointer (some ⟨w.heap.size, 4, none⟩)); replace ha := sd ha; have HW := sd QHW; have q0 := (cells_at HW.out (blk_cell HX.out 4)).trans (rfl : _ = some (Value.int .i64 ka)); refine value_ (w1 := w') (v := .int .i64 ka) (by rfl) rfl ?_ ?_
    ·go_simp; (try simp only [i64_w]); try rfl
    refine hK.out _ _ ⟨b_, n_, s15_, s16_, m3_, m14_, m17_, uk ha.out 6 hb_ rfl rfl rfl, QHW, QH3, fun h0_ _ => aF hoff 14 h0_, fun h0_ _ => aF hoff 15 h0_, fun h0_ => aF hoff 16 h0_, QX3_, fun h0_ => aF hoff 14 h0_, fun h0_ => aF hoff 17 h0_⟩
   refine steps_cons ?_ ?_
   ·rintro b a w' ⟨b_, n_, s15_, s16_, m3_, m14_, m17_, ha, QHW, QH3, QHS, QH6, QH7, QX3_, QX14_, QX17_⟩ hb_ hon hoff; refine ⟨_, rfl, fun K hK => ?_⟩; have e20 := ef ha 20 (.pointer (some ⟨w.heap.size, 5, none⟩)); replace ha := sd ha; have HW := sd QHW; have q0 := (cells_at HW.out (blk_cell HX.out 5)).trans (rfl : _ = some (Value.int .i64 kt)); refine value_ (w1 := w') (v := .int .i64 kt) (by rfl) rfl ?_ ?_
    ·go_simp; (try simp only [i64_w]); try rfl
    refine hK.out _ _ ⟨b_, n_, s15_, s16_, m3_, m14_, m17_, uk ha.out 7 hb_ rfl rfl rfl, QHW, QH3, fun h0_ _ => aF hoff 14 h0_, fun h0_ _ => aF hoff 15 h0_, fun h0_ => aF hoff 16 h0_, QX3_, fun h0_ => aF hoff 14 h0_, fun h0_ => aF hoff 17 h0_⟩
   refine steps_cons ?_ ?_
   ·rintro b a w' ⟨b_, n_, s15_, s16_, m3_, m14_, m17_, ha, QHW, QH3, QHS, QH6, QH7, QX3_, QX14_, QX17_⟩ hb_ hon hoff; refine ⟨_, rfl, fun K hK => ?_⟩; have e13 := ek ha 3 5 13 (.int .i64 kc) hon; have e15 := ek ha 4 7 15 (.int .i64 kq) hon; have e17 := ek ha 5 9 17 (.int .i64 kh) hon; have e19 := ek ha 6 11 19 (.int .i64 ka) hon; have e21 := ek ha 7 13 21 (.int .i64 kt) hon; replace ha := sd ha; have HW := sd QHW; refine value_ (w1 := w'.alloc (.cells #[.int .i64 kc, .int .i64 kq, .int .i64 kh, .int .i64 ka, .int .i64 kt] 3)) (v := .slice (some ⟨w'.heap.size, 0, none⟩) 5 5) (by rfl) rfl (by go_simp) ?_; refine hK.out _ _ ⟨b_, w'.heap.size, s15_, s16_, m3_, (.slice (some ⟨w'.heap.size, 0, none⟩) 5 5), m17_, uk ha.out 8 hb_ rfl rfl rfl, below_alloc HW.out _, fun h0_ h1_ => Kd.R_alloc (QH3 h0_ h1_) _, fun _ _ => blk_new w' _, fun h0_ _ => aF hoff 15 h0_, fun h0_ => aF hoff 16 h0_, QX3_, fun _ => rfl, fun h0_ => aF hoff 17 h0_⟩
   refine steps_cons ?_ ?_
   ·rintro b a w' ⟨b_, n_, s15_, s16_, m3_, m14_, m17_, ha, QHW, QH3, QHS, QH6, QH7, QX3_, QX14_, QX17_⟩ hb_ hon hoff; refine ⟨_, rfl, fun K hK => ?_⟩; have e22 := ek ha 8 14 22 (m14_) hon; rw [QX14_ (aC hon 14)] at e22; replace ha := sd ha; have HW := sd QHW; have HS := sd (QHS (aC hon 14) hb_); have hC5 := C_blk64 (xs := [kc, kq, kh, ka, kt]) HS.out (by simp); refine goes_ Tryd.func66 (by kernel_rfl) rfl #[.slice (some ⟨n_, 0, none⟩) 5 5] (by rfl) rfl rfl (ev1 e22) ?_; refine (num_calls (some ⟨n_, 0, none⟩) 5 [kc, kq, kh, ka, kt] w' hC5 (by simp)).mono ?_; rintro e w2 ⟨v2, rfl, hR, hB⟩; refine ⟨_, rfl, ?_⟩; refine hK.out _ _ ⟨b_, n_, v2, s16_, m3_, m14_, m17_, uk ha.out 9 hb_ rfl rfl rfl, below_step HW.out hB, fun h0_ h1_ => Kd.R_below (QH3 h0_ h1_) hB, fun _ h1_ => aU b 15 h1_, fun _ _ => Kd.R_lower hR HW.out.size, fun h0_ => aF hoff 16 h0_, QX3_, QX14_, fun h0_ => aF hoff 17 h0_⟩
   refine steps_cons ?_ ?_
   ·rintro b a w' ⟨b_, n_, s15_, s16_, m3_, m14_, m17_, ha, QHW, QH3, QHS, QH6, QH7, QX3_, QX14_, QX17_⟩ hb_ hon hoff; refine ⟨_, rfl, fun K hK => ?_⟩; have e11 := ek ha 2 3 11 (m3_) hon; rw [QX3_ (aC hon 3)] at e11; have e23 := ek ha 9 15 23 (s15_) hon; replace ha := sd ha; have HW := sd QHW; have H3 := sd (QH3 (aC hon 3) hb_); have H6 := sd (QH6 (aC hon 15) hb_); obtain ⟨aR, cR, hs, hcR, hCR⟩ := Kd.R_reads H6.out; rw [hs] at e23; refine cat_step_at (Kd.int .u8) intKM wd w' wd.heap.size (by rfl) (.tmp 11) (.tmp 23) 22 5 (.int .u8 0) 1 rfl Tryd.underlying22 infoU8 rfl (by decide) (by omega) (.slice (some ⟨b_, 0, none⟩) 1 1) [k % 256] (be8s [kc, kq, kh, ka, kt]) (aR) ((be8s [kc, kq, kh, ka, kt]).length) (cR) (eval_of e11) (eval_of e23) H3.out hCR HW.out HW.out.size (by simp only [List.length_cons, List.length_nil, be8s_len]; omega) ?_; intro v1 w1 ho hb hg hat; refine hK.out _ _ ⟨b_, n_, s15_, v1, m3_, m14_, m17_, uk ha.out 10 hb_ rfl rfl rfl, hb, fun _ h1_ => aU b 16 h1_, fun _ h1_ => aT hon 15 h1_, fun _ h1_ => aU b 16 h1_, fun _ => ho, QX3_, QX14_, fun h0_ => aF hoff 17 h0_⟩
   refine steps_cons ?_ ?_
   ·rintro b a w' ⟨b_, n_, s15_, s16_, m3_, m14_, m17_, ha, QHW, QH3, QHS, QH6, QH7, QX3_, QX14_, QX17_⟩ hb_ hon hoff; refine ⟨_, rfl, fun K hK => ?_⟩; have e24 := ek ha 10 16 24 (s16_) hon; replace ha := sd ha; have HW := sd QHW; have H7 := sd (QH7 (aC hon 16)); refine value_ (w1 := w') (v := s16_) (by rfl) rfl ?_ ?_
    ·go_simp; (try simp only [i64_w]); try rfl
    refine hK.out _ _ ⟨b_, n_, s15_, s16_, m3_, m14_, (s16_), uk ha.out 11 hb_ rfl rfl rfl, QHW, fun _ h1_ => aT hon 16 h1_, fun _ h1_ => aT hon 15 h1_, fun _ h1_ => aT hon 16 h1_, QH7, QX3_, QX14_, fun _ => rfl⟩
   exact steps_nil
  ·rintro b a w' hall ⟨b_, n_, s15_, s16_, m3_, m14_, m17_, ha, QHW, QH3, QHS, QH6, QH7, QX3_, QX14_, QX17_⟩; clear HW; have hb1_ := hall 1 (by kernel_rfl); have hb2_ := hall 2 (by kernel_rfl); have hb3_ := hall 3 (by kernel_rfl); have hb5_ := hall 5 (by kernel_rfl); have hb7_ := hall 7 (by kernel_rfl); have hb9_ := hall 9 (by kernel_rfl); have hb11_ := hall 11 (by kernel_rfl); have hb13_ := hall 13 (by kernel_rfl); have hb14_ := hall 14 (by kernel_rfl); have hb15_ := hall 15 (by kernel_rfl); have hb16_ := hall 16 (by kernel_rfl); have hb17_ := hall 17 (by kernel_rfl); subst ha; obtain rfl := QX3_ hb3_; obtain rfl := QX14_ hb14_; obtain rfl := QX17_ hb17_; simp only [putSel, hb1_, hb2_, hb3_, hb5_, hb7_, hb9_, hb11_, hb13_, hb14_, hb15_, hb16_, hb17_, if_true, Act.put, List.setIfInBounds_toArray, List.set_cons_zero, List.set_cons_succ]; have HW := sd QHW; clear QHW; clear QH3; clear QHS; clear QH6; have H7 := sd (QH7 hb16_); clear QH7; clear hall hb1_ hb2_ hb3_ hb5_ hb7_ hb9_ hb11_ hb13_ hb14_ hb15_ hb16_ hb17_; go_wp2; go_meet
   case rel => exact ⟨H7, HW⟩
 case rest =>
  obtain ⟨G7, HW1⟩ := hcut; clear HW; have HE : Hid (opB k kc kq kh ka kt l6 l7 l8 = [k % 256] ++ be8s [kc, kq, kh, ka, kt] ++ [(l6.length : Int) % 256] ++ l6.flatMap cB ++ [(l7.length : Int) % 256] ++ l7.flatMap aB ++ text8 (strOfNums l8)) := Lib.hid rfl; have hLb : ([k % 256] ++ be8s [kc, kq, kh, ka, kt]).length ≤ 41 := by simp [be8s_len]
  generalize [k % 256] ++ be8s [kc, kq, kh, ka, kt] = bs at G7 hLb HE; have hx1 := blk_below HX.out HW1.out; have q6 := blk_cell hx1 6; have hlx := blk_lt hx1; clear hx1
  go_upto_block 0 with (first | ((with_reducible refine gate_builtin (b := .append) (xs := #[.tmp 25, .tmp 30]) rfl ?_); at_builtin; refine Kd.R_append (Kd.int .u8) (w0 := wd) (wd.heap.size) rfl (.tmp 25) (.tmp 30) 22 5 (.int .u8 0) 1 rfl Tryd.underlying22 infoU8 rfl (by decide) (by omega) (u3) (bs) ((l6.length : Int) % 256) [.int .u8 ((l6.length : Int) % 256)] (fun _ => True) (fun _ => False) rfl rfl ?aP (fun _ hk => hk.elim) ?aF ?aO ?aB ?aS ?aL ?_; (case aP => exact rfl); (case aB => exact (by repeat (with_reducible first | exact HW1.out | apply below_alloc | apply pw_below_drewN | apply below_drew1))); (case aF => exact (fun _ _ => trivial)); (case aO => exact (by (with_reducible repeat (first | apply Kd.R_alloc | apply Kd.R_drewN | apply Kd.R_drew)); exact G7.out)); (case aS => exact (below_size (by repeat (with_reducible first | exact HW1.out | apply below_alloc | apply pw_below_drewN | apply below_drew1)))); (case aL => omega); intro v1 w1 ho hb hg hat; have HO1 := sd ho; have HW2 := sd hb; have hx2 := (blk_below HX.out hb); have r6 := blk_cell hx2 6; have hly := blk_lt hx2; clear ho hb hg hat hx2))
  have hP : (bs ++ [(l6.length : Int) % 256]).length ≤ 42 := by simp; omega
  have HE1 : Hid (opB k kc kq kh ka kt l6 l7 l8 = bs ++ [(l6.length : Int) % 256] ++ l6.flatMap cB ++ [(l7.length : Int) % 256] ++ l7.flatMap aB ++ text8 (strOfNums l8)) := HE; clear HE hLb G7; generalize bs ++ [(l6.length : Int) % 256] = p1 at HO1 HE1 hP
  go_cut [3] (fun v wx => Aside0 (Kd.R (Kd.int .u8) 5 wx wd.heap.size (fun _ => True) v (p1 ++ l6.flatMap cB)) ∧ Aside0 (Below wd.heap.size wd wx))
  case first =>
   go_wp2_with fail
   go_loopw [3, 35] (fun v i wr => ∃ j : Nat, j ≤ l6.length ∧ i = .int .i64 (j : Int) ∧ Aside0 (Kd.R (Kd.int .u8) 5 wr wd.heap.size (fun _ => True) v (p1 ++ (l6.take j).flatMap cB)) ∧ Aside0 (Below wd.heap.size wd wr)) (fun _ i _ => l6.length - (intOf i).toNat)
   case atStart => exact ⟨0, Nat.zero_le _, rfl, ⟨by simpa using HO1.out⟩, HW2⟩
   case round =>
    obtain ⟨j, hj, rfl, HO, HWr⟩ := hrel
    by_cases hlt : j < l6.length
    ·obtain ⟨ad, x, rfl, hx, d0, d1, d2, d3, d4⟩ := at_Co (Kd.C_below H6.out (below_step HB.out HWr.out)) j hlt; obtain ⟨nm, kd, lo, hi, tx⟩ := x; obtain ⟨pr, hpr⟩ : ∃ pr, p1 ++ (l6.take j).flatMap cB = pr := ⟨_, rfl⟩
     have hpl : pr.length ≤ 60000000 := by
      have h1 := flatMap_le cB 529 cB_le (l6.take j); rw [List.length_take] at h1; rw [← hpr, List.length_append]; omega
     have HE2 : Hid (p1 ++ (l6.take (j + 1)).flatMap cB = pr ++ text8 nm ++ [kd % 256] ++ be8s [lo, hi] ++ text8 tx) := Lib.hid (by rw [take_snocF cB hx, ← List.append_assoc, hpr]; simp [cB, List.append_assoc]); rw [hpr] at HO; clear hpr; have htn := text8_le nm; have htt := text8_le tx; clear hx; have HP := sd (blk_new wr (.cells #[.string nm, .int .i64 kd, .int .i64 lo, .int .i64 hi, .string tx] 44)); have HD := sd (Kd.R_alloc HO.out (.cells #[.string nm, .int .i64 kd, .int .i64 lo, .int .i64 hi, .string tx] 44)); have HW := sd (below_alloc HWr.out (.cells #[.string nm, .int .i64 kd, .int .i64 lo, .int .i64 hi, .string tx] 44))
     go_upto_region 6 with fail
     generalize (wr.alloc (.cells #[.string nm, .int .i64 kd, .int .i64 lo, .int .i64 hi, .string tx] 44)) = wq at *
     go_cut [3] from 36 to 61 (fun v wx => Aside0 (Kd.R (Kd.int .u8) 5 wx wd.heap.size (fun _ => True) v (pr ++ text8 nm ++ [kd % 256])) ∧ Aside0 (wx.heap[wr.heap.size]? = some (.cells #[.string nm, .int .i64 kd, .int .i64 lo, .int .i64 hi, .string tx] 44 (0, 0))) ∧ Aside0 (Below wd.heap.size wd wx))
     case first =>
      refine start_ (n := 11) (S := fun w' => True) (ds := []) #[false, false, false, false, false, false, false, false, false, false, false] (by kernel_rfl) rfl rfl trivial (fun hHeld => ?_); refine with_tabW cpReg.tab6 cpReg.bits6 (fun HT_ HW_ => ?_); refine pure_ (i := 0) (N := some 39) (v := ?_) (a' := ?_) #[true, false, false, false, false, false, false, false, false, false, false] rfl rfl (any_of HT_.out (by kernel_rfl)) (fun _ _ _ h => h) (Or.inl ⟨by rfl, ?_⟩) ?_ ?_
      rotate_left
      ·intro w'; go_simp
       with_reducible rfl
      rotate_left
      ·simp only [Act.put, List.setIfInBounds_toArray, List.set_cons_zero, List.set_cons_succ, i64_w, i32_w]; rfl
      refine pure_ (i := 1) (N := some 40) (v := ?_) (a' := ?_) #[true, true, false, false, false, false, false, false, false, false, false] rfl rfl (any_of HT_.out (by kernel_rfl)) (fun _ _ _ h => h) (Or.inl ⟨by rfl, ?_⟩) ?_ ?_
      rotate_left
      ·intro w'; go_simp
       with_reducible rfl
      rotate_left
      ·simp only [Act.put, List.setIfInBounds_toArray, List.set_cons_zero, List.set_cons_succ, i64_w, i32_w]; rfl
      refine pure_ (i := 5) (N := some 44) (v := ?_) (a' := ?_) #[true, true, false, false, false, true, false, false, false, false, false] rfl rfl (any_of HT_.out (by kernel_rfl)) (fun _ _ _ h => h) (Or.inl ⟨by rfl, ?_⟩) ?_ ?_
      rotate_left
      ·intro w'; go_simp
       with_reducible rfl
      rotate_left
      ·simp only [Act.put, List.setIfInBounds_toArray, List.set_cons_zero, List.set_cons_succ, i64_w, i32_w]; rfl
      refine inv_at [2, 3, 4, 6, 7, 8, 9, 10] (fun a0_ b a w' => ∃ (s3_ : Value) (s4_ : Value) (b8_ : Nat) (s9_ : Value) (m8_ : Value) (m10_ : Value), a = putSel a0_ b [(2, 41, .string nm), (3, 42, s3_), (4, 43, s4_), (6, 45, .int .i64 kd), (7, 46, .int .u8 (kd % 256)), (8, 47, m8_), (9, 48, s9_), (10, 3, m10_)] ∧ (Below wd.heap.size wd w') ∧ (w'.heap[wr.heap.size]? = some (.cells #[.string nm, .int .i64 kd, .int .i64 lo, .int .i64 hi, .string tx] 44 (0, 0))) ∧ (b 4 = false → Kd.R (Kd.int .u8) 5 w' wd.heap.size (fun _ => True) (u3) (pr)) ∧ (b 3 = true → b 4 = false → Kd.R (Kd.int .u8) 5 w' wd.heap.size (fun _ => True) (s3_) (text8 nm)) ∧ (b 4 = true → b 9 = false → Kd.R (Kd.int .u8) 5 w' wd.heap.size (fun _ => True) (s4_) (pr ++ text8 nm)) ∧ (b 8 = true → b 9 = false → Kd.R (Kd.int .u8) 5 w' wd.heap.size (fun _ => True) (.slice (some ⟨b8_, 0, none⟩) 1 1) ([kd % 256])) ∧ (b 9 = true → Kd.R (Kd.int .u8) 5 w' wd.heap.size (fun _ => True) (s9_) (pr ++ text8 nm ++ [kd % 256])) ∧ (b 8 = true → b 4 = false → Far (u3) (.slice (some ⟨b8_, 0, none⟩) 1 1)) ∧ (b 8 = true → (m8_ : Value) = .slice (some ⟨b8_, 0, none⟩) 1 1) ∧ (b 10 = true → (m10_ : Value) = s9_)) HT_.out HW_.out (by kernel_rfl) (by kernel_rfl) ?_ ?_ ?_
      ·exact ⟨.bool false, .bool false, 0, .bool false, .bool false, .bool false, by simp only [putSel, Bool.false_eq_true, if_false], below_drew HW.out, HP.out, fun _ => HD.out, fun h_ => absurd h_ (by decide), fun h_ => absurd h_ (by decide), fun h_ => absurd h_ (by decide), fun h_ => absurd h_ (by decide), fun h_ => absurd h_ (by decide), fun h_ => absurd h_ (by decide), fun h_ => absurd h_ (by decide)⟩
      ·skip
       clear HD HP HW; refine steps_cons ?_ ?_
       ·rintro b a w' ⟨s3_, s4_, b8_, s9_, m8_, m10_, ha, QHW, QHP, QHD, QHM0, QHA0, QHM1, QHA1, QP0_1, QX8_, QX10_⟩ hb_ hon hoff; refine ⟨_, rfl, fun K hK => ?_⟩; have e40 := ef ha 40 (.pointer (some ⟨wr.heap.size, 0, none⟩)); replace ha := sd ha; have HW := sd QHW; have HP := sd QHP; have HD := sd (QHD (aC hoff 4)); have q0 := (blk_cell HP.out 0).trans (rfl : _ = some (Value.string nm)); refine value_ (w1 := w') (v := .string nm) (by rfl) rfl ?_ ?_
        ·go_simp; (try simp only [i64_w]); try rfl
        refine hK.out _ _ ⟨s3_, s4_, b8_, s9_, m8_, m10_, uk ha.out 0 hb_ rfl rfl rfl, QHW, QHP, QHD, fun h0_ _ => aF hoff 3 h0_, fun h0_ _ => aF hoff 4 h0_, QHM1, fun h0_ => aF hoff 9 h0_, QP0_1, QX8_, fun h0_ => aF hoff 10 h0_⟩
       refine steps_cons ?_ ?_
       ·rintro b a w' ⟨s3_, s4_, b8_, s9_, m8_, m10_, ha, QHW, QHP, QHD, QHM0, QHA0, QHM1, QHA1, QP0_1, QX8_, QX10_⟩ hb_ hon hoff; refine ⟨_, rfl, fun K hK => ?_⟩; have e41 := ek ha 0 2 41 (.string nm) hon; replace ha := sd ha; have HW := sd QHW; have HP := sd QHP; have HD := sd (QHD (aC hoff 4)); refine goes_ Tryd.func77 (by kernel_rfl) rfl #[.string nm] (by rfl) rfl rfl (ev1 e41) ?_; refine (txt_calls nm w').mono ?_; rintro e w2 ⟨v2, rfl, hR, hB⟩; refine ⟨_, rfl, ?_⟩; refine hK.out _ _ ⟨v2, s4_, b8_, s9_, m8_, m10_, uk ha.out 1 hb_ rfl rfl rfl, below_step HW.out hB, blk_below HP.out hB, fun _ => Kd.R_below HD.out hB, fun _ _ => Kd.R_lower hR HW.out.size, fun h0_ _ => aF hoff 4 h0_, fun h0_ h1_ => Kd.R_below (QHM1 h0_ h1_) hB, fun h0_ => aF hoff 9 h0_, QP0_1, QX8_, fun h0_ => aF hoff 10 h0_⟩
       refine steps_cons ?_ ?_
       ·rintro b a w' ⟨s3_, s4_, b8_, s9_, m8_, m10_, ha, QHW, QHP, QHD, QHM0, QHA0, QHM1, QHA1, QP0_1, QX8_, QX10_⟩ hb_ hon hoff; refine ⟨_, rfl, fun K hK => ?_⟩; have e39 := ef ha 39 (u3); have e42 := ek ha 1 3 42 (s3_) hon; replace ha := sd ha; have HW := sd QHW; have HP := sd QHP; have HD := sd (QHD hb_); have HM0 := sd (QHM0 (aC hon 3) hb_); obtain ⟨aR, cR, hs, hcR, hCR⟩ := Kd.R_reads HM0.out; rw [hs] at e42; refine cat_step_at (Kd.int .u8) intKM wd w' wd.heap.size (by rfl) (.tmp 39) (.tmp 42) 22 5 (.int .u8 0) 1 rfl Tryd.underlying22 infoU8 rfl (by decide) (by omega) (u3) (pr) (text8 nm) (aR) ((text8 nm).length) (cR) (eval_of e39) (eval_of e42) (HD.out) (hCR) HW.out HW.out.size (by first | omega | (simp only [List.length_append, List.length_cons, List.length_nil, be8s_len]; omega)) ?_; intro v1 w1 ho hb hg hat; refine hK.out _ _ ⟨s3_, v1, b8_, s9_, m8_, m10_, uk ha.out 2 hb_ rfl rfl rfl, hb, blk_grown HP.out hg (Kd.R_ne HD.out HP.out (by decide)), fun h0_ => aU b 4 h0_, fun _ h1_ => aU b 4 h1_, fun _ _ => ho, fun h0_ h1_ => Kd.R_grown2 (QHM1 h0_ h1_) rfl hg (QP0_1 h0_ hb_), fun h0_ => aF hoff 9 h0_, fun _ h1_ => aU b 4 h1_, QX8_, fun h0_ => aF hoff 10 h0_⟩
       refine steps_cons ?_ ?_
       ·rintro b a w' ⟨s3_, s4_, b8_, s9_, m8_, m10_, ha, QHW, QHP, QHD, QHM0, QHA0, QHM1, QHA1, QP0_1, QX8_, QX10_⟩ hb_ hon hoff; refine ⟨_, rfl, fun K hK => ?_⟩; have e44 := ef ha 44 (.pointer (some ⟨wr.heap.size, 1, none⟩)); replace ha := sd ha; have HW := sd QHW; have HP := sd QHP; have q0 := (blk_cell HP.out 1).trans (rfl : _ = some (Value.int .i64 kd)); refine value_ (w1 := w') (v := .int .i64 kd) (by rfl) rfl ?_ ?_
        ·go_simp; (try simp only [i64_w]); try rfl
        refine hK.out _ _ ⟨s3_, s4_, b8_, s9_, m8_, m10_, uk ha.out 3 hb_ rfl rfl rfl, QHW, QHP, QHD, QHM0, QHA0, fun h0_ _ => aF hoff 8 h0_, fun h0_ => aF hoff 9 h0_, fun h0_ _ => aF hoff 8 h0_, fun h0_ => aF hoff 8 h0_, fun h0_ => aF hoff 10 h0_⟩
       refine steps_cons ?_ ?_
       ·rintro b a w' ⟨s3_, s4_, b8_, s9_, m8_, m10_, ha, QHW, QHP, QHD, QHM0, QHA0, QHM1, QHA1, QP0_1, QX8_, QX10_⟩ hb_ hon hoff; refine ⟨_, rfl, fun K hK => ?_⟩; have e45 := ek ha 3 6 45 (.int .i64 kd) hon; replace ha := sd ha; have HW := sd QHW; have HP := sd QHP; refine value_ (w1 := w') (v := .int .u8 (kd % 256)) (by rfl) rfl ?_ ?_
        ·go_simp; (try simp only [i64_w]); try rfl
        refine hK.out _ _ ⟨s3_, s4_, b8_, s9_, m8_, m10_, uk ha.out 4 hb_ rfl rfl rfl, QHW, QHP, QHD, QHM0, QHA0, fun h0_ _ => aF hoff 8 h0_, fun h0_ => aF hoff 9 h0_, fun h0_ _ => aF hoff 8 h0_, fun h0_ => aF hoff 8 h0_, fun h0_ => aF hoff 10 h0_⟩
       refine steps_cons ?_ ?_
       ·rintro b a w' ⟨s3_, s4_, b8_, s9_, m8_, m10_, ha, QHW, QHP, QHD, QHM0, QHA0, QHM1, QHA1, QP0_1, QX8_, QX10_⟩ hb_ hon hoff; refine ⟨_, rfl, fun K hK => ?_⟩; have e46 := ek ha 4 7 46 (.int .u8 (kd % 256)) hon; replace ha := sd ha; have HW := sd QHW; have HP := sd QHP; refine value_ (w1 := w'.alloc (.cells #[.int .u8 (kd % 256)] 5)) (v := .slice (some ⟨w'.heap.size, 0, none⟩) 1 1) (by rfl) rfl (by go_simp) ?_; refine hK.out _ _ ⟨s3_, s4_, w'.heap.size, s9_, (.slice (some ⟨w'.heap.size, 0, none⟩) 1 1), m10_, uk ha.out 5 hb_ rfl rfl rfl, below_alloc HW.out _, blk_alloc HP.out _, fun h0_ => Kd.R_alloc (QHD h0_) _, fun h0_ h1_ => Kd.R_alloc (QHM0 h0_ h1_) _, fun h0_ h1_ => Kd.R_alloc (QHA0 h0_ h1_) _, fun _ _ => Kd.R_lower (own_oneR w' _) HW.out.size, fun h0_ => aF hoff 9 h0_, fun _ _ => far_new (Kd.R_lt (QHD (by assumption))) (fun k hk => Nat.le_of_eq (Option.some.inj hk)), fun _ => rfl, fun h0_ => aF hoff 10 h0_⟩
       refine steps_cons ?_ ?_
       ·rintro b a w' ⟨s3_, s4_, b8_, s9_, m8_, m10_, ha, QHW, QHP, QHD, QHM0, QHA0, QHM1, QHA1, QP0_1, QX8_, QX10_⟩ hb_ hon hoff; refine ⟨_, rfl, fun K hK => ?_⟩; have e43 := ek ha 2 4 43 (s4_) hon; have e47 := ek ha 5 8 47 (m8_) hon; rw [QX8_ (aC hon 8)] at e47; replace ha := sd ha; have HW := sd QHW; have HP := sd QHP; have HA0 := sd (QHA0 (aC hon 4) hb_); have HM1 := sd (QHM1 (aC hon 8) hb_); obtain ⟨aR, cR, hs, hcR, hCR⟩ := Kd.R_reads HM1.out; rw [hs] at e47; refine cat_step_at (Kd.int .u8) intKM wd w' wd.heap.size (by rfl) (.tmp 43) (.tmp 47) 22 5 (.int .u8 0) 1 rfl Tryd.underlying22 infoU8 rfl (by decide) (by omega) (s4_) (pr ++ text8 nm) ([kd % 256]) (aR) (([kd % 256]).length) (cR) (eval_of e43) (eval_of e47) (HA0.out) (hCR) HW.out HW.out.size (by first | omega | (simp only [List.length_append, List.length_cons, List.length_nil, be8s_len]; omega)) ?_; intro v1 w1 ho hb hg hat; refine hK.out _ _ ⟨s3_, s4_, b8_, v1, m8_, m10_, uk ha.out 6 hb_ rfl rfl rfl, hb, blk_grown HP.out hg (Kd.R_ne HA0.out HP.out (by decide)), fun h0_ => aT hon 4 h0_, fun _ h1_ => aT hon 4 h1_, fun _ h1_ => aU b 9 h1_, fun _ h1_ => aU b 9 h1_, fun _ => ho, fun _ h1_ => aT hon 4 h1_, QX8_, fun h0_ => aF hoff 10 h0_⟩
       refine steps_cons ?_ ?_
       ·rintro b a w' ⟨s3_, s4_, b8_, s9_, m8_, m10_, ha, QHW, QHP, QHD, QHM0, QHA0, QHM1, QHA1, QP0_1, QX8_, QX10_⟩ hb_ hon hoff; refine ⟨_, rfl, fun K hK => ?_⟩; have e48 := ek ha 6 9 48 (s9_) hon; replace ha := sd ha; have HW := sd QHW; have HP := sd QHP; have HA1 := sd (QHA1 (aC hon 9)); refine value_ (w1 := w') (v := s9_) (by rfl) rfl ?_ ?_
        ·go_simp; (try simp only [i64_w]); try rfl
        refine hK.out _ _ ⟨s3_, s4_, b8_, s9_, m8_, (s9_), uk ha.out 7 hb_ rfl rfl rfl, QHW, QHP, fun h0_ => aT hon 4 h0_, fun _ h1_ => aT hon 4 h1_, fun _ h1_ => aT hon 9 h1_, fun _ h1_ => aT hon 9 h1_, QHA1, fun _ h1_ => aT hon 4 h1_, QX8_, fun _ => rfl⟩
       exact steps_nil
      ·rintro b a w' hall ⟨s3_, s4_, b8_, s9_, m8_, m10_, ha, QHW, QHP, QHD, QHM0, QHA0, QHM1, QHA1, QP0_1, QX8_, QX10_⟩; clear HD HP HW; have hb2_ := hall 2 (by kernel_rfl); have hb3_ := hall 3 (by kernel_rfl); have hb4_ := hall 4 (by kernel_rfl); have hb6_ := hall 6 (by kernel_rfl); have hb7_ := hall 7 (by kernel_rfl); have hb8_ := hall 8 (by kernel_rfl); have hb9_ := hall 9 (by kernel_rfl); have hb10_ := hall 10 (by kernel_rfl); subst ha; obtain rfl := QX8_ hb8_; obtain rfl := QX10_ hb10_; simp only [putSel, hb2_, hb3_, hb4_, hb6_, hb7_, hb8_, hb9_, hb10_, if_true, Act.put, List.setIfInBounds_toArray, List.set_cons_zero, List.set_cons_succ]; have HW := sd QHW; clear QHW; have HP := sd QHP; clear QHP; clear QHD; clear QHM0; clear QHA0; clear QHM1; have HA1 := sd (QHA1 hb9_); clear QHA1; clear QP0_1; clear hall hb2_ hb3_ hb4_ hb6_ hb7_ hb8_ hb9_ hb10_; go_wp2; go_meet
       case rel => exact ⟨HA1, HP, HW⟩
     case rest =>
      obtain ⟨HD2, HP2, HW2b⟩ := hcut; clear HD HP HW HO HWr; have HD := HD2; have HP := HP2; have HW := HW2b; have hpl2 : (pr ++ text8 nm ++ [kd % 256]).length ≤ 61000000 := by simp only [List.length_append, List.length_cons, List.length_nil]; omega
      clear HD2 HP2 HW2b htn; generalize pr ++ text8 nm ++ [kd % 256] = pr at HD HE2 hpl2
      go_upto_region 7 with fail
      refine start_ (n := 13) (S := fun w' => True) (ds := []) #[false, false, false, false, false, false, false, false, false, false, false, false, false] (by kernel_rfl) rfl rfl trivial (fun hHeld => ?_); refine with_tabW cpReg.tab7 cpReg.bits7 (fun HT_ HW_ => ?_); refine pure_ (i := 0) (N := some 49) (v := ?_) (a' := ?_) #[true, false, false, false, false, false, false, false, false, false, false, false, false] rfl rfl (any_of HT_.out (by kernel_rfl)) (fun _ _ _ h => h) (Or.inl ⟨by rfl, ?_⟩) ?_ ?_
      rotate_left
      ·intro w'; go_simp
       with_reducible rfl
      rotate_left
      ·simp only [Act.put, List.setIfInBounds_toArray, List.set_cons_zero, List.set_cons_succ, i64_w, i32_w]; rfl
      refine pure_ (i := 1) (N := some 50) (v := ?_) (a' := ?_) #[true, true, false, false, false, false, false, false, false, false, false, false, false] rfl rfl (any_of HT_.out (by kernel_rfl)) (fun _ _ _ h => h) (Or.inl ⟨by rfl, ?_⟩) ?_ ?_
      rotate_left
      ·intro w'; go_simp
       with_reducible rfl
      rotate_left
      ·simp only [Act.put, List.setIfInBounds_toArray, List.set_cons_zero, List.set_cons_succ, i64_w, i32_w]; rfl
      refine pure_ (i := 3) (N := some 52) (v := ?_) (a' := ?_) #[true, true, false, true, false, false, false, false, false, false, false, false, false] rfl rfl (any_of HT_.out (by kernel_rfl)) (fun _ _ _ h => h) (Or.inl ⟨by rfl, ?_⟩) ?_ ?_
      rotate_left
      ·intro w'; go_simp
       with_reducible rfl
      rotate_left
      ·simp only [Act.put, List.setIfInBounds_toArray, List.set_cons_zero, List.set_cons_succ, i64_w, i32_w]; rfl
      refine pure_ (i := 8) (N := some 57) (v := ?_) (a' := ?_) #[true, true, false, true, false, false, false, false, true, false, false, false, false] rfl rfl (any_of HT_.out (by kernel_rfl)) (fun _ _ _ h => h) (Or.inl ⟨by rfl, ?_⟩) ?_ ?_
      rotate_left
      ·intro w'; go_simp
       with_reducible rfl
      rotate_left
      ·simp only [Act.put, List.setIfInBounds_toArray, List.set_cons_zero, List.set_cons_succ, i64_w, i32_w]; rfl
      refine inv_at [2, 4, 5, 6, 7, 9, 10, 11, 12] (fun a0_ b a w' => ∃ (s6_ : Value) (s7_ : Value) (n5_ : Nat) (s10_ : Value) (s11_ : Value) (m5_ : Value) (m12_ : Value), a = putSel a0_ b [(2, 51, .int .i64 lo), (4, 53, .int .i64 hi), (5, 54, m5_), (6, 55, s6_), (7, 56, s7_), (9, 58, .string tx), (10, 59, s10_), (11, 60, s11_), (12, 3, m12_)] ∧ (Below wd.heap.size wd w') ∧ (w'.heap[wr.heap.size]? = some (.cells #[.string nm, .int .i64 kd, .int .i64 lo, .int .i64 hi, .string tx] 44 (0, 0))) ∧ (b 7 = false → Kd.R (Kd.int .u8) 5 w' wd.heap.size (fun _ => True) (u3) (pr)) ∧ (b 5 = true → b 6 = false → w'.heap[n5_]? = some (.cells #[.int .i64 lo, .int .i64 hi] 3 (0, 0))) ∧ (b 6 = true → b 7 = false → Kd.R (Kd.int .u8) 5 w' wd.heap.size (fun _ => True) (s6_) (be8s [lo, hi])) ∧ (b 7 = true → b 11 = false → Kd.R (Kd.int .u8) 5 w' wd.heap.size (fun _ => True) (s7_) (pr ++ be8s [lo, hi])) ∧ (b 10 = true → b 11 = false → Kd.R (Kd.int .u8) 5 w' wd.heap.size (fun _ => True) (s10_) (text8 tx)) ∧ (b 11 = true → Kd.R (Kd.int .u8) 5 w' wd.heap.size (fun _ => True) (s11_) (pr ++ be8s [lo, hi] ++ text8 tx)) ∧ (b 10 = true → b 7 = false → Far (u3) (s10_)) ∧ (b 5 = true → (m5_ : Value) = .slice (some ⟨n5_, 0, none⟩) 2 2) ∧ (b 12 = true → (m12_ : Value) = s11_)) HT_.out HW_.out (by kernel_rfl) (by kernel_rfl) ?_ ?_ ?_
      ·exact ⟨.bool false, .bool false, 0, .bool false, .bool false, .bool false, .bool false, by simp only [putSel, Bool.false_eq_true, if_false], below_drew HW.out, HP.out, fun _ => HD.out, fun h_ => absurd h_ (by decide), fun h_ => absurd h_ (by decide), fun h_ => absurd h_ (by decide), fun h_ => absurd h_ (by decide), fun h_ => absurd h_ (by decide), fun h_ => absurd h_ (by decide), fun h_ => absurd h_ (by decide), fun h_ => absurd h_ (by decide)⟩
      ·skip
       clear HD HP HW; refine steps_cons ?_ ?_
       ·rintro b a w' ⟨s6_, s7_, n5_, s10_, s11_, m5_, m12_, ha, QHW, QHP, QHD, QHS0, QHM0, QHA0, QHM1, QHA1, QP0_1, QX5_, QX12_⟩ hb_ hon hoff; refine ⟨_, rfl, fun K hK => ?_⟩; have e50 := ef ha 50 (.pointer (some ⟨wr.heap.size, 2, none⟩)); replace ha := sd ha; have HW := sd QHW; have HP := sd QHP; have HD := sd (QHD (aC hoff 7)); have q0 := (blk_cell HP.out 2).trans (rfl : _ = some (Value.int .i64 lo)); refine value_ (w1 := w') (v := .int .i64 lo) (by rfl) rfl ?_ ?_
        ·go_simp; (try simp only [i64_w]); try rfl
        refine hK.out _ _ ⟨s6_, s7_, n5_, s10_, s11_, m5_, m12_, uk ha.out 0 hb_ rfl rfl rfl, QHW, QHP, QHD, fun h0_ _ => aF hoff 5 h0_, fun h0_ _ => aF hoff 6 h0_, fun h0_ _ => aF hoff 7 h0_, fun h0_ _ => aF hoff 10 h0_, fun h0_ => aF hoff 11 h0_, fun h0_ _ => aF hoff 10 h0_, fun h0_ => aF hoff 5 h0_, fun h0_ => aF hoff 12 h0_⟩
       refine steps_cons ?_ ?_
       ·rintro b a w' ⟨s6_, s7_, n5_, s10_, s11_, m5_, m12_, ha, QHW, QHP, QHD, QHS0, QHM0, QHA0, QHM1, QHA1, QP0_1, QX5_, QX12_⟩ hb_ hon hoff; refine ⟨_, rfl, fun K hK => ?_⟩; have e52 := ef ha 52 (.pointer (some ⟨wr.heap.size, 3, none⟩)); replace ha := sd ha; have HW := sd QHW; have HP := sd QHP; have HD := sd (QHD (aC hoff 7)); have q0 := (blk_cell HP.out 3).trans (rfl : _ = some (Value.int .i64 hi)); refine value_ (w1 := w') (v := .int .i64 hi) (by rfl) rfl ?_ ?_
        ·go_simp; (try simp only [i64_w]); try rfl
        refine hK.out _ _ ⟨s6_, s7_, n5_, s10_, s11_, m5_, m12_, uk ha.out 1 hb_ rfl rfl rfl, QHW, QHP, QHD, fun h0_ _ => aF hoff 5 h0_, fun h0_ _ => aF hoff 6 h0_, fun h0_ _ => aF hoff 7 h0_, fun h0_ _ => aF hoff 10 h0_, fun h0_ => aF hoff 11 h0_, fun h0_ _ => aF hoff 10 h0_, fun h0_ => aF hoff 5 h0_, fun h0_ => aF hoff 12 h0_⟩
       refine steps_cons ?_ ?_
       ·rintro b a w' ⟨s6_, s7_, n5_, s10_, s11_, m5_, m12_, ha, QHW, QHP, QHD, QHS0, QHM0, QHA0, QHM1, QHA1, QP0_1, QX5_, QX12_⟩ hb_ hon hoff; refine ⟨_, rfl, fun K hK => ?_⟩; have e51 := ek ha 0 2 51 (.int .i64 lo) hon; have e53 := ek ha 1 4 53 (.int .i64 hi) hon; replace ha := sd ha; have HW := sd QHW; have HP := sd QHP; have HD := sd (QHD (aC hoff 7)); refine value_ (w1 := w'.alloc (.cells #[.int .i64 lo, .int .i64 hi] 3)) (v := .slice (some ⟨w'.heap.size, 0, none⟩) 2 2) (by rfl) rfl (by go_simp) ?_; refine hK.out _ _ ⟨s6_, s7_, w'.heap.size, s10_, s11_, (.slice (some ⟨w'.heap.size, 0, none⟩) 2 2), m12_, uk ha.out 2 hb_ rfl rfl rfl, below_alloc HW.out _, blk_alloc HP.out _, fun _ => Kd.R_alloc HD.out _, fun _ _ => blk_new w' _, fun h0_ _ => aF hoff 6 h0_, fun h0_ _ => aF hoff 7 h0_, fun h0_ _ => aF hoff 10 h0_, fun h0_ => aF hoff 11 h0_, fun h0_ _ => aF hoff 10 h0_, fun _ => rfl, fun h0_ => aF hoff 12 h0_⟩
       refine steps_cons ?_ ?_
       ·rintro b a w' ⟨s6_, s7_, n5_, s10_, s11_, m5_, m12_, ha, QHW, QHP, QHD, QHS0, QHM0, QHA0, QHM1, QHA1, QP0_1, QX5_, QX12_⟩ hb_ hon hoff; refine ⟨_, rfl, fun K hK => ?_⟩; have e54 := ek ha 2 5 54 (m5_) hon; rw [QX5_ (aC hon 5)] at e54; replace ha := sd ha; have HW := sd QHW; have HP := sd QHP; have HD := sd (QHD (aC hoff 7)); have HS0 := sd (QHS0 (aC hon 5) hb_); have hC := C_blk64 (xs := [lo, hi]) HS0.out (by simp); refine goes_ Tryd.func66 (by kernel_rfl) rfl #[.slice (some ⟨n5_, 0, none⟩) 2 2] (by rfl) rfl rfl (ev1 e54) ?_; refine (num_calls (some ⟨n5_, 0, none⟩) 2 [lo, hi] w' hC (by simp)).mono ?_; rintro e w2 ⟨v2, rfl, hR, hB⟩; refine ⟨_, rfl, ?_⟩; refine hK.out _ _ ⟨v2, s7_, n5_, s10_, s11_, m5_, m12_, uk ha.out 3 hb_ rfl rfl rfl, below_step HW.out hB, blk_below HP.out hB, fun _ => Kd.R_below HD.out hB, fun _ h1_ => aU b 6 h1_, fun _ _ => Kd.R_lower hR HW.out.size, fun h0_ _ => aF hoff 7 h0_, fun h0_ _ => aF hoff 10 h0_, fun h0_ => aF hoff 11 h0_, fun h0_ _ => aF hoff 10 h0_, QX5_, fun h0_ => aF hoff 12 h0_⟩
       refine steps_cons ?_ ?_
       ·rintro b a w' ⟨s6_, s7_, n5_, s10_, s11_, m5_, m12_, ha, QHW, QHP, QHD, QHS0, QHM0, QHA0, QHM1, QHA1, QP0_1, QX5_, QX12_⟩ hb_ hon hoff; refine ⟨_, rfl, fun K hK => ?_⟩; have e49 := ef ha 49 (u3); have e55 := ek ha 3 6 55 (s6_) hon; replace ha := sd ha; have HW := sd QHW; have HP := sd QHP; have HD := sd (QHD hb_); have HM0 := sd (QHM0 (aC hon 6) hb_); obtain ⟨aR, cR, hs, hcR, hCR⟩ := Kd.R_reads HM0.out; rw [hs] at e55; refine cat_step_at (Kd.int .u8) intKM wd w' wd.heap.size (by rfl) (.tmp 49) (.tmp 55) 22 5 (.int .u8 0) 1 rfl Tryd.underlying22 infoU8 rfl (by decide) (by omega) (u3) (pr) (be8s [lo, hi]) (aR) ((be8s [lo, hi]).length) (cR) (eval_of e49) (eval_of e55) (HD.out) (hCR) HW.out HW.out.size (by first | omega | (simp only [List.length_append, List.length_cons, List.length_nil, be8s_len]; omega)) ?_; intro v1 w1 ho hb hg hat; refine hK.out _ _ ⟨s6_, v1, n5_, s10_, s11_, m5_, m12_, uk ha.out 4 hb_ rfl rfl rfl, hb, blk_grown HP.out hg (Kd.R_ne HD.out HP.out (by decide)), fun h0_ => aU b 7 h0_, fun _ h1_ => aT hon 6 h1_, fun _ h1_ => aU b 7 h1_, fun _ _ => ho, fun h0_ _ => aF hoff 10 h0_, fun h0_ => aF hoff 11 h0_, fun _ h1_ => aU b 7 h1_, QX5_, fun h0_ => aF hoff 12 h0_⟩
       refine steps_cons ?_ ?_
       ·rintro b a w' ⟨s6_, s7_, n5_, s10_, s11_, m5_, m12_, ha, QHW, QHP, QHD, QHS0, QHM0, QHA0, QHM1, QHA1, QP0_1, QX5_, QX12_⟩ hb_ hon hoff; refine ⟨_, rfl, fun K hK => ?_⟩; have e57 := ef ha 57 (.pointer (some ⟨wr.heap.size, 4, none⟩)); replace ha := sd ha; have HW := sd QHW; have HP := sd QHP; have q0 := (blk_cell HP.out 4).trans (rfl : _ = some (Value.string tx)); refine value_ (w1 := w') (v := .string tx) (by rfl) rfl ?_ ?_
        ·go_simp; (try simp only [i64_w]); try rfl
        refine hK.out _ _ ⟨s6_, s7_, n5_, s10_, s11_, m5_, m12_, uk ha.out 5 hb_ rfl rfl rfl, QHW, QHP, QHD, QHS0, QHM0, QHA0, fun h0_ _ => aF hoff 10 h0_, fun h0_ => aF hoff 11 h0_, fun h0_ _ => aF hoff 10 h0_, QX5_, fun h0_ => aF hoff 12 h0_⟩
       refine steps_cons ?_ ?_
       ·rintro b a w' ⟨s6_, s7_, n5_, s10_, s11_, m5_, m12_, ha, QHW, QHP, QHD, QHS0, QHM0, QHA0, QHM1, QHA1, QP0_1, QX5_, QX12_⟩ hb_ hon hoff; refine ⟨_, rfl, fun K hK => ?_⟩; have e58 := ek ha 5 9 58 (.string tx) hon; replace ha := sd ha; have HW := sd QHW; have HP := sd QHP; have HA0 := sd (QHA0 (aC hon 7) (aC hoff 11)); refine goes_ Tryd.func77 (by kernel_rfl) rfl #[.string tx] (by rfl) rfl rfl (ev1 e58) ?_; refine (txt_calls tx w').mono ?_; rintro e w2 ⟨v2, rfl, hR, hB⟩; refine ⟨_, rfl, ?_⟩; refine hK.out _ _ ⟨s6_, s7_, n5_, v2, s11_, m5_, m12_, uk ha.out 6 hb_ rfl rfl rfl, below_step HW.out hB, blk_below HP.out hB, fun h0_ => aT hon 7 h0_, fun _ h1_ => aT hon 6 h1_, fun _ h1_ => aT hon 7 h1_, fun _ _ => Kd.R_below HA0.out hB, fun _ _ => Kd.R_lower hR HW.out.size, fun h0_ => aF hoff 11 h0_, fun _ h1_ => aT hon 7 h1_, QX5_, fun h0_ => aF hoff 12 h0_⟩
       refine steps_cons ?_ ?_
       ·rintro b a w' ⟨s6_, s7_, n5_, s10_, s11_, m5_, m12_, ha, QHW, QHP, QHD, QHS0, QHM0, QHA0, QHM1, QHA1, QP0_1, QX5_, QX12_⟩ hb_ hon hoff; refine ⟨_, rfl, fun K hK => ?_⟩; have e56 := ek ha 4 7 56 (s7_) hon; have e59 := ek ha 6 10 59 (s10_) hon; replace ha := sd ha; have HW := sd QHW; have HP := sd QHP; have HA0 := sd (QHA0 (aC hon 7) hb_); have HM1 := sd (QHM1 (aC hon 10) hb_); obtain ⟨aR, cR, hs, hcR, hCR⟩ := Kd.R_reads HM1.out; rw [hs] at e59; refine cat_step_at (Kd.int .u8) intKM wd w' wd.heap.size (by rfl) (.tmp 56) (.tmp 59) 22 5 (.int .u8 0) 1 rfl Tryd.underlying22 infoU8 rfl (by decide) (by omega) (s7_) (pr ++ be8s [lo, hi]) (text8 tx) (aR) ((text8 tx).length) (cR) (eval_of e56) (eval_of e59) (HA0.out) (hCR) HW.out HW.out.size (by first | omega | (simp only [List.length_append, List.length_cons, List.length_nil, be8s_len]; omega)) ?_; intro v1 w1 ho hb hg hat; refine hK.out _ _ ⟨s6_, s7_, n5_, s10_, v1, m5_, m12_, uk ha.out 7 hb_ rfl rfl rfl, hb, blk_grown HP.out hg (Kd.R_ne HA0.out HP.out (by decide)), fun h0_ => aT hon 7 h0_, fun _ h1_ => aT hon 6 h1_, fun _ h1_ => aT hon 7 h1_, fun _ h1_ => aU b 11 h1_, fun _ h1_ => aU b 11 h1_, fun _ => ho, fun _ h1_ => aT hon 7 h1_, QX5_, fun h0_ => aF hoff 12 h0_⟩
       refine steps_cons ?_ ?_
       ·rintro b a w' ⟨s6_, s7_, n5_, s10_, s11_, m5_, m12_, ha, QHW, QHP, QHD, QHS0, QHM0, QHA0, QHM1, QHA1, QP0_1, QX5_, QX12_⟩ hb_ hon hoff; refine ⟨_, rfl, fun K hK => ?_⟩; have e60 := ek ha 7 11 60 (s11_) hon; replace ha := sd ha; have HW := sd QHW; have HP := sd QHP; have HA1 := sd (QHA1 (aC hon 11)); refine value_ (w1 := w') (v := s11_) (by rfl) rfl ?_ ?_
        ·go_simp; (try simp only [i64_w]); try rfl
        refine hK.out _ _ ⟨s6_, s7_, n5_, s10_, s11_, m5_, (s11_), uk ha.out 8 hb_ rfl rfl rfl, QHW, QHP, fun h0_ => aT hon 7 h0_, fun _ h1_ => aT hon 6 h1_, fun _ h1_ => aT hon 7 h1_, fun _ h1_ => aT hon 11 h1_, fun _ h1_ => aT hon 11 h1_, QHA1, fun _ h1_ => aT hon 7 h1_, QX5_, fun _ => rfl⟩
       exact steps_nil
      ·rintro b a w' hall ⟨s6_, s7_, n5_, s10_, s11_, m5_, m12_, ha, QHW, QHP, QHD, QHS0, QHM0, QHA0, QHM1, QHA1, QP0_1, QX5_, QX12_⟩; clear HD HP HW; have hb2_ := hall 2 (by kernel_rfl); have hb4_ := hall 4 (by kernel_rfl); have hb5_ := hall 5 (by kernel_rfl); have hb6_ := hall 6 (by kernel_rfl); have hb7_ := hall 7 (by kernel_rfl); have hb9_ := hall 9 (by kernel_rfl); have hb10_ := hall 10 (by kernel_rfl); have hb11_ := hall 11 (by kernel_rfl); have hb12_ := hall 12 (by kernel_rfl); subst ha; obtain rfl := QX5_ hb5_; obtain rfl := QX12_ hb12_; simp only [putSel, hb2_, hb4_, hb5_, hb6_, hb7_, hb9_, hb10_, hb11_, hb12_, if_true, Act.put, List.setIfInBounds_toArray, List.set_cons_zero, List.set_cons_succ]; have HW := sd QHW; clear QHW; have HP := sd QHP; clear QHP; clear QHD; clear QHS0; clear QHM0; clear QHA0; clear QHM1; have HA1 := sd (QHA1 hb11_); clear QHA1; clear QP0_1; clear hall hb2_ hb4_ hb5_ hb6_ hb7_ hb9_ hb10_ hb11_ hb12_; go_wp2
       go_roundw
       case rel => exact ⟨j + 1, by omega, by go_num, ⟨by rw [HE2.out]; exact HA1.out⟩, HW⟩
       case measure => simp [intOf]; omega
    ·obtain rfl : j = l6.length := by omega
     go_wp2_with fail; go_meet
     case rel => exact ⟨⟨by have := HO.out; rwa [List.take_length] at this⟩, HWr⟩
  case rest =>
   obtain ⟨HOa, HW2b⟩ := hcut; clear HW1 HO1 HW2 q6 r6 hlx hly
   have hP2 : (p1 ++ l6.flatMap cB).length ≤ 60000000 := by
    have h1 := flatMap_le cB 529 cB_le l6; rw [List.length_append]; omega
   have HE3 : Hid (opB k kc kq kh ka kt l6 l7 l8 = p1 ++ l6.flatMap cB ++ [(l7.length : Int) % 256] ++ l7.flatMap aB ++ text8 (strOfNums l8)) := HE1; clear HE1 hP; generalize p1 ++ l6.flatMap cB = p2 at HOa HE3 hP2; have hx3 := blk_below HX.out HW2b.out; have q7 := blk_cell hx3 7; have hlx := blk_lt hx3; clear hx3
   go_upto_block 2 with (first | ((with_reducible refine gate_builtin (b := .append) (xs := #[.tmp 62, .tmp 67]) rfl ?_); at_builtin; refine Kd.R_append (Kd.int .u8) (w0 := wd) (wd.heap.size) rfl (.tmp 62) (.tmp 67) 22 5 (.int .u8 0) 1 rfl Tryd.underlying22 infoU8 rfl (by decide) (by omega) (u3) (p2) ((l7.length : Int) % 256) [.int .u8 ((l7.length : Int) % 256)] (fun _ => True) (fun _ => False) rfl rfl ?aP (fun _ hk => hk.elim) ?aF ?aO ?aB ?aS ?aL ?_; (case aP => exact rfl); (case aB => exact (by repeat (with_reducible first | exact HW2b.out | apply below_alloc | apply pw_below_drewN | apply below_drew1))); (case aF => exact (fun _ _ => trivial)); (case aO => exact (by (with_reducible repeat (first | apply Kd.R_alloc | apply Kd.R_drewN | apply Kd.R_drew)); exact HOa.out)); (case aS => exact (below_size (by repeat (with_reducible first | exact HW2b.out | apply below_alloc | apply pw_below_drewN | apply below_drew1)))); (case aL => omega); intro v1 w1 ho hb hg hat; have HO1 := sd ho; have HW2 := sd hb; have hx2 := (blk_below HX.out hb); have r7 := blk_cell hx2 7; have hly := blk_lt hx2; clear ho hb hg hat hx2))
   have hP3 : (p2 ++ [(l7.length : Int) % 256]).length ≤ 60000001 := by simp; omega
   have HE4 : Hid (opB k kc kq kh ka kt l6 l7 l8 = p2 ++ [(l7.length : Int) % 256] ++ l7.flatMap aB ++ text8 (strOfNums l8)) := HE3; clear HE3 HOa hP2; generalize p2 ++ [(l7.length : Int) % 256] = p3 at HO1 HE4 hP3
   go_cut [3] (fun v wx => Aside0 (Kd.R (Kd.int .u8) 5 wx wd.heap.size (fun _ => True) v (p3 ++ l7.flatMap aB)) ∧ Aside0 (Below wd.heap.size wd wx))
   case first =>
    go_wp2_with fail
    go_loopw [3, 72] (fun v i wr => ∃ j : Nat, j ≤ l7.length ∧ i = .int .i64 (j : Int) ∧ Aside0 (Kd.R (Kd.int .u8) 5 wr wd.heap.size (fun _ => True) v (p3 ++ (l7.take j).flatMap aB)) ∧ Aside0 (Below wd.heap.size wd wr)) (fun _ i _ => l7.length - (intOf i).toNat)
    case atStart => exact ⟨0, Nat.zero_le _, rfl, ⟨by simpa using HO1.out⟩, HW2⟩
    case round =>
     obtain ⟨j, hj, rfl, HO, HWr⟩ := hrel
     by_cases hlt : j < l7.length
     ·obtain ⟨ad, x, rfl, hx, d0, d1, d2, d3⟩ := at_At (Kd.C_below H7w.out (below_step HB.out HWr.out)) j hlt; obtain ⟨nm, it, n, tx⟩ := x; obtain ⟨pr, hpr⟩ : ∃ pr, p3 ++ (l7.take j).flatMap aB = pr := ⟨_, rfl⟩
      have hpl : pr.length ≤ 130000000 := by
       have h1 := flatMap_le aB 521 aB_le (l7.take j); rw [List.length_take] at h1; rw [← hpr, List.length_append]; omega
      have HE2 : Hid (p3 ++ (l7.take (j + 1)).flatMap aB = pr ++ text8 nm ++ [fl it] ++ be8s [n] ++ text8 tx) := Lib.hid (by rw [take_snocF aB hx, ← List.append_assoc, hpr]; simp [aB, List.append_assoc]); rw [hpr] at HO; clear hpr; have htn := text8_le nm; have htt := text8_le tx; clear hx; have HP := sd (blk_new wr (.cells #[.string nm, .bool it, .int .i64 n, .string tx] 59)); have HD := sd (Kd.R_alloc HO.out (.cells #[.string nm, .bool it, .int .i64 n, .string tx] 59)); have HW := sd (below_alloc HWr.out (.cells #[.string nm, .bool it, .int .i64 n, .string tx] 59))
      go_upto_region 13 with fail
      generalize (wr.alloc (.cells #[.string nm, .bool it, .int .i64 n, .string tx] 59)) = wq at *
      go_cut [3] from 73 to 99 (fun v wx => Aside0 (Kd.R (Kd.int .u8) 5 wx wd.heap.size (fun _ => True) v (pr ++ text8 nm ++ [fl it])) ∧ Aside0 (wx.heap[wr.heap.size]? = some (.cells #[.string nm, .bool it, .int .i64 n, .string tx] 59 (0, 0))) ∧ Aside0 (Below wd.heap.size wd wx))
      case first =>
       refine start_ (n := 12) (S := fun w' => True) (ds := []) #[false, false, false, false, false, false, false, false, false, false, false, false] (by kernel_rfl) rfl rfl trivial (fun hHeld => ?_); refine with_tabW cpReg.tab13 cpReg.bits13 (fun HT_ HW_ => ?_); refine pure_ (i := 0) (N := some 76) (v := ?_) (a' := ?_) #[true, false, false, false, false, false, false, false, false, false, false, false] rfl rfl (any_of HT_.out (by kernel_rfl)) (fun _ _ _ h => h) (Or.inl ⟨by rfl, ?_⟩) ?_ ?_
       rotate_left
       ·intro w'; go_simp
        with_reducible rfl
       rotate_left
       ·simp only [Act.put, List.setIfInBounds_toArray, List.set_cons_zero, List.set_cons_succ, i64_w, i32_w]; rfl
       refine pure_ (i := 1) (N := some 77) (v := ?_) (a' := ?_) #[true, true, false, false, false, false, false, false, false, false, false, false] rfl rfl (any_of HT_.out (by kernel_rfl)) (fun _ _ _ h => h) (Or.inl ⟨by rfl, ?_⟩) ?_ ?_
       rotate_left
       ·intro w'; go_simp
        with_reducible rfl
       rotate_left
       ·simp only [Act.put, List.setIfInBounds_toArray, List.set_cons_zero, List.set_cons_succ, i64_w, i32_w]; rfl
       refine pure_ (i := 5) (N := some 81) (v := ?_) (a' := ?_) #[true, true, false, false, false, true, false, false, false, false, false, false] rfl rfl (any_of HT_.out (by kernel_rfl)) (fun _ _ _ h => h) (Or.inl ⟨by rfl, ?_⟩) ?_ ?_
       rotate_left
       ·intro w'; go_simp
        with_reducible rfl
       rotate_left
       ·simp only [Act.put, List.setIfInBounds_toArray, List.set_cons_zero, List.set_cons_succ, i64_w, i32_w]; rfl
       refine pure_ (i := 6) (N := some 82) (v := ?_) (a' := ?_) #[true, true, false, false, false, true, true, false, false, false, false, false] rfl rfl (any_of HT_.out (by kernel_rfl)) (fun _ _ _ h => h) (Or.inl ⟨by rfl, ?_⟩) ?_ ?_
       rotate_left
       ·intro w'; go_simp
        with_reducible rfl
       rotate_left
       ·simp only [Act.put, List.setIfInBounds_toArray, List.set_cons_zero, List.set_cons_succ, i64_w, i32_w]; rfl
       refine inv_at [2, 3, 4, 7, 8, 9, 10, 11] (fun a0_ b a w' => ∃ (s3_ : Value) (s4_ : Value) (b9_ : Nat) (s10_ : Value) (m9_ : Value) (m11_ : Value), a = putSel a0_ b [(2, 78, .string nm), (3, 79, s3_), (4, 80, s4_), (7, 83, .bool it), (8, 84, .int .u8 (fl it)), (9, 85, m9_), (10, 86, s10_), (11, 3, m11_)] ∧ (Below wd.heap.size wd w') ∧ (w'.heap[wr.heap.size]? = some (.cells #[.string nm, .bool it, .int .i64 n, .string tx] 59 (0, 0))) ∧ (b 4 = false → Kd.R (Kd.int .u8) 5 w' wd.heap.size (fun _ => True) (u3) (pr)) ∧ (b 3 = true → b 4 = false → Kd.R (Kd.int .u8) 5 w' wd.heap.size (fun _ => True) (s3_) (text8 nm)) ∧ (b 4 = true → b 10 = false → Kd.R (Kd.int .u8) 5 w' wd.heap.size (fun _ => True) (s4_) (pr ++ text8 nm)) ∧ (b 9 = true → b 10 = false → Kd.R (Kd.int .u8) 5 w' wd.heap.size (fun _ => True) (.slice (some ⟨b9_, 0, none⟩) 1 1) ([fl it])) ∧ (b 10 = true → Kd.R (Kd.int .u8) 5 w' wd.heap.size (fun _ => True) (s10_) (pr ++ text8 nm ++ [fl it])) ∧ (b 9 = true → b 4 = false → Far (u3) (.slice (some ⟨b9_, 0, none⟩) 1 1)) ∧ (b 9 = true → (m9_ : Value) = .slice (some ⟨b9_, 0, none⟩) 1 1) ∧ (b 11 = true → (m11_ : Value) = s10_)) HT_.out HW_.out (by kernel_rfl) (by kernel_rfl) ?_ ?_ ?_
       ·exact ⟨.bool false, .bool false, 0, .bool false, .bool false, .bool false, by simp only [putSel, Bool.false_eq_true, if_false], below_drew HW.out, HP.out, fun _ => HD.out, fun h_ => absurd h_ (by decide), fun h_ => absurd h_ (by decide), fun h_ => absurd h_ (by decide), fun h_ => absurd h_ (by decide), fun h_ => absurd h_ (by decide), fun h_ => absurd h_ (by decide), fun h_ => absurd h_ (by decide)⟩
       ·skip
        clear HD HP HW; refine steps_cons ?_ ?_
        ·rintro b a w' ⟨s3_, s4_, b9_, s10_, m9_, m11_, ha, QHW, QHP, QHD, QHM0, QHA0, QHM1, QHA1, QP0_1, QX9_, QX11_⟩ hb_ hon hoff; refine ⟨_, rfl, fun K hK => ?_⟩; have e77 := ef ha 77 (.pointer (some ⟨wr.heap.size, 0, none⟩)); replace ha := sd ha; have HW := sd QHW; have HP := sd QHP; have HD := sd (QHD (aC hoff 4)); have q0 := (blk_cell HP.out 0).trans (rfl : _ = some (Value.string nm)); refine value_ (w1 := w') (v := .string nm) (by rfl) rfl ?_ ?_
         ·go_simp; (try simp only [i64_w]); try rfl
         refine hK.out _ _ ⟨s3_, s4_, b9_, s10_, m9_, m11_, uk ha.out 0 hb_ rfl rfl rfl, QHW, QHP, QHD, fun h0_ _ => aF hoff 3 h0_, fun h0_ _ => aF hoff 4 h0_, fun h0_ _ => aF hoff 9 h0_, fun h0_ => aF hoff 10 h0_, fun h0_ _ => aF hoff 9 h0_, fun h0_ => aF hoff 9 h0_, fun h0_ => aF hoff 11 h0_⟩
        refine steps_cons ?_ ?_
        ·rintro b a w' ⟨s3_, s4_, b9_, s10_, m9_, m11_, ha, QHW, QHP, QHD, QHM0, QHA0, QHM1, QHA1, QP0_1, QX9_, QX11_⟩ hb_ hon hoff; refine ⟨_, rfl, fun K hK => ?_⟩; have e78 := ek ha 0 2 78 (.string nm) hon; replace ha := sd ha; have HW := sd QHW; have HP := sd QHP; have HD := sd (QHD (aC hoff 4)); refine goes_ Tryd.func77 (by kernel_rfl) rfl #[.string nm] (by rfl) rfl rfl (ev1 e78) ?_; refine (txt_calls nm w').mono ?_; rintro e w2 ⟨v2, rfl, hR, hB⟩; refine ⟨_, rfl, ?_⟩; refine hK.out _ _ ⟨v2, s4_, b9_, s10_, m9_, m11_, uk ha.out 1 hb_ rfl rfl rfl, below_step HW.out hB, blk_below HP.out hB, fun _ => Kd.R_below HD.out hB, fun _ _ => Kd.R_lower hR HW.out.size, fun h0_ _ => aF hoff 4 h0_, fun h0_ _ => aF hoff 9 h0_, fun h0_ => aF hoff 10 h0_, fun h0_ _ => aF hoff 9 h0_, fun h0_ => aF hoff 9 h0_, fun h0_ => aF hoff 11 h0_⟩
        refine steps_cons ?_ ?_
        ·rintro b a w' ⟨s3_, s4_, b9_, s10_, m9_, m11_, ha, QHW, QHP, QHD, QHM0, QHA0, QHM1, QHA1, QP0_1, QX9_, QX11_⟩ hb_ hon hoff; refine ⟨_, rfl, fun K hK => ?_⟩; have e76 := ef ha 76 (u3); have e79 := ek ha 1 3 79 (s3_) hon; replace ha := sd ha; have HW := sd QHW; have HP := sd QHP; have HD := sd (QHD hb_); have HM0 := sd (QHM0 (aC hon 3) hb_); obtain ⟨aR, cR, hs, hcR, hCR⟩ := Kd.R_reads HM0.out; rw [hs] at e79; refine cat_step_at (Kd.int .u8) intKM wd w' wd.heap.size (by rfl) (.tmp 76) (.tmp 79) 22 5 (.int .u8 0) 1 rfl Tryd.underlying22 infoU8 rfl (by decide) (by omega) (u3) (pr) (text8 nm) (aR) ((text8 nm).length) (cR) (eval_of e76) (eval_of e79) (HD.out) (hCR) HW.out HW.out.size (by first | omega | (simp only [List.length_append, List.length_cons, List.length_nil, be8s_len]; omega)) ?_; intro v1 w1 ho hb hg hat; refine hK.out _ _ ⟨s3_, v1, b9_, s10_, m9_, m11_, uk ha.out 2 hb_ rfl rfl rfl, hb, blk_grown HP.out hg (Kd.R_ne HD.out HP.out (by decide)), fun h0_ => aU b 4 h0_, fun _ h1_ => aU b 4 h1_, fun _ _ => ho, fun h0_ _ => aF hoff 9 h0_, fun h0_ => aF hoff 10 h0_, fun _ h1_ => aU b 4 h1_, fun h0_ => aF hoff 9 h0_, fun h0_ => aF hoff 11 h0_⟩
        refine steps_cons ?_ ?_
        ·rintro b a w' ⟨s3_, s4_, b9_, s10_, m9_, m11_, ha, QHW, QHP, QHD, QHM0, QHA0, QHM1, QHA1, QP0_1, QX9_, QX11_⟩ hb_ hon hoff; refine ⟨_, rfl, fun K hK => ?_⟩; have e82 := ef ha 82 (.pointer (some ⟨wr.heap.size, 1, none⟩)); replace ha := sd ha; have HW := sd QHW; have HP := sd QHP; have q0 := (blk_cell HP.out 1).trans (rfl : _ = some (Value.bool it)); refine value_ (w1 := w') (v := .bool it) (by rfl) rfl ?_ ?_
         ·go_simp; (try simp only [i64_w]); try rfl
         refine hK.out _ _ ⟨s3_, s4_, b9_, s10_, m9_, m11_, uk ha.out 3 hb_ rfl rfl rfl, QHW, QHP, QHD, QHM0, QHA0, fun h0_ _ => aF hoff 9 h0_, fun h0_ => aF hoff 10 h0_, fun h0_ _ => aF hoff 9 h0_, fun h0_ => aF hoff 9 h0_, fun h0_ => aF hoff 11 h0_⟩
        refine steps_cons ?_ ?_
        ·rintro b a w' ⟨s3_, s4_, b9_, s10_, m9_, m11_, ha, QHW, QHP, QHD, QHM0, QHA0, QHM1, QHA1, QP0_1, QX9_, QX11_⟩ hb_ hon hoff; refine ⟨_, rfl, fun K hK => ?_⟩; have e83 := ek ha 3 7 83 (.bool it) hon; replace ha := sd ha; have HW := sd QHW; have HP := sd QHP; have HA0 := sd (QHA0 (aC hon 4) (aC hoff 10)); refine goes_ Tryd.func78 (by kernel_rfl) rfl #[.bool it] (by rfl) rfl rfl (ev1 e83) ?_; refine (flag_calls it w').mono ?_; rintro e w2 ⟨rfl, rfl⟩; refine ⟨_, rfl, ?_⟩; refine hK.out _ _ ⟨s3_, s4_, b9_, s10_, m9_, m11_, uk ha.out 4 hb_ rfl rfl rfl, HW.out, HP.out, fun h0_ => aT hon 4 h0_, fun _ h1_ => aT hon 4 h1_, fun _ _ => HA0.out, fun h0_ _ => aF hoff 9 h0_, fun h0_ => aF hoff 10 h0_, fun h0_ _ => aF hoff 9 h0_, fun h0_ => aF hoff 9 h0_, fun h0_ => aF hoff 11 h0_⟩
        refine steps_cons ?_ ?_
        ·rintro b a w' ⟨s3_, s4_, b9_, s10_, m9_, m11_, ha, QHW, QHP, QHD, QHM0, QHA0, QHM1, QHA1, QP0_1, QX9_, QX11_⟩ hb_ hon hoff; refine ⟨_, rfl, fun K hK => ?_⟩; have e84 := ek ha 4 8 84 (.int .u8 (fl it)) hon; replace ha := sd ha; have HW := sd QHW; have HP := sd QHP; have HA0 := sd (QHA0 (aC hon 4) (aC hoff 10)); refine value_ (w1 := w'.alloc (.cells #[.int .u8 (fl it)] 5)) (v := .slice (some ⟨w'.heap.size, 0, none⟩) 1 1) (by rfl) rfl (by go_simp) ?_; refine hK.out _ _ ⟨s3_, s4_, w'.heap.size, s10_, (.slice (some ⟨w'.heap.size, 0, none⟩) 1 1), m11_, uk ha.out 5 hb_ rfl rfl rfl, below_alloc HW.out _, blk_alloc HP.out _, fun h0_ => aT hon 4 h0_, fun _ h1_ => aT hon 4 h1_, fun _ _ => Kd.R_alloc HA0.out _, fun _ _ => Kd.R_lower (own_oneR w' _) HW.out.size, fun h0_ => aF hoff 10 h0_, fun _ h1_ => aT hon 4 h1_, fun _ => rfl, fun h0_ => aF hoff 11 h0_⟩
        refine steps_cons ?_ ?_
        ·rintro b a w' ⟨s3_, s4_, b9_, s10_, m9_, m11_, ha, QHW, QHP, QHD, QHM0, QHA0, QHM1, QHA1, QP0_1, QX9_, QX11_⟩ hb_ hon hoff; refine ⟨_, rfl, fun K hK => ?_⟩; have e80 := ek ha 2 4 80 (s4_) hon; have e85 := ek ha 5 9 85 (m9_) hon; rw [QX9_ (aC hon 9)] at e85; replace ha := sd ha; have HW := sd QHW; have HP := sd QHP; have HA0 := sd (QHA0 (aC hon 4) hb_); have HM1 := sd (QHM1 (aC hon 9) hb_); obtain ⟨aR, cR, hs, hcR, hCR⟩ := Kd.R_reads HM1.out; rw [hs] at e85; refine cat_step_at (Kd.int .u8) intKM wd w' wd.heap.size (by rfl) (.tmp 80) (.tmp 85) 22 5 (.int .u8 0) 1 rfl Tryd.underlying22 infoU8 rfl (by decide) (by omega) (s4_) (pr ++ text8 nm) ([fl it]) (aR) (([fl it]).length) (cR) (eval_of e80) (eval_of e85) (HA0.out) (hCR) HW.out HW.out.size (by first | omega | (simp only [List.length_append, List.length_cons, List.length_nil, be8s_len]; omega)) ?_; intro v1 w1 ho hb hg hat; refine hK.out _ _ ⟨s3_, s4_, b9_, v1, m9_, m11_, uk ha.out 6 hb_ rfl rfl rfl, hb, blk_grown HP.out hg (Kd.R_ne HA0.out HP.out (by decide)), fun h0_ => aT hon 4 h0_, fun _ h1_ => aT hon 4 h1_, fun _ h1_ => aU b 10 h1_, fun _ h1_ => aU b 10 h1_, fun _ => ho, fun _ h1_ => aT hon 4 h1_, QX9_, fun h0_ => aF hoff 11 h0_⟩
        refine steps_cons ?_ ?_
        ·rintro b a w' ⟨s3_, s4_, b9_, s10_, m9_, m11_, ha, QHW, QHP, QHD, QHM0, QHA0, QHM1, QHA1, QP0_1, QX9_, QX11_⟩ hb_ hon hoff; refine ⟨_, rfl, fun K hK => ?_⟩; have e86 := ek ha 6 10 86 (s10_) hon; replace ha := sd ha; have HW := sd QHW; have HP := sd QHP; have HA1 := sd (QHA1 (aC hon 10)); refine value_ (w1 := w') (v := s10_) (by rfl) rfl ?_ ?_
         ·go_simp; (try simp only [i64_w]); try rfl
         refine hK.out _ _ ⟨s3_, s4_, b9_, s10_, m9_, (s10_), uk ha.out 7 hb_ rfl rfl rfl, QHW, QHP, fun h0_ => aT hon 4 h0_, fun _ h1_ => aT hon 4 h1_, fun _ h1_ => aT hon 10 h1_, fun _ h1_ => aT hon 10 h1_, QHA1, fun _ h1_ => aT hon 4 h1_, QX9_, fun _ => rfl⟩
        exact steps_nil
       ·rintro b a w' hall ⟨s3_, s4_, b9_, s10_, m9_, m11_, ha, QHW, QHP, QHD, QHM0, QHA0, QHM1, QHA1, QP0_1, QX9_, QX11_⟩; clear HD HP HW; have hb2_ := hall 2 (by kernel_rfl); have hb3_ := hall 3 (by kernel_rfl); have hb4_ := hall 4 (by kernel_rfl); have hb7_ := hall 7 (by kernel_rfl); have hb8_ := hall 8 (by kernel_rfl); have hb9_ := hall 9 (by kernel_rfl); have hb10_ := hall 10 (by kernel_rfl); have hb11_ := hall 11 (by kernel_rfl); subst ha; obtain rfl := QX9_ hb9_; obtain rfl := QX11_ hb11_; simp only [putSel, hb2_, hb3_, hb4_, hb7_, hb8_, hb9_, hb10_, hb11_, if_true, Act.put, List.setIfInBounds_toArray, List.set_cons_zero, List.set_cons_succ]; have HW := sd QHW; clear QHW; have HP := sd QHP; clear QHP; clear QHD; clear QHM0; clear QHA0; clear QHM1; have HA1 := sd (QHA1 hb10_); clear QHA1; clear QP0_1; clear hall hb2_ hb3_ hb4_ hb7_ hb8_ hb9_ hb10_ hb11_; go_wp2; go_meet
        case rel => exact ⟨HA1, HP, HW⟩
      case rest =>
       obtain ⟨HD2, HP2, HW2c⟩ := hcut; clear HD HP HW HO HWr; have HD := HD2; have HP := HP2; have HW := HW2c; have hpl2 : (pr ++ text8 nm ++ [fl it]).length ≤ 131000000 := by simp only [List.length_append, List.length_cons, List.length_nil]; omega
       clear HD2 HP2 HW2c htn; generalize pr ++ text8 nm ++ [fl it] = pr at HD HE2 hpl2
       go_upto_region 14 with fail
       refine start_ (n := 13) (S := fun w' => True) (ds := []) #[false, false, false, false, false, false, false, false, false, false, false, false, false] (by kernel_rfl) rfl rfl trivial (fun hHeld => ?_); refine with_tabW cpReg.tab14 cpReg.bits14 (fun HT_ HW_ => ?_); refine pure_ (i := 0) (N := some 87) (v := ?_) (a' := ?_) #[true, false, false, false, false, false, false, false, false, false, false, false, false] rfl rfl (any_of HT_.out (by kernel_rfl)) (fun _ _ _ h => h) (Or.inl ⟨by rfl, ?_⟩) ?_ ?_
       rotate_left
       ·intro w'; go_simp
        with_reducible rfl
       rotate_left
       ·simp only [Act.put, List.setIfInBounds_toArray, List.set_cons_zero, List.set_cons_succ, i64_w, i32_w]; rfl
       refine pure_ (i := 1) (N := some 88) (v := ?_) (a' := ?_) #[true, true, false, false, false, false, false, false, false, false, false, false, false] rfl rfl (any_of HT_.out (by kernel_rfl)) (fun _ _ _ h => h) (Or.inl ⟨by rfl, ?_⟩) ?_ ?_
       rotate_left
       ·intro w'; go_simp
        with_reducible rfl
       rotate_left
       ·simp only [Act.put, List.setIfInBounds_toArray, List.set_cons_zero, List.set_cons_succ, i64_w, i32_w]; rfl
       refine pure_ (i := 2) (N := some 89) (v := ?_) (a' := ?_) #[true, true, true, false, false, false, false, false, false, false, false, false, false] rfl rfl (any_of HT_.out (by kernel_rfl)) (fun _ _ _ h => h) (Or.inl ⟨by rfl, ?_⟩) ?_ ?_
       rotate_left
       ·intro w'; go_simp
        with_reducible rfl
       rotate_left
       ·simp only [Act.put, List.setIfInBounds_toArray, List.set_cons_zero, List.set_cons_succ, i64_w, i32_w]; rfl
       refine pure_ (i := 7) (N := some 94) (v := ?_) (a' := ?_) #[true, true, true, false, false, false, false, true, false, false, false, false, false] rfl rfl (any_of HT_.out (by kernel_rfl)) (fun _ _ _ h => h) (Or.inl ⟨by rfl, ?_⟩) ?_ ?_
       rotate_left
       ·intro w'; go_simp
        with_reducible rfl
       rotate_left
       ·simp only [Act.put, List.setIfInBounds_toArray, List.set_cons_zero, List.set_cons_succ, i64_w, i32_w]; rfl
       refine pure_ (i := 8) (N := some 95) (v := ?_) (a' := ?_) #[true, true, true, false, false, false, false, true, true, false, false, false, false] rfl rfl (any_of HT_.out (by kernel_rfl)) (fun _ _ _ h => h) (Or.inl ⟨by rfl, ?_⟩) ?_ ?_
       rotate_left
       ·intro w'; go_simp
        with_reducible rfl
       rotate_left
       ·simp only [Act.put, List.setIfInBounds_toArray, List.set_cons_zero, List.set_cons_succ, i64_w, i32_w]; rfl
       refine inv_at [3, 4, 5, 6, 9, 10, 11, 12] (fun a0_ b a w' => ∃ (s5_ : Value) (s6_ : Value) (n4_ : Nat) (s10_ : Value) (s11_ : Value) (m4_ : Value) (m12_ : Value), a = putSel a0_ b [(3, 90, .int .i64 n), (4, 91, m4_), (5, 92, s5_), (6, 93, s6_), (9, 96, .string tx), (10, 97, s10_), (11, 98, s11_), (12, 3, m12_)] ∧ (Below wd.heap.size wd w') ∧ (w'.heap[wr.heap.size]? = some (.cells #[.string nm, .bool it, .int .i64 n, .string tx] 59 (0, 0))) ∧ (b 6 = false → Kd.R (Kd.int .u8) 5 w' wd.heap.size (fun _ => True) (u3) (pr)) ∧ (b 4 = true → b 5 = false → w'.heap[n4_]? = some (.cells #[.int .i64 n] 3 (0, 0))) ∧ (b 5 = true → b 6 = false → Kd.R (Kd.int .u8) 5 w' wd.heap.size (fun _ => True) (s5_) (be8s [n])) ∧ (b 6 = true → b 11 = false → Kd.R (Kd.int .u8) 5 w' wd.heap.size (fun _ => True) (s6_) (pr ++ be8s [n])) ∧ (b 10 = true → b 11 = false → Kd.R (Kd.int .u8) 5 w' wd.heap.size (fun _ => True) (s10_) (text8 tx)) ∧ (b 11 = true → Kd.R (Kd.int .u8) 5 w' wd.heap.size (fun _ => True) (s11_) (pr ++ be8s [n] ++ text8 tx)) ∧ (b 10 = true → b 6 = false → Far (u3) (s10_)) ∧ (b 4 = true → (m4_ : Value) = .slice (some ⟨n4_, 0, none⟩) 1 1) ∧ (b 12 = true → (m12_ : Value) = s11_)) HT_.out HW_.out (by kernel_rfl) (by kernel_rfl) ?_ ?_ ?_
       ·exact ⟨.bool false, .bool false, 0, .bool false, .bool false, .bool false, .bool false, by simp only [putSel, Bool.false_eq_true, if_false], below_drew HW.out, HP.out, fun _ => HD.out, fun h_ => absurd h_ (by decide), fun h_ => absurd h_ (by decide), fun h_ => absurd h_ (by decide), fun h_ => absurd h_ (by decide), fun h_ => absurd h_ (by decide), fun h_ => absurd h_ (by decide), fun h_ => absurd h_ (by decide), fun h_ => absurd h_ (by decide)⟩
       ·skip
        clear HD HP HW; refine steps_cons ?_ ?_
        ·rintro b a w' ⟨s5_, s6_, n4_, s10_, s11_, m4_, m12_, ha, QHW, QHP, QHD, QHS0, QHM0, QHA0, QHM1, QHA1, QP0_1, QX4_, QX12_⟩ hb_ hon hoff; refine ⟨_, rfl, fun K hK => ?_⟩; have e89 := ef ha 89 (.pointer (some ⟨wr.heap.size, 2, none⟩)); replace ha := sd ha; have HW := sd QHW; have HP := sd QHP; have HD := sd (QHD (aC hoff 6)); have q0 := (blk_cell HP.out 2).trans (rfl : _ = some (Value.int .i64 n)); refine value_ (w1 := w') (v := .int .i64 n) (by rfl) rfl ?_ ?_
         ·go_simp; (try simp only [i64_w]); try rfl
         refine hK.out _ _ ⟨s5_, s6_, n4_, s10_, s11_, m4_, m12_, uk ha.out 0 hb_ rfl rfl rfl, QHW, QHP, QHD, fun h0_ _ => aF hoff 4 h0_, fun h0_ _ => aF hoff 5 h0_, fun h0_ _ => aF hoff 6 h0_, fun h0_ _ => aF hoff 10 h0_, fun h0_ => aF hoff 11 h0_, fun h0_ _ => aF hoff 10 h0_, fun h0_ => aF hoff 4 h0_, fun h0_ => aF hoff 12 h0_⟩
        refine steps_cons ?_ ?_
        ·rintro b a w' ⟨s5_, s6_, n4_, s10_, s11_, m4_, m12_, ha, QHW, QHP, QHD, QHS0, QHM0, QHA0, QHM1, QHA1, QP0_1, QX4_, QX12_⟩ hb_ hon hoff; refine ⟨_, rfl, fun K hK => ?_⟩; have e90 := ek ha 0 3 90 (.int .i64 n) hon; replace ha := sd ha; have HW := sd QHW; have HP := sd QHP; have HD := sd (QHD (aC hoff 6)); refine value_ (w1 := w'.alloc (.cells #[.int .i64 n] 3)) (v := .slice (some ⟨w'.heap.size, 0, none⟩) 1 1) (by rfl) rfl (by go_simp) ?_; refine hK.out _ _ ⟨s5_, s6_, w'.heap.size, s10_, s11_, (.slice (some ⟨w'.heap.size, 0, none⟩) 1 1), m12_, uk ha.out 1 hb_ rfl rfl rfl, below_alloc HW.out _, blk_alloc HP.out _, fun _ => Kd.R_alloc HD.out _, fun _ _ => blk_new w' _, fun h0_ _ => aF hoff 5 h0_, fun h0_ _ => aF hoff 6 h0_, fun h0_ _ => aF hoff 10 h0_, fun h0_ => aF hoff 11 h0_, fun h0_ _ => aF hoff 10 h0_, fun _ => rfl, fun h0_ => aF hoff 12 h0_⟩
        refine steps_cons ?_ ?_
        ·rintro b a w' ⟨s5_, s6_, n4_, s10_, s11_, m4_, m12_, ha, QHW, QHP, QHD, QHS0, QHM0, QHA0, QHM1, QHA1, QP0_1, QX4_, QX12_⟩ hb_ hon hoff; refine ⟨_, rfl, fun K hK => ?_⟩; have e91 := ek ha 1 4 91 (m4_) hon; rw [QX4_ (aC hon 4)] at e91; replace ha := sd ha; have HW := sd QHW; have HP := sd QHP; have HD := sd (QHD (aC hoff 6)); have HS0 := sd (QHS0 (aC hon 4) hb_); have hC := C_blk64 (xs := [n]) HS0.out (by simp); refine goes_ Tryd.func66 (by kernel_rfl) rfl #[.slice (some ⟨n4_, 0, none⟩) 1 1] (by rfl) rfl rfl (ev1 e91) ?_; refine (num_calls (some ⟨n4_, 0, none⟩) 1 [n] w' hC (by simp)).mono ?_; rintro e w2 ⟨v2, rfl, hR, hB⟩; refine ⟨_, rfl, ?_⟩; refine hK.out _ _ ⟨v2, s6_, n4_, s10_, s11_, m4_, m12_, uk ha.out 2 hb_ rfl rfl rfl, below_step HW.out hB, blk_below HP.out hB, fun _ => Kd.R_below HD.out hB, fun _ h1_ => aU b 5 h1_, fun _ _ => Kd.R_lower hR HW.out.size, fun h0_ _ => aF hoff 6 h0_, fun h0_ _ => aF hoff 10 h0_, fun h0_ => aF hoff 11 h0_, fun h0_ _ => aF hoff 10 h0_, QX4_, fun h0_ => aF hoff 12 h0_⟩
        refine steps_cons ?_ ?_
        ·rintro b a w' ⟨s5_, s6_, n4_, s10_, s11_, m4_, m12_, ha, QHW, QHP, QHD, QHS0, QHM0, QHA0, QHM1, QHA1, QP0_1, QX4_, QX12_⟩ hb_ hon hoff; refine ⟨_, rfl, fun K hK => ?_⟩; have e87 := ef ha 87 (u3); have e92 := ek ha 2 5 92 (s5_) hon; replace ha := sd ha; have HW := sd QHW; have HP := sd QHP; have HD := sd (QHD hb_); have HM0 := sd (QHM0 (aC hon 5) hb_); obtain ⟨aR, cR, hs, hcR, hCR⟩ := Kd.R_reads HM0.out; rw [hs] at e92; refine cat_step_at (Kd.int .u8) intKM wd w' wd.heap.size (by rfl) (.tmp 87) (.tmp 92) 22 5 (.int .u8 0) 1 rfl Tryd.underlying22 infoU8 rfl (by decide) (by omega) (u3) (pr) (be8s [n]) (aR) ((be8s [n]).length) (cR) (eval_of e87) (eval_of e92) (HD.out) (hCR) HW.out HW.out.size (by first | omega | (simp only [List.length_append, List.length_cons, List.length_nil, be8s_len]; omega)) ?_; intro v1 w1 ho hb hg hat; refine hK.out _ _ ⟨s5_, v1, n4_, s10_, s11_, m4_, m12_, uk ha.out 3 hb_ rfl rfl rfl, hb, blk_grown HP.out hg (Kd.R_ne HD.out HP.out (by decide)), fun h0_ => aU b 6 h0_, fun _ h1_ => aT hon 5 h1_, fun _ h1_ => aU b 6 h1_, fun _ _ => ho, fun h0_ _ => aF hoff 10 h0_, fun h0_ => aF hoff 11 h0_, fun _ h1_ => aU b 6 h1_, QX4_, fun h0_ => aF hoff 12 h0_⟩
        refine steps_cons ?_ ?_
        ·rintro b a w' ⟨s5_, s6_, n4_, s10_, s11_, m4_, m12_, ha, QHW, QHP, QHD, QHS0, QHM0, QHA0, QHM1, QHA1, QP0_1, QX4_, QX12_⟩ hb_ hon hoff; refine ⟨_, rfl, fun K hK => ?_⟩; have e95 := ef ha 95 (.pointer (some ⟨wr.heap.size, 3, none⟩)); replace ha := sd ha; have HW := sd QHW; have HP := sd QHP; have q0 := (blk_cell HP.out 3).trans (rfl : _ = some (Value.string tx)); refine value_ (w1 := w') (v := .string tx) (by rfl) rfl ?_ ?_
         ·go_simp; (try simp only [i64_w]); try rfl
         refine hK.out _ _ ⟨s5_, s6_, n4_, s10_, s11_, m4_, m12_, uk ha.out 4 hb_ rfl rfl rfl, QHW, QHP, QHD, QHS0, QHM0, QHA0, fun h0_ _ => aF hoff 10 h0_, fun h0_ => aF hoff 11 h0_, fun h0_ _ => aF hoff 10 h0_, QX4_, fun h0_ => aF hoff 12 h0_⟩
        refine steps_cons ?_ ?_
        ·rintro b a w' ⟨s5_, s6_, n4_, s10_, s11_, m4_, m12_, ha, QHW, QHP, QHD, QHS0, QHM0, QHA0, QHM1, QHA1, QP0_1, QX4_, QX12_⟩ hb_ hon hoff; refine ⟨_, rfl, fun K hK => ?_⟩; have e96 := ek ha 4 9 96 (.string tx) hon; replace ha := sd ha; have HW := sd QHW; have HP := sd QHP; have HA0 := sd (QHA0 (aC hon 6) (aC hoff 11)); refine goes_ Tryd.func77 (by kernel_rfl) rfl #[.string tx] (by rfl) rfl rfl (ev1 e96) ?_; refine (txt_calls tx w').mono ?_; rintro e w2 ⟨v2, rfl, hR, hB⟩; refine ⟨_, rfl, ?_⟩; refine hK.out _ _ ⟨s5_, s6_, n4_, v2, s11_, m4_, m12_, uk ha.out 5 hb_ rfl rfl rfl, below_step HW.out hB, blk_below HP.out hB, fun h0_ => aT hon 6 h0_, fun _ h1_ => aT hon 5 h1_, fun _ h1_ => aT hon 6 h1_, fun _ _ => Kd.R_below HA0.out hB, fun _ _ => Kd.R_lower hR HW.out.size, fun h0_ => aF hoff 11 h0_, fun _ h1_ => aT hon 6 h1_, QX4_, fun h0_ => aF hoff 12 h0_⟩
        refine steps_cons ?_ ?_
        ·rintro b a w' ⟨s5_, s6_, n4_, s10_, s11_, m4_, m12_, ha, QHW, QHP, QHD, QHS0, QHM0, QHA0, QHM1, QHA1, QP0_1, QX4_, QX12_⟩ hb_ hon hoff; refine ⟨_, rfl, fun K hK => ?_⟩; have e93 := ek ha 3 6 93 (s6_) hon; have e97 := ek ha 5 10 97 (s10_) hon; replace ha := sd ha; have HW := sd QHW; have HP := sd QHP; have HA0 := sd (QHA0 (aC hon 6) hb_); have HM1 := sd (QHM1 (aC hon 10) hb_); obtain ⟨aR, cR, hs, hcR, hCR⟩ := Kd.R_reads HM1.out; rw [hs] at e97; refine cat_step_at (Kd.int .u8) intKM wd w' wd.heap.size (by rfl) (.tmp 93) (.tmp 97) 22 5 (.int .u8 0) 1 rfl Tryd.underlying22 infoU8 rfl (by decide) (by omega) (s6_) (pr ++ be8s [n]) (text8 tx) (aR) ((text8 tx).length) (cR) (eval_of e93) (eval_of e97) (HA0.out) (hCR) HW.out HW.out.size (by first | omega | (simp only [List.length_append, List.length_cons, List.length_nil, be8s_len]; omega)) ?_; intro v1 w1 ho hb hg hat; refine hK.out _ _ ⟨s5_, s6_, n4_, s10_, v1, m4_, m12_, uk ha.out 6 hb_ rfl rfl rfl, hb, blk_grown HP.out hg (Kd.R_ne HA0.out HP.out (by decide)), fun h0_ => aT hon 6 h0_, fun _ h1_ => aT hon 5 h1_, fun _ h1_ => aT hon 6 h1_, fun _ h1_ => aU b 11 h1_, fun _ h1_ => aU b 11 h1_, fun _ => ho, fun _ h1_ => aT hon 6 h1_, QX4_, fun h0_ => aF hoff 12 h0_⟩
        refine steps_cons ?_ ?_
        ·rintro b a w' ⟨s5_, s6_, n4_, s10_, s11_, m4_, m12_, ha, QHW, QHP, QHD, QHS0, QHM0, QHA0, QHM1, QHA1, QP0_1, QX4_, QX12_⟩ hb_ hon hoff; refine ⟨_, rfl, fun K hK => ?_⟩; have e98 := ek ha 6 11 98 (s11_) hon; replace ha := sd ha; have HW := sd QHW; have HP := sd QHP; have HA1 := sd (QHA1 (aC hon 11)); refine value_ (w1 := w') (v := s11_) (by rfl) rfl ?_ ?_
         ·go_simp; (try simp only [i64_w]); try rfl
         refine hK.out _ _ ⟨s5_, s6_, n4_, s10_, s11_, m4_, (s11_), uk ha.out 7 hb_ rfl rfl rfl, QHW, QHP, fun h0_ => aT hon 6 h0_, fun _ h1_ => aT hon 5 h1_, fun _ h1_ => aT hon 6 h1_, fun _ h1_ => aT hon 11 h1_, fun _ h1_ => aT hon 11 h1_, QHA1, fun _ h1_ => aT hon 6 h1_, QX4_, fun _ => rfl⟩
        exact steps_nil
       ·rintro b a w' hall ⟨s5_, s6_, n4_, s10_, s11_, m4_, m12_, ha, QHW, QHP, QHD, QHS0, QHM0, QHA0, QHM1, QHA1, QP0_1, QX4_, QX12_⟩; clear HD HP HW; have hb3_ := hall 3 (by kernel_rfl); have hb4_ := hall 4 (by kernel_rfl); have hb5_ := hall 5 (by kernel_rfl); have hb6_ := hall 6 (by kernel_rfl); have hb9_ := hall 9 (by kernel_rfl); have hb10_ := hall 10 (by kernel_rfl); have hb11_ := hall 11 (by kernel_rfl); have hb12_ := hall 12 (by kernel_rfl); subst ha; obtain rfl := QX4_ hb4_; obtain rfl := QX12_ hb12_; simp only [putSel, hb3_, hb4_, hb5_, hb6_, hb9_, hb10_, hb11_, hb12_, if_true, Act.put, List.setIfInBounds_toArray, List.set_cons_zero, List.set_cons_succ]; have HW := sd QHW; clear QHW; have HP := sd QHP; clear QHP; clear QHD; clear QHS0; clear QHM0; clear QHA0; clear QHM1; have HA1 := sd (QHA1 hb11_); clear QHA1; clear QP0_1; clear hall hb3_ hb4_ hb5_ hb6_ hb9_ hb10_ hb11_ hb12_; go_wp2
        go_roundw
        case rel => exact ⟨j + 1, by omega, by go_num, ⟨by rw [HE2.out]; exact HA1.out⟩, HW⟩
        case measure => simp [intOf]; omega
     ·obtain rfl : j = l7.length := by omega
      go_wp2_with fail; go_meet
      case rel => exact ⟨⟨by have := HO.out; rwa [List.take_length] at this⟩, HWr⟩
   case rest =>
    obtain ⟨HOz, HWz⟩ := hcut; clear HO1 HW2 HW2b
    have hP4 : (p3 ++ l7.flatMap aB).length ≤ 130000000 := by
     have h1 := flatMap_le aB 521 aB_le l7; rw [List.length_append]; omega
    have HE5 : Hid (opB k kc kq kh ka kt l6 l7 l8 = p3 ++ l7.flatMap aB ++ text8 (strOfNums l8)) := HE4; clear HE4 hP3; generalize p3 ++ l7.flatMap aB = p4 at HOz HE5 hP4; have hx4 := blk_below HX.out HWz.out; have t8 := blk_cell hx4 8; have hlz := blk_lt hx4; have hcv := Kd.C_string (P := Tryd.prog) (src := 22) (dst := 9) (c := c8) Tryd.underlying22 Tryd.underlying5 Tryd.underlying9 (Kd.C_below H8w.out (below_step HB.out HWz.out)); have htt := text8_le (strOfNums l8); clear hx4; go_wp2_with (first | (go_at_call 77; refine (txt_calls (strOfNums l8) _).mono ?_; rintro e w3 ⟨v3, rfl, hR, hB⟩; obtain ⟨aT, cT, rfl, hcT, hCT⟩ := Kd.R_reads hR; have HCT := sd hCT; have HO3 := sd (Kd.R_below HOz.out hB); have HW4 := sd (below_step HWz.out hB); clear hR hB hCT hcT) | ((with_reducible refine gate_builtin (b := .append) (xs := #[.tmp 100, .tmp 104]) rfl ?_); at_builtin; refine Kd.R_append_row (Value.int .u8) (0 : Int) (h1 := fun _ => rfl) (w0 := wd) (wd.heap.size) rfl (.tmp 100) (.tmp 104) 22 5 (.int .u8 0) 1 rfl Tryd.underlying22 infoU8 rfl (by decide) (u3) (p4) (text8 (strOfNums l8)) (aT) ((text8 (strOfNums l8)).length) (cT) (fun _ => True) rfl rfl (fun _ _ => trivial) ?aO ?aR ?aB ?aS ?aL ?_; (case aO => exact HO3.out); (case aR => exact HCT.out); (case aB => exact HW4.out); (case aS => exact (below_size (by exact HW4.out))); (case aL => omega); intro v1 w1 ho hb hg hat; have HO4 := sd ho; have HW5 := sd hb; clear ho hb)); go_ret; refine ⟨_, rfl, ?_, below_step HB.out HW5.out⟩; rw [HE5.out]; exact Kd.R_lower HO4.out HB.out.size
end Go.Proofs.YtbplemhjhpfkgaaDoor.Cd

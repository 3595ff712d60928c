/-
 CodeRuns returns true: code.Encode of one right operation, and of one that isn't.
-/
import Derived.Test.YtbplemhjhpfkgaaDoorYPart6
import Derived.Test.YtbplemhjhpfkgaaDoorYFaultKind
import Derived.Test.YtbplemhjhpfkgaaDoorYAsks
set_option linter.unusedVariables false
set_option linter.unusedSimpArgs false
namespace Go.Proofs.YtbplemhjhpfkgaaDoor.Cr
open Go.RowKit YtbplemhjhpfkgaaDoorW.PrintWords YtbplemhjhpfkgaaDoorW.PrintLast YtbplemhjhpfkgaaDoorW.PrintMore Rd
open Cd
open Go.Proofs.YtbplemhjhpfkgaaDoor.Ft (Door Chain new_chain kind_calls chain_iface)
theorem C_blk64 {w : World} {g : Nat} {t : TypeId} {xs : List Int} (h : w.heap[g]? = some (.cells (nums .i64 xs).toArray t (0, 0))) (hm : xs.length ≤ 9223372036854775807) : Kd.C (Kd.int .i64) w (some ⟨g, 0, none⟩) xs.length xs := by
 refine Kd.C_of_reads (d := (0 : Int)) (h1 := fun _ => rfl) ⟨rfl, hm, fun _ => ⟨_, rfl, fun j hj => ?_⟩⟩; rw [add_plain, blk_cell h j]
 simp [nums, List.getD_eq_getElem?_getD, List.getElem?_eq_getElem hj]
def cpReg.T1 : Bool × List (List Nat × List Nat) := (true, [([], []), ([0], [0]), ([1], [1]), ([2], [2]), ([], []), ([4], [4]), ([], []), ([6], [6]), ([], []), ([8], [8]), ([], []), ([10], [10]), ([], []), ([12], [12]), ([5, 7, 9, 11, 13], [5, 7, 9, 11, 13]), ([14], [14]), ([3, 15, 15], [3, 15]), ([16, 16, 0, 1, 2, 3, 4, 5, 6, 7, 8, 9, 10, 11, 12, 13, 14, 15, 16], [16])])
def cpReg.B1 : List Nat := [0, 1, 3, 7, 0, 16, 0, 64, 0, 256, 0, 1024, 0, 4096, 16368, 32752, 65535, 131071]
theorem cpReg.tab1 : rtab .any (opsOf Tryd.f45 1) = cpReg.T1 := by kernel_rfl
theorem cpReg.bits1 : waitsOk cpReg.T1.2 cpReg.B1 = true := by kernel_rfl

set_option maxHeartbeats 1600000 in
theorem eqC_nil (w : World) : Calls Tryd.prog 60 #[.slice none 0 0, .slice none 0 0] w fun e w' => e = .returned (.bool true) ∧ w = w' := by
 go_enter Tryd.func60, Tryd.ntmps60
 go_wp2; refine wp_loop_rounds 1 ?_; rw [rounds_succ]; go_wp2; go_ret; exact ⟨rfl, rfl⟩
set_option maxHeartbeats 1600000 in
theorem eqA_nil (w : World) : Calls Tryd.prog 61 #[.slice none 0 0, .slice none 0 0] w fun e w' => e = .returned (.bool true) ∧ w = w' := by
 go_enter Tryd.func61, Tryd.ntmps61
 go_wp2; refine wp_loop_rounds 1 ?_; rw [rounds_succ]; go_wp2; go_ret; exact ⟨rfl, rfl⟩
theorem conv_nil (w : World) : (convert 22 9 (.slice none 0 0)).run Tryd.prog w = .ok (.string ⟨#[]⟩) w := by kernel_rfl
set_option maxHeartbeats 1600000 in
theorem eqB_nil (w : World) : Calls Tryd.prog 62 #[.slice none 0 0, .slice none 0 0] w fun e w' => e = .returned (.bool true) ∧ w = w' := by
 have hcv := conv_nil
 go_enter Tryd.func62, Tryd.ntmps62
 go_wp2; go_ret; exact ⟨rfl, rfl⟩
abbrev oV (k c q h a t : Int) : Value := .agg #[.int .i64 k, .int .i64 c, .int .i64 q, .int .i64 h, .int .i64 a, .int .i64 t, .slice none 0 0, .slice none 0 0, .slice none 0 0]
set_option maxRecDepth 100000 in
set_option maxHeartbeats 4000000 in
theorem same_1 (w : World) : Calls Tryd.prog 29 #[oV 8 0 0 0 1 2, oV 8 0 0 0 1 2] w fun e w' => e = .returned (.bool true) ∧ Below w.heap.size w w' := by
 go_enter Tryd.func29, Tryd.ntmps29
 go_wp2_with (first | (go_at_call 60; refine (eqC_nil _).mono ?_; rintro e w1 ⟨rfl, rfl⟩) | (go_at_call 61; refine (eqA_nil _).mono ?_; rintro e w1 ⟨rfl, rfl⟩) | (go_at_call 62; refine (eqB_nil _).mono ?_; rintro e w1 ⟨rfl, rfl⟩)); go_ret; exact ⟨rfl, below_alloc (below_alloc (Below.refl _ _) _) _⟩
set_option maxRecDepth 100000 in
set_option maxHeartbeats 4000000 in
theorem same_2 (w : World) : Calls Tryd.prog 29 #[oV 8 0 0 0 0 0, oV 8 0 1 0 0 0] w fun e w' => e = .returned (.bool false) ∧ Below w.heap.size w w' := by
 go_enter Tryd.func29, Tryd.ntmps29
 go_wp2_with fail; go_ret; exact ⟨rfl, below_alloc (below_alloc (Below.refl _ _) _) _⟩
set_option maxRecDepth 100000 in
set_option maxHeartbeats 4000000 in
theorem right_1 (w : World) : Calls Tryd.prog 20 #[oV 8 0 0 0 1 2] w fun e w' => e = .returned (.bool true) ∧ Below w.heap.size w w' := by
 have HX := sd (blk_new w (.cells #[.int .i64 8, .int .i64 0, .int .i64 0, .int .i64 0, .int .i64 1, .int .i64 2, .slice none 0 0, .slice none 0 0, .slice none 0 0] 30)); have HB := sd (below_alloc (Below.refl w.heap.size w) (.cells #[.int .i64 8, .int .i64 0, .int .i64 0, .int .i64 0, .int .i64 1, .int .i64 2, .slice none 0 0, .slice none 0 0, .slice none 0 0] 30))
 go_enter Tryd.func20, Tryd.ntmps20
 go_wp2_with (first | (go_at_call 53; refine (asks_8 0 0 0 1 2 none 0 0 none 0 0 none 0 0 _).mono ?_; rintro e w1 ⟨rfl, hB⟩; replace HX := sd (blk_below HX.out hB); have q0 := (blk_cell HX.out 0); have q1 := (blk_cell HX.out 1); have q2 := (blk_cell HX.out 2); have q3 := (blk_cell HX.out 3); have q4 := (blk_cell HX.out 4); have q5 := (blk_cell HX.out 5); have q6 := (blk_cell HX.out 6); have q7 := (blk_cell HX.out 7); have q8 := (blk_cell HX.out 8); have hl1 := blk_lt HX.out; replace HB := sd (below_step HB.out hB); clear hB; replace HX := sd (blk_alloc HX.out (.cells #[.int .i64 8, .int .i64 0, .int .i64 0, .int .i64 0, .int .i64 1, .int .i64 2, .slice none 0 0, .slice none 0 0, .slice none 0 0] 30)); replace HB := sd (below_alloc HB.out (.cells #[.int .i64 8, .int .i64 0, .int .i64 0, .int .i64 0, .int .i64 1, .int .i64 2, .slice none 0 0, .slice none 0 0, .slice none 0 0] 30))) | (go_at_call 29; refine (same_1 _).mono ?_; rintro e w2 ⟨rfl, hB⟩; replace HX := sd (blk_below HX.out hB); have q0 := (blk_cell HX.out 0); have q1 := (blk_cell HX.out 1); have q2 := (blk_cell HX.out 2); have q3 := (blk_cell HX.out 3); have q4 := (blk_cell HX.out 4); have q5 := (blk_cell HX.out 5); have q6 := (blk_cell HX.out 6); have q7 := (blk_cell HX.out 7); have q8 := (blk_cell HX.out 8); replace HB := sd (below_step HB.out hB); clear hB)); refine wp_loop_rounds 1 ?_; rw [rounds_succ]; go_wp2; refine wp_loop_rounds 1 ?_; rw [rounds_succ]; go_wp2; go_ret; exact ⟨rfl, HB.out⟩
set_option maxRecDepth 100000 in
set_option maxHeartbeats 4000000 in
theorem right_2 (w : World) : Calls Tryd.prog 20 #[oV 8 0 1 0 0 0] w fun e w' => e = .returned (.bool false) ∧ Below w.heap.size w w' := by
 have HX := sd (blk_new w (.cells #[.int .i64 8, .int .i64 0, .int .i64 1, .int .i64 0, .int .i64 0, .int .i64 0, .slice none 0 0, .slice none 0 0, .slice none 0 0] 30)); have HB := sd (below_alloc (Below.refl w.heap.size w) (.cells #[.int .i64 8, .int .i64 0, .int .i64 1, .int .i64 0, .int .i64 0, .int .i64 0, .slice none 0 0, .slice none 0 0, .slice none 0 0] 30))
 go_enter Tryd.func20, Tryd.ntmps20
 go_wp2_with (first | (go_at_call 53; refine (asks_8 0 1 0 0 0 none 0 0 none 0 0 none 0 0 _).mono ?_; rintro e w1 ⟨rfl, hB⟩; replace HX := sd (blk_below HX.out hB); have q0 := (blk_cell HX.out 0); have q1 := (blk_cell HX.out 1); have q2 := (blk_cell HX.out 2); have q3 := (blk_cell HX.out 3); have q4 := (blk_cell HX.out 4); have q5 := (blk_cell HX.out 5); have q6 := (blk_cell HX.out 6); have q7 := (blk_cell HX.out 7); have q8 := (blk_cell HX.out 8); have hl1 := blk_lt HX.out; replace HB := sd (below_step HB.out hB); clear hB; replace HX := sd (blk_alloc HX.out (.cells #[.int .i64 8, .int .i64 0, .int .i64 0, .int .i64 0, .int .i64 0, .int .i64 0, .slice none 0 0, .slice none 0 0, .slice none 0 0] 30)); replace HB := sd (below_alloc HB.out (.cells #[.int .i64 8, .int .i64 0, .int .i64 0, .int .i64 0, .int .i64 0, .int .i64 0, .slice none 0 0, .slice none 0 0, .slice none 0 0] 30))) | (go_at_call 29; refine (same_2 _).mono ?_; rintro e w2 ⟨rfl, hB⟩; replace HX := sd (blk_below HX.out hB); have q0 := (blk_cell HX.out 0); have q1 := (blk_cell HX.out 1); have q2 := (blk_cell HX.out 2); have q3 := (blk_cell HX.out 3); have q4 := (blk_cell HX.out 4); have q5 := (blk_cell HX.out 5); have q6 := (blk_cell HX.out 6); have q7 := (blk_cell HX.out 7); have q8 := (blk_cell HX.out 8); replace HB := sd (below_step HB.out hB); clear hB)); go_ret; exact ⟨rfl, HB.out⟩
def opE (k kc kq kh ka kt : Int) : List Int := [k % 256] ++ be8s [kc, kq, kh, ka, kt] ++ [0] ++ [0] ++ [0]
set_option maxRecDepth 100000 in
set_option maxHeartbeats 4000000 in
theorem put_e (k kc kq kh ka kt : Int) (w : World) : Calls Tryd.prog 45 #[oV k kc kq kh ka kt] w fun e w' => ∃ v, e = .returned v ∧ Kd.R (Kd.int .u8) 5 w' w.heap.size (fun _ => True) v (opE k kc kq kh ka kt) ∧ Below w.heap.size w w' := by
 have HX := sd (blk_new w (.cells #[.int .i64 k, .int .i64 kc, .int .i64 kq, .int .i64 kh, .int .i64 ka, .int .i64 kt, .slice none 0 0, .slice none 0 0, .slice none 0 0] 30)); have HB := sd (below_alloc (Below.refl w.heap.size w) (.cells #[.int .i64 k, .int .i64 kc, .int .i64 kq, .int .i64 kh, .int .i64 ka, .int .i64 kt, .slice none 0 0, .slice none 0 0, .slice none 0 0] 30)); have hcv := conv_nil
 go_enter Tryd.func45, Tryd.ntmps45
 go_upto_region 1 with fail
 generalize (w.alloc (.cells #[.int .i64 k, .int .i64 kc, .int .i64 kq, .int .i64 kh, .int .i64 ka, .int .i64 kt, .slice none 0 0, .slice none 0 0, .slice none 0 0] 30)) = wd at *; have HW := sd (Below.refl wd.heap.size wd)
 go_cut [3] (fun v wx => Aside0 (Kd.R (Kd.int .u8) 5 wx wd.heap.size (fun _ => True) v ([k % 256] ++ be8s [kc, kq, kh, ka, kt])) ∧ Aside0 (Below wd.heap.size wd wx))
 case first =>
  refine start_ (n := 18) (S := fun w' => True) (ds := []) #[false, false, false, false, false, false, false, false, false, false, false, false, false, false, false, false, false, false] (by kernel_rfl) rfl rfl trivial (fun hHeld => ?_); refine with_tabW cpReg.tab1 cpReg.bits1 (fun HT_ HW_ => ?_); refine pure_ (i := 0) (N := some 8) (v := ?_) (a' := ?_) #[true, false, false, false, false, false, false, false, false, false, false, false, false, false, false, false, false, false] rfl rfl (any_of HT_.out (by kernel_rfl)) (fun _ _ _ h => h) (Or.inl ⟨by rfl, ?_⟩) ?_ ?_
  rotate_left
  ·intro w'; go_simp
   with_reducible rfl
  rotate_left
  ·simp only [Act.put, List.setIfInBounds_toArray, List.set_cons_zero, List.set_cons_succ, i64_w, i32_w]; rfl
  refine pure_ (i := 4) (N := some 12) (v := ?_) (a' := ?_) #[true, false, false, false, true, false, false, false, false, false, false, false, false, false, false, false, false, false] rfl rfl (any_of HT_.out (by kernel_rfl)) (fun _ _ _ h => h) (Or.inl ⟨by rfl, ?_⟩) ?_ ?_
  rotate_left
  ·intro w'; go_simp
   with_reducible rfl
  rotate_left
  ·simp only [Act.put, List.setIfInBounds_toArray, List.set_cons_zero, List.set_cons_succ, i64_w, i32_w]; rfl
  refine pure_ (i := 6) (N := some 14) (v := ?_) (a' := ?_) #[true, false, false, false, true, false, true, false, false, false, false, false, false, false, false, false, false, false] rfl rfl (any_of HT_.out (by kernel_rfl)) (fun _ _ _ h => h) (Or.inl ⟨by rfl, ?_⟩) ?_ ?_
  rotate_left
  ·intro w'; go_simp
   with_reducible rfl
  rotate_left
  ·simp only [Act.put, List.setIfInBounds_toArray, List.set_cons_zero, List.set_cons_succ, i64_w, i32_w]; rfl
  refine pure_ (i := 8) (N := some 16) (v := ?_) (a' := ?_) #[true, false, false, false, true, false, true, false, true, false, false, false, false, false, false, false, false, false] rfl rfl (any_of HT_.out (by kernel_rfl)) (fun _ _ _ h => h) (Or.inl ⟨by rfl, ?_⟩) ?_ ?_
  rotate_left
  ·intro w'; go_simp
   with_reducible rfl
  rotate_left
  ·simp only [Act.put, List.setIfInBounds_toArray, List.set_cons_zero, List.set_cons_succ, i64_w, i32_w]; rfl
  refine pure_ (i := 10) (N := some 18) (v := ?_) (a' := ?_) #[true, false, false, false, true, false, true, false, true, false, true, false, false, false, false, false, false, false] rfl rfl (any_of HT_.out (by kernel_rfl)) (fun _ _ _ h => h) (Or.inl ⟨by rfl, ?_⟩) ?_ ?_
  rotate_left
  ·intro w'; go_simp
   with_reducible rfl
  rotate_left
  ·simp only [Act.put, List.setIfInBounds_toArray, List.set_cons_zero, List.set_cons_succ, i64_w, i32_w]; rfl
  refine pure_ (i := 12) (N := some 20) (v := ?_) (a' := ?_) #[true, false, false, false, true, false, true, false, true, false, true, false, true, false, false, false, false, false] rfl rfl (any_of HT_.out (by kernel_rfl)) (fun _ _ _ h => h) (Or.inl ⟨by rfl, ?_⟩) ?_ ?_
  rotate_left
  ·intro w'; go_simp
   with_reducible rfl
  rotate_left
  ·simp only [Act.put, List.setIfInBounds_toArray, List.set_cons_zero, List.set_cons_succ, i64_w, i32_w]; rfl
  refine inv_at [1, 2, 3, 5, 7, 9, 11, 13, 14, 15, 16, 17] (fun a0_ b a w' => ∃ (b_ : Nat) (n_ : Nat) (s15_ : Value) (s16_ : Value) (m3_ : Value) (m14_ : Value) (m17_ : Value), a = putSel a0_ b [(1, 9, .int .i64 k), (2, 10, .int .u8 (k % 256)), (3, 11, m3_), (5, 13, .int .i64 kc), (7, 15, .int .i64 kq), (9, 17, .int .i64 kh), (11, 19, .int .i64 ka), (13, 21, .int .i64 kt), (14, 22, m14_), (15, 23, s15_), (16, 24, s16_), (17, 3, m17_)] ∧ (Below wd.heap.size wd w') ∧ (b 3 = true → b 16 = false → Kd.R (Kd.int .u8) 5 w' wd.heap.size (fun _ => True) (.slice (some ⟨b_, 0, none⟩) 1 1) ([k % 256])) ∧ (b 14 = true → b 15 = false → w'.heap[n_]? = some (.cells #[.int .i64 kc, .int .i64 kq, .int .i64 kh, .int .i64 ka, .int .i64 kt] 3 (0, 0))) ∧ (b 15 = true → b 16 = false → Kd.R (Kd.int .u8) 5 w' wd.heap.size (fun _ => True) (s15_) (be8s [kc, kq, kh, ka, kt])) ∧ (b 16 = true → Kd.R (Kd.int .u8) 5 w' wd.heap.size (fun _ => True) (s16_) ([k % 256] ++ be8s [kc, kq, kh, ka, kt])) ∧ (b 3 = true → (m3_ : Value) = .slice (some ⟨b_, 0, none⟩) 1 1) ∧ (b 14 = true → (m14_ : Value) = .slice (some ⟨n_, 0, none⟩) 5 5) ∧ (b 17 = true → (m17_ : Value) = s16_)) HT_.out HW_.out (by kernel_rfl) (by kernel_rfl) ?_ ?_ ?_
  ·exact ⟨0, 0, .bool false, .bool false, .bool false, .bool false, .bool false, by simp only [putSel, Bool.false_eq_true, if_false], below_drew HW.out, fun h_ => absurd h_ (by decide), fun h_ => absurd h_ (by decide), fun h_ => absurd h_ (by decide), fun h_ => absurd h_ (by decide), fun h_ => absurd h_ (by decide), fun h_ => absurd h_ (by decide), fun h_ => absurd h_ (by decide)⟩
  ·skip
   clear HW; refine steps_cons ?_ ?_
   ·rintro b a w' ⟨b_, n_, s15_, s16_, m3_, m14_, m17_, ha, QHW, QH3, QHS, QH6, QH7, QX3_, QX14_, QX17_⟩ hb_ hon hoff; refine ⟨_, rfl, fun K hK => ?_⟩; have e8 := ef ha 8 (.pointer (some ⟨w.heap.size, 0, none⟩)); replace ha := sd ha; have HW := sd QHW; have q0 := (cells_at HW.out (blk_cell HX.out 0)).trans (rfl : _ = some (Value.int .i64 k)); refine value_ (w1 := w') (v := .int .i64 k) (by rfl) rfl ?_ ?_
    ·go_simp; (try simp only [i64_w]); try rfl
    refine hK.out _ _ ⟨b_, n_, s15_, s16_, m3_, m14_, m17_, uk ha.out 0 hb_ rfl rfl rfl, QHW, fun h0_ _ => aF hoff 3 h0_, QHS, QH6, fun h0_ => aF hoff 16 h0_, fun h0_ => aF hoff 3 h0_, QX14_, fun h0_ => aF hoff 17 h0_⟩
   refine steps_cons ?_ ?_
   ·rintro b a w' ⟨b_, n_, s15_, s16_, m3_, m14_, m17_, ha, QHW, QH3, QHS, QH6, QH7, QX3_, QX14_, QX17_⟩ hb_ hon hoff; refine ⟨_, rfl, fun K hK => ?_⟩; have e9 := ek ha 0 1 9 (.int .i64 k) hon; replace ha := sd ha; have HW := sd QHW; refine value_ (w1 := w') (v := .int .u8 (k % 256)) (by rfl) rfl ?_ ?_
    ·go_simp; (try simp only [i64_w]); try rfl
    refine hK.out _ _ ⟨b_, n_, s15_, s16_, m3_, m14_, m17_, uk ha.out 1 hb_ rfl rfl rfl, QHW, fun h0_ _ => aF hoff 3 h0_, QHS, QH6, fun h0_ => aF hoff 16 h0_, fun h0_ => aF hoff 3 h0_, QX14_, fun h0_ => aF hoff 17 h0_⟩
   refine steps_cons ?_ ?_
   ·rintro b a w' ⟨b_, n_, s15_, s16_, m3_, m14_, m17_, ha, QHW, QH3, QHS, QH6, QH7, QX3_, QX14_, QX17_⟩ hb_ hon hoff; refine ⟨_, rfl, fun K hK => ?_⟩; have e10 := ek ha 1 2 10 (.int .u8 (k % 256)) hon; replace ha := sd ha; have HW := sd QHW; refine value_ (w1 := w'.alloc (.cells #[.int .u8 (k % 256)] 5)) (v := .slice (some ⟨w'.heap.size, 0, none⟩) 1 1) (by rfl) rfl (by go_simp) ?_; refine hK.out _ _ ⟨w'.heap.size, n_, s15_, s16_, (.slice (some ⟨w'.heap.size, 0, none⟩) 1 1), m14_, m17_, uk ha.out 2 hb_ rfl rfl rfl, below_alloc HW.out _, fun _ _ => Kd.R_lower (own_oneR w' _) HW.out.size, fun h0_ h1_ => blk_alloc (QHS h0_ h1_) _, fun h0_ h1_ => Kd.R_alloc (QH6 h0_ h1_) _, fun h0_ => aF hoff 16 h0_, fun _ => rfl, QX14_, fun h0_ => aF hoff 17 h0_⟩
   refine steps_cons ?_ ?_
   ·rintro b a w' ⟨b_, n_, s15_, s16_, m3_, m14_, m17_, ha, QHW, QH3, QHS, QH6, QH7, QX3_, QX14_, QX17_⟩ hb_ hon hoff; refine ⟨_, rfl, fun K hK => ?_⟩; have e12 := ef ha 12 (.pointer (some ⟨w.heap.size, 1, none⟩)); replace ha := sd ha; have HW := sd QHW; have q0 := (cells_at HW.out (blk_cell HX.out 1)).trans (rfl : _ = some (Value.int .i64 kc)); refine value_ (w1 := w') (v := .int .i64 kc) (by rfl) rfl ?_ ?_
    ·go_simp; (try simp only [i64_w]); try rfl
    refine hK.out _ _ ⟨b_, n_, s15_, s16_, m3_, m14_, m17_, uk ha.out 3 hb_ rfl rfl rfl, QHW, QH3, fun h0_ _ => aF hoff 14 h0_, fun h0_ _ => aF hoff 15 h0_, fun h0_ => aF hoff 16 h0_, QX3_, fun h0_ => aF hoff 14 h0_, fun h0_ => aF hoff 17 h0_⟩
   refine steps_cons ?_ ?_
   ·rintro b a w' ⟨b_, n_, s15_, s16_, m3_, m14_, m17_, ha, QHW, QH3, QHS, QH6, QH7, QX3_, QX14_, QX17_⟩ hb_ hon hoff; refine ⟨_, rfl, fun K hK => ?_⟩; have e14 := ef ha 14 (.pointer (some ⟨w.heap.size, 2, none⟩)); replace ha := sd ha; have HW := sd QHW; have q0 := (cells_at HW.out (blk_cell HX.out 2)).trans (rfl : _ = some (Value.int .i64 kq)); refine value_ (w1 := w') (v := .int .i64 kq) (by rfl) rfl ?_ ?_
    ·go_simp; (try simp only [i64_w]); try rfl
    refine hK.out _ _ ⟨b_, n_, s15_, s16_, m3_, m14_, m17_, uk ha.out 4 hb_ rfl rfl rfl, QHW, QH3, fun h0_ _ => aF hoff 14 h0_, fun h0_ _ => aF hoff 15 h0_, fun h0_ => aF hoff 16 h0_, QX3_, fun h0_ => aF hoff 14 h0_, fun h0_ => aF hoff 17 h0_⟩
   refine steps_cons ?_ ?_
   ·rintro b a w' ⟨b_, n_, s15_, s16_, m3_, m14_, m17_, ha, QHW, QH3, QHS, QH6, QH7, QX3_, QX14_, QX17_⟩ hb_ hon hoff; refine ⟨_, rfl, fun K hK => ?_⟩; have e16 := ef ha 16 (.pointer (some ⟨w.heap.size, 3, none⟩)); replace ha := sd ha; have HW := sd QHW; have q0 := (cells_at HW.out (blk_cell HX.out 3)).trans (rfl : _ = some (Value.int .i64 kh)); refine value_ (w1 := w') (v := .int .i64 kh) (by rfl) rfl ?_ ?_
    ·go_simp; (try simp only [i64_w]); try rfl
    refine hK.out _ _ ⟨b_, n_, s15_, s16_, m3_, m14_, m17_, uk ha.out 5 hb_ rfl rfl rfl, QHW, QH3, fun h0_ _ => aF hoff 14 h0_, fun h0_ _ => aF hoff 15 h0_, fun h0_ => aF hoff 16 h0_, QX3_, fun h0_ => aF hoff 14 h0_, fun h0_ => aF hoff 17 h0_⟩
   refine steps_cons ?_ ?_
   ·rintro b a w' ⟨b_, n_, s15_, s16_, m3_, m14_, m17_, ha, QHW, QH3, QHS, QH6, QH7, QX3_, QX14_, QX17_⟩ hb_ hon hoff; refine ⟨_, rfl, fun K hK => ?_⟩; have e18 := ef ha 18 (.pointer (some ⟨w.heap.size, 4, none⟩)); replace ha := sd ha; have HW := sd QHW; have q0 := (cells_at HW.out (blk_cell HX.out 4)).trans (rfl : _ = some (Value.int .i64 ka)); refine value_ (w1 := w') (v := .int .i64 ka) (by rfl) rfl ?_ ?_
    ·go_simp; (try simp only [i64_w]); try rfl
    refine hK.out _ _ ⟨b_, n_, s15_, s16_, m3_, m14_, m17_, uk ha.out 6 hb_ rfl rfl rfl, QHW, QH3, fun h0_ _ => aF hoff 14 h0_, fun h0_ _ => aF hoff 15 h0_, fun h0_ => aF hoff 16 h0_, QX3_, fun h0_ => aF hoff 14 h0_, fun h0_ => aF hoff 17 h0_⟩
   refine steps_cons ?_ ?_
   ·rintro b a w' ⟨b_, n_, s15_, s16_, m3_, m14_, m17_, ha, QHW, QH3, QHS, QH6, QH7, QX3_, QX14_, QX17_⟩ hb_ hon hoff; refine ⟨_, rfl, fun K hK => ?_⟩; have e20 := ef ha 20 (.pointer (some ⟨w.heap.size, 5, none⟩)); replace ha := sd ha; have HW := sd QHW; have q0 := (cells_at HW.out (blk_cell HX.out 5)).trans (rfl : _ = some (Value.int .i64 kt)); refine value_ (w1 := w') (v := .int .i64 kt) (by rfl) rfl ?_ ?_
    ·go_simp; (try simp only [i64_w]); try rfl
    refine hK.out _ _ ⟨b_, n_, s15_, s16_, m3_, m14_, m17_, uk ha.out 7 hb_ rfl rfl rfl, QHW, QH3, fun h0_ _ => aF hoff 14 h0_, fun h0_ _ => aF hoff 15 h0_, fun h0_ => aF hoff 16 h0_, QX3_, fun h0_ => aF hoff 14 h0_, fun h0_ => aF hoff 17 h0_⟩
   refine steps_cons ?_ ?_
   ·rintro b a w' ⟨b_, n_, s15_, s16_, m3_, m14_, m17_, ha, QHW, QH3, QHS, QH6, QH7, QX3_, QX14_, QX17_⟩ hb_ hon hoff; refine ⟨_, rfl, fun K hK => ?_⟩; have e13 := ek ha 3 5 13 (.int .i64 kc) hon; have e15 := ek ha 4 7 15 (.int .i64 kq) hon; have e17 := ek ha 5 9 17 (.int .i64 kh) hon; have e19 := ek ha 6 11 19 (.int .i64 ka) hon; have e21 := ek ha 7 13 21 (.int .i64 kt) hon; replace ha := sd ha; have HW := sd QHW; refine value_ (w1 := w'.alloc (.cells #[.int .i64 kc, .int .i64 kq, .int .i64 kh, .int .i64 ka, .int .i64 kt] 3)) (v := .slice (some ⟨w'.heap.size, 0, none⟩) 5 5) (by rfl) rfl (by go_simp) ?_; refine hK.out _ _ ⟨b_, w'.heap.size, s15_, s16_, m3_, (.slice (some ⟨w'.heap.size, 0, none⟩) 5 5), m17_, uk ha.out 8 hb_ rfl rfl rfl, below_alloc HW.out _, fun h0_ h1_ => Kd.R_alloc (QH3 h0_ h1_) _, fun _ _ => blk_new w' _, fun h0_ _ => aF hoff 15 h0_, fun h0_ => aF hoff 16 h0_, QX3_, fun _ => rfl, fun h0_ => aF hoff 17 h0_⟩
   refine steps_cons ?_ ?_
   ·rintro b a w' ⟨b_, n_, s15_, s16_, m3_, m14_, m17_, ha, QHW, QH3, QHS, QH6, QH7, QX3_, QX14_, QX17_⟩ hb_ hon hoff; refine ⟨_, rfl, fun K hK => ?_⟩; have e22 := ek ha 8 14 22 (m14_) hon; rw [QX14_ (aC hon 14)] at e22; replace ha := sd ha; have HW := sd QHW; have HS := sd (QHS (aC hon 14) hb_); have hC5 := C_blk64 (xs := [kc, kq, kh, ka, kt]) HS.out (by simp); refine goes_ Tryd.func66 (by kernel_rfl) rfl #[.slice (some ⟨n_, 0, none⟩) 5 5] (by rfl) rfl rfl (ev1 e22) ?_; refine (num_calls (some ⟨n_, 0, none⟩) 5 [kc, kq, kh, ka, kt] w' hC5 (by simp)).mono ?_; rintro e w2 ⟨v2, rfl, hR, hB⟩; refine ⟨_, rfl, ?_⟩; refine hK.out _ _ ⟨b_, n_, v2, s16_, m3_, m14_, m17_, uk ha.out 9 hb_ rfl rfl rfl, below_step HW.out hB, fun h0_ h1_ => Kd.R_below (QH3 h0_ h1_) hB, fun _ h1_ => aU b 15 h1_, fun _ _ => Kd.R_lower hR HW.out.size, fun h0_ => aF hoff 16 h0_, QX3_, QX14_, fun h0_ => aF hoff 17 h0_⟩
   refine steps_cons ?_ ?_
   ·rintro b a w' ⟨b_, n_, s15_, s16_, m3_, m14_, m17_, ha, QHW, QH3, QHS, QH6, QH7, QX3_, QX14_, QX17_⟩ hb_ hon hoff; refine ⟨_, rfl, fun K hK => ?_⟩; have e11 := ek ha 2 3 11 (m3_) hon; rw [QX3_ (aC hon 3)] at e11; have e23 := ek ha 9 15 23 (s15_) hon; replace ha := sd ha; have HW := sd QHW; have H3 := sd (QH3 (aC hon 3) hb_); have H6 := sd (QH6 (aC hon 15) hb_); obtain ⟨aR, cR, hs, hcR, hCR⟩ := Kd.R_reads H6.out; rw [hs] at e23; refine cat_step_at (Kd.int .u8) intKM wd w' wd.heap.size (by rfl) (.tmp 11) (.tmp 23) 22 5 (.int .u8 0) 1 rfl Tryd.underlying22 infoU8 rfl (by decide) (by omega) (.slice (some ⟨b_, 0, none⟩) 1 1) [k % 256] (be8s [kc, kq, kh, ka, kt]) (aR) ((be8s [kc, kq, kh, ka, kt]).length) (cR) (eval_of e11) (eval_of e23) H3.out hCR HW.out HW.out.size (by simp only [List.length_cons, List.length_nil, be8s_len]; omega) ?_; intro v1 w1 ho hb hg hat; refine hK.out _ _ ⟨b_, n_, s15_, v1, m3_, m14_, m17_, uk ha.out 10 hb_ rfl rfl rfl, hb, fun _ h1_ => aU b 16 h1_, fun _ h1_ => aT hon 15 h1_, fun _ h1_ => aU b 16 h1_, fun _ => ho, QX3_, QX14_, fun h0_ => aF hoff 17 h0_⟩
   refine steps_cons ?_ ?_
   ·rintro b a w' ⟨b_, n_, s15_, s16_, m3_, m14_, m17_, ha, QHW, QH3, QHS, QH6, QH7, QX3_, QX14_, QX17_⟩ hb_ hon hoff; refine ⟨_, rfl, fun K hK => ?_⟩; have e24 := ek ha 10 16 24 (s16_) hon; replace ha := sd ha; have HW := sd QHW; have H7 := sd (QH7 (aC hon 16)); refine value_ (w1 := w') (v := s16_) (by rfl) rfl ?_ ?_
    ·go_simp; (try simp only [i64_w]); try rfl
    refine hK.out _ _ ⟨b_, n_, s15_, s16_, m3_, m14_, (s16_), uk ha.out 11 hb_ rfl rfl rfl, QHW, fun _ h1_ => aT hon 16 h1_, fun _ h1_ => aT hon 15 h1_, fun _ h1_ => aT hon 16 h1_, QH7, QX3_, QX14_, fun _ => rfl⟩
   exact steps_nil
  ·rintro b a w' hall ⟨b_, n_, s15_, s16_, m3_, m14_, m17_, ha, QHW, QH3, QHS, QH6, QH7, QX3_, QX14_, QX17_⟩; clear HW; have hb1_ := hall 1 (by kernel_rfl); have hb2_ := hall 2 (by kernel_rfl); have hb3_ := hall 3 (by kernel_rfl); have hb5_ := hall 5 (by kernel_rfl); have hb7_ := hall 7 (by kernel_rfl); have hb9_ := hall 9 (by kernel_rfl); have hb11_ := hall 11 (by kernel_rfl); have hb13_ := hall 13 (by kernel_rfl); have hb14_ := hall 14 (by kernel_rfl); have hb15_ := hall 15 (by kernel_rfl); have hb16_ := hall 16 (by kernel_rfl); have hb17_ := hall 17 (by kernel_rfl); subst ha; obtain rfl := QX3_ hb3_; obtain rfl := QX14_ hb14_; obtain rfl := QX17_ hb17_; simp only [putSel, hb1_, hb2_, hb3_, hb5_, hb7_, hb9_, hb11_, hb13_, hb14_, hb15_, hb16_, hb17_, if_true, Act.put, List.setIfInBounds_toArray, List.set_cons_zero, List.set_cons_succ]; have HW := sd QHW; clear QHW; clear QH3; clear QHS; clear QH6; have H7 := sd (QH7 hb16_); clear QH7; clear hall hb1_ hb2_ hb3_ hb5_ hb7_ hb9_ hb11_ hb13_ hb14_ hb15_ hb16_ hb17_; go_wp2; go_meet
   case rel => exact ⟨H7, HW⟩
 case rest =>
  obtain ⟨H7, HW1⟩ := hcut; clear HW; have HLb : Hid (([k % 256] ++ be8s [kc, kq, kh, ka, kt]).length = 41) := Lib.hid (by simp [be8s_len]); have HE : Hid (opE k kc kq kh ka kt = [k % 256] ++ be8s [kc, kq, kh, ka, kt] ++ [0] ++ [0] ++ [0]) := Lib.hid rfl; generalize [k % 256] ++ be8s [kc, kq, kh, ka, kt] = bs at H7 HLb HE; have hx1 := blk_below HX.out HW1.out; have q6 := blk_cell hx1 6; have q7 := blk_cell hx1 7; have q8 := blk_cell hx1 8; have hlx := blk_lt hx1; clear hx1; go_wp2_with (first | ((with_reducible refine gate_builtin (b := .append) (xs := #[.tmp 25, .tmp 30]) rfl ?_); at_builtin; refine Kd.R_append (Kd.int .u8) (w0 := wd) (wd.heap.size) rfl (.tmp 25) (.tmp 30) 22 5 (.int .u8 0) 1 rfl Tryd.underlying22 infoU8 rfl (by decide) (by omega) (u3) (bs) (0) [.int .u8 0] (fun _ => True) (fun _ => False) rfl rfl ?aP (fun _ hk => hk.elim) ?aF ?aO ?aB ?aS ?aL ?_; (case aP => exact rfl); (case aB => exact (by repeat (with_reducible first | exact HW1.out | apply below_alloc | apply pw_below_drewN | apply below_drew1))); (case aF => exact (fun _ _ => trivial)); (case aO => exact (by (with_reducible repeat (first | apply Kd.R_alloc | apply Kd.R_drewN | apply Kd.R_drew)); exact H7.out)); (case aS => exact (below_size (by repeat (with_reducible first | exact HW1.out | apply below_alloc | apply pw_below_drewN | apply below_drew1)))); (case aL => have := HLb.out; omega); intro v1 w1 ho hb hg hat; have HO1 := sd ho; have HW2 := sd hb; have hx2 := (blk_below HX.out hb); have r7 := blk_cell hx2 7; have r8 := blk_cell hx2 8; have r6 := blk_cell hx2 6; have hly := blk_lt hx2; clear ho hb hg hat hx2)); refine wp_loop_rounds 1 ?_; rw [rounds_succ]; go_wp2_with (first | ((with_reducible refine gate_builtin (b := .append) (xs := #[.tmp 62, .tmp 67]) rfl ?_); at_builtin; refine Kd.R_append (Kd.int .u8) (w0 := wd) (wd.heap.size) rfl (.tmp 62) (.tmp 67) 22 5 (.int .u8 0) 1 rfl Tryd.underlying22 infoU8 rfl (by decide) (by omega) (v1) (bs ++ [0]) (0) [.int .u8 0] (fun _ => True) (fun _ => False) rfl rfl ?aP (fun _ hk => hk.elim) ?aF ?aO ?aB ?aS ?aL ?_; (case aP => exact rfl); (case aB => exact (by repeat (with_reducible first | exact HW2.out | apply below_alloc | apply pw_below_drewN | apply below_drew1))); (case aF => exact (fun _ _ => trivial)); (case aO => exact (by (with_reducible repeat (first | apply Kd.R_alloc | apply Kd.R_drewN | apply Kd.R_drew)); exact HO1.out)); (case aS => exact (below_size (by repeat (with_reducible first | exact HW2.out | apply below_alloc | apply pw_below_drewN | apply below_drew1)))); (case aL => have := HLb.out; simp; omega); intro v1 w1 ho hb hg hat; have HO2 := sd ho; have HW3 := sd hb; have hx3 := (blk_below HX.out hb); have t7 := blk_cell hx3 7; have t8 := blk_cell hx3 8; clear ho hb hg hat hx3)); refine wp_loop_rounds 1 ?_; rw [rounds_succ]; have HT8 : Hid (text8 ⟨#[]⟩ = [0]) := Lib.hid (by decide); go_wp2_with (first | (go_at_call 77; refine (txt_calls ⟨#[]⟩ _).mono ?_; rintro e w3 ⟨v3, rfl, hR, hB⟩; rw [HT8.out] at hR; obtain ⟨aT, cT, rfl, hcT, hCT⟩ := Kd.R_reads hR; have HCT := sd hCT; have HO3 := sd (Kd.R_below HO2.out hB); have HW4 := sd (below_step HW3.out hB); clear hR hB hCT hcT) | ((with_reducible refine gate_builtin (b := .append) (xs := #[.tmp 100, .tmp 104]) rfl ?_); at_builtin; refine Kd.R_append_row (Value.int .u8) (0 : Int) (h1 := fun _ => rfl) (w0 := wd) (wd.heap.size) rfl (.tmp 100) (.tmp 104) 22 5 (.int .u8 0) 1 rfl Tryd.underlying22 infoU8 rfl (by decide) (v1) (bs ++ [0] ++ [0]) ([0]) (aT) (1) (cT) (fun _ => True) rfl rfl (fun _ _ => trivial) ?aO ?aR ?aB ?aS ?aL ?_; (case aO => exact HO3.out); (case aR => exact HCT.out); (case aB => exact HW4.out); (case aS => exact (below_size (by exact HW4.out))); (case aL => (have := HLb.out; simp; omega)); intro v1 w1 ho hb hg hat; have HO4 := sd ho; have HW5 := sd hb; clear ho hb)); go_ret; refine ⟨_, rfl, ?_, below_step HB.out HW5.out⟩; rw [HE.out]; exact Kd.R_lower HO4.out HB.out.size
set_option maxRecDepth 100000 in
set_option maxHeartbeats 4000000 in
theorem enc_1 (w : World) : Calls Tryd.prog 14 #[oV 8 0 0 0 1 2] w fun e w' => ∃ v, e = .returned (.tuple #[v, .nilIface]) ∧ Kd.R (Kd.int .u8) 5 w' w.heap.size (fun _ => True) v (opE 8 0 0 0 1 2) ∧ Below w.heap.size w w' := by
 have HX := sd (blk_new w (.cells #[.int .i64 8, .int .i64 0, .int .i64 0, .int .i64 0, .int .i64 1, .int .i64 2, .slice none 0 0, .slice none 0 0, .slice none 0 0] 30)); have HB := sd (below_alloc (Below.refl w.heap.size w) (.cells #[.int .i64 8, .int .i64 0, .int .i64 0, .int .i64 0, .int .i64 1, .int .i64 2, .slice none 0 0, .slice none 0 0, .slice none 0 0] 30))
 go_enter Tryd.func14, Tryd.ntmps14
 go_wp2_with (first | (go_at_call 20; refine (right_1 _).mono ?_; rintro e w1 ⟨rfl, hB⟩; replace HX := sd (blk_below HX.out hB); have q0 := (blk_cell HX.out 0); have q1 := (blk_cell HX.out 1); have q2 := (blk_cell HX.out 2); have q3 := (blk_cell HX.out 3); have q4 := (blk_cell HX.out 4); have q5 := (blk_cell HX.out 5); have q6 := (blk_cell HX.out 6); have q7 := (blk_cell HX.out 7); have q8 := (blk_cell HX.out 8); replace HB := sd (below_step HB.out hB); clear hB) | (go_at_call 45; refine (put_e _ _ _ _ _ _ _).mono ?_; rintro e w2 ⟨v, rfl, hR, hB⟩; have HRR := sd (Kd.R_lower hR HB.out.size); replace HB := sd (below_step HB.out hB); clear hB hR)); go_ret2; exact ⟨v, rfl, HRR.out, HB.out⟩
set_option maxRecDepth 100000 in
set_option maxHeartbeats 4000000 in
theorem enc_2 (w : World) : Calls Tryd.prog 14 #[oV 8 0 1 0 0 0] w fun e w' => ∃ u, e = .returned (.tuple #[.slice none 0 0, u]) ∧ Chain w' [(⟨#[99, 111, 100, 101]⟩, 0)] 1 u ∧ Below w.heap.size w w' := by
 have HB := sd (below_alloc (Below.refl w.heap.size w) (.cells #[.int .i64 8, .int .i64 0, .int .i64 1, .int .i64 0, .int .i64 0, .int .i64 0, .slice none 0 0, .slice none 0 0, .slice none 0 0] 30))
 go_enter Tryd.func14, Tryd.ntmps14
 go_wp2_with (first | (go_at_call 20; refine (right_2 _).mono ?_; rintro e w1 ⟨rfl, hB⟩; replace HB := sd (below_step HB.out hB); clear hB) | (go_at_call 44; refine (new_chain (fs := []) (c := 1) rfl).mono ?_; rintro e w2 ⟨u, rfl, hc, hB⟩; have HC := sd hc; replace HB := sd (below_step HB.out hB); clear hB hc)); go_ret2; exact ⟨u, rfl, HC.out, HB.out⟩
theorem cr_bytes : opE 8 0 0 0 1 2 = [8, 0, 0, 0, 0, 0, 0, 0, 0, 0, 0, 0, 0, 0, 0, 0, 0, 0, 0, 0, 0, 0, 0, 0, 0, 0, 0, 0, 0, 0, 0, 0, 1, 0, 0, 0, 0, 0, 0, 0, 2, 0, 0, 0] := by decide
set_option maxRecDepth 100000 in
set_option maxHeartbeats 4000000 in
theorem codeRuns_calls (w : World) (hg : Door w) : Calls Tryd.prog 3 #[] w fun e w' => e = .returned (.bool true) ∧ Below w.heap.size w w' := by
 have HG := sd hg; clear hg
 go_enter Tryd.func3, Tryd.ntmps3
 go_wp2_with fail; refine (enc_1 _).mono ?_; rintro e w1 ⟨v, rfl, hR, hB⟩; rw [cr_bytes] at hR; obtain ⟨A1, c1, rfl, hc1, hC1⟩ := Kd.R_reads hR; have HC1 := sd hC1; have HB := sd hB; clear hR hB hC1 hc1; go_wp2_with fail; refine (enc_2 _).mono ?_; rintro e w2 ⟨u, rfl, hch, hB⟩; obtain ⟨ut, uz, hu⟩ := chain_iface hch; subst hu; replace HC1 := sd (Kd.C_below HC1.out hB); replace HB := sd (below_step HB.out hB); have HK := sd (kind_calls _ _ _ w2 (HG.out.below HB.out) hch); clear hB hch; obtain ⟨ad, rfl, b0⟩ := bytes_at HC1.out 0 (by decide); obtain ⟨ad', hd1, b32⟩ := bytes_at HC1.out 32 (by decide); obtain rfl := Option.some.inj hd1; obtain ⟨ad', hd2, b40⟩ := bytes_at HC1.out 40 (by decide); obtain rfl := Option.some.inj hd2; have k0 : w2.cell? ad = some (.int .u8 8) := by rw [add_zero_] at b0; exact b0
 have k32 : w2.cell? ⟨ad.block, ad.off + 32, none⟩ = some (.int .u8 1) := b32; have k40 : w2.cell? ⟨ad.block, ad.off + 40, none⟩ = some (.int .u8 2) := b40; have k0' : w2.cell? (ad.add 0) = some (.int .u8 8) := b0; clear hd1 hd2 b0 b32 b40 HC1; go_wp2_with fail; refine HK.out.mono ?_; rintro e w4 ⟨rfl, hB⟩; replace HB := sd (below_step HB.out hB); clear hB HK; go_wp2; go_ret; exact ⟨rfl, HB.out⟩
end Go.Proofs.YtbplemhjhpfkgaaDoor.Cr

/-
  tame: an operation of short lists.
-/
import Derived.Test.YtbplemhjhpfkgaaDoorTameBase
import Derived.Test.YtbplemhjhpfkgaaDoorRound
namespace Go.Proofs.YtbplemhjhpfkgaaDoor.Cd
open Go.RowKit Go.Proofs.YtbplemhjhpfkgaaDoorW.PrintWords Go.Proofs.YtbplemhjhpfkgaaDoorW.PrintLast Go.Proofs.YtbplemhjhpfkgaaDoorW.PrintMore Go.Proofs.YtbplemhjhpfkgaaDoor.Rd
attribute [local go_sem] max2_int min2_int max_two min_two max_three min_three max_four min_four
set_option linter.unusedVariables false
set_option linter.unusedSimpArgs false
theorem ov_6_7 : ∀ q, q ∈ 44 :: kCo.E → q ≠ 59 := by intro q hq; have hE : kCo.E = [] := rfl; rw [hE] at hq; obtain rfl := List.mem_singleton.1 hq; decide
theorem ov_6_8 : ∀ q, q ∈ 44 :: kCo.E → q ≠ 5 := by intro q hq; have hE : kCo.E = [] := rfl; rw [hE] at hq; obtain rfl := List.mem_singleton.1 hq; decide
theorem ov_7_6 : ∀ q, q ∈ 59 :: kAt.E → q ≠ 44 := by intro q hq; have hE : kAt.E = [] := rfl; rw [hE] at hq; obtain rfl := List.mem_singleton.1 hq; decide
theorem ov_7_8 : ∀ q, q ∈ 59 :: kAt.E → q ≠ 5 := by intro q hq; have hE : kAt.E = [] := rfl; rw [hE] at hq; obtain rfl := List.mem_singleton.1 hq; decide
theorem ov_8_6 : ∀ q, q ∈ 5 :: (Kd.int .u8).E → q ≠ 44 := by intro q hq; have hE : (Kd.int .u8).E = [] := rfl; rw [hE] at hq; obtain rfl := List.mem_singleton.1 hq; decide
theorem ov_8_7 : ∀ q, q ∈ 5 :: (Kd.int .u8).E → q ≠ 59 := by intro q hq; have hE : (Kd.int .u8).E = [] := rfl; rw [hE] at hq; obtain rfl := List.mem_singleton.1 hq; decide
def tmReg.T1 : Bool × List (List Nat × List Nat) := (true, [([], []), ([], []), ([1], [1]), ([], []), ([3], [3]), ([4], [4]), ([5], [5]), ([2, 6], [2, 6]), ([0, 7], [0, 7]), ([], []), ([], []), ([10], [10]), ([], []), ([12], [12]), ([13], [13]), ([14], [14]), ([11, 15], [11, 15]), ([9, 16, 8], [9, 16]), ([], []), ([], []), ([19], [19]), ([], []), ([21], [21]), ([22], [22]), ([23], [23]), ([20, 24], [20, 24]), ([18, 25, 17], [18, 25]), ([0, 1, 2, 3, 4, 5, 6, 7, 8, 10, 11, 12, 13, 19, 20, 21, 22], []), ([27, 8, 26, 0, 1, 2, 3, 4, 5, 6, 7, 8, 10, 11, 12, 13, 19, 20, 21, 22], [8, 27]), ([0, 1, 2, 3, 4, 5, 6, 7, 8, 9, 10, 11, 12, 13, 14, 15, 16, 17, 19, 20, 21, 22, 27, 28], []), ([29, 17, 28, 0, 1, 2, 3, 4, 5, 6, 7, 8, 9, 10, 11, 12, 13, 14, 15, 16, 17, 19, 20, 21, 22, 27, 28], [17, 29]), ([0, 1, 2, 3, 4, 5, 6, 7, 8, 9, 10, 11, 12, 13, 14, 15, 16, 17, 18, 19, 20, 21, 22, 23, 24, 25, 26, 27, 28, 29, 30], []), ([31, 26, 30, 0, 1, 2, 3, 4, 5, 6, 7, 8, 9, 10, 11, 12, 13, 14, 15, 16, 17, 18, 19, 20, 21, 22, 23, 24, 25, 26, 27, 28, 29, 30], [26, 31])])
def tmReg.B1 : List Nat := [0, 0, 2, 0, 8, 24, 56, 126, 255, 0, 0, 1024, 0, 4096, 12288, 28672, 64512, 131071, 0, 0, 524288, 0, 2097152, 6291456, 14680064, 33030144, 67108863, 7880191, 268435455, 536870911, 1073741823, 2147483647, 4294967295]
theorem tmReg.tab1 : rtab .any (opsOf Tryd.f28 1) = tmReg.T1 := by kernel_rfl
theorem tmReg.bits1 : waitsOk tmReg.T1.2 tmReg.B1 = true := by kernel_rfl
def tm5Reg.T5 : Bool × List (List Nat × List Nat) := (true, [([], []), ([0], [0]), ([], []), ([], []), ([3], [3]), ([], []), ([], []), ([6], [6]), ([], []), ([7, 8], [7, 8]), ([9], [9]), ([10], [10]), ([], []), ([12], [12]), ([], []), ([13, 14], [13, 14]), ([15], [15]), ([16], [16]), ([17], [17]), ([18], [18]), ([11, 19], [11, 19]), ([], []), ([21], [21]), ([], []), ([22, 23], [22, 23]), ([24], [24]), ([25], [25]), ([], []), ([27], [27]), ([], []), ([28, 29], [28, 29]), ([30], [30]), ([31], [31]), ([32], [32]), ([33], [33]), ([26, 34], [26, 34]), ([1, 2, 0, 1, 2, 6, 7, 8, 9, 10, 11, 12, 13, 14, 15, 16, 17, 18, 19, 20, 26, 32], [1, 2]), ([36, 0, 1, 2, 6, 7, 8, 9, 10, 11, 12, 13, 14, 15, 16, 17, 18, 19, 20, 26, 32], [36]), ([37, 20, 0, 1, 2, 6, 7, 8, 9, 10, 11, 12, 13, 14, 15, 16, 17, 18, 19, 20, 26, 32], [20, 37]), ([4, 5, 0, 1, 2, 3, 4, 5, 6, 7, 8, 9, 10, 11, 12, 13, 14, 15, 16, 17, 18, 19, 20, 21, 22, 23, 24, 25, 26, 27, 28, 29, 30, 31, 32, 33, 34, 35, 36, 37, 38], [4, 5]), ([39, 0, 1, 2, 3, 4, 5, 6, 7, 8, 9, 10, 11, 12, 13, 14, 15, 16, 17, 18, 19, 20, 21, 22, 23, 24, 25, 26, 27, 28, 29, 30, 31, 32, 33, 34, 35, 36, 37, 38], [39]), ([40, 35, 38, 0, 1, 2, 3, 4, 5, 6, 7, 8, 9, 10, 11, 12, 13, 14, 15, 16, 17, 18, 19, 20, 21, 22, 23, 24, 25, 26, 27, 28, 29, 30, 31, 32, 33, 34, 35, 36, 37, 38], [35, 40])])
def tm5Reg.B5 : List Nat := [0, 1, 0, 0, 8, 0, 0, 64, 0, 448, 960, 1984, 0, 4096, 0, 28672, 61440, 126976, 258048, 520192, 1048512, 0, 2097152, 0, 14680064, 31457280, 65011712, 0, 134217728, 0, 939524096, 2013265920, 4160749568, 8455716864, 17045651456, 34357641216, 8589934535, 77309411271, 214748364743, 549755813887, 1099511627775, 2199023255551]
theorem tm5Reg.tab5 : rtab .any (opsOf Tryd.f28 5) = tm5Reg.T5 := by kernel_rfl
theorem tm5Reg.bits5 : waitsOk tm5Reg.T5.2 tm5Reg.B5 = true := by kernel_rfl
def tm10Reg.T10 : Bool × List (List Nat × List Nat) := (true, [([], []), ([0], [0]), ([], []), ([], []), ([3], [3]), ([], []), ([], []), ([6], [6]), ([], []), ([7, 8], [7, 8]), ([9], [9]), ([10], [10]), ([], []), ([12], [12]), ([], []), ([13, 14], [13, 14]), ([15], [15]), ([16], [16]), ([17], [17]), ([18], [18]), ([11, 19], [11, 19]), ([], []), ([21], [21]), ([], []), ([22, 23], [22, 23]), ([24], [24]), ([25], [25]), ([26], [26]), ([], []), ([28], [28]), ([], []), ([29, 30], [29, 30]), ([31], [31]), ([32], [32]), ([33], [33]), ([34], [34]), ([35], [35]), ([27, 36], [27, 36]), ([1, 2, 0, 1, 2, 6, 7, 8, 9, 10, 11, 12, 13, 14, 15, 16, 17, 18, 19, 20, 27, 34], [1, 2]), ([38, 0, 1, 2, 6, 7, 8, 9, 10, 11, 12, 13, 14, 15, 16, 17, 18, 19, 20, 27, 34], [38]), ([39, 20, 0, 1, 2, 6, 7, 8, 9, 10, 11, 12, 13, 14, 15, 16, 17, 18, 19, 20, 27, 34], [20, 39]), ([4, 5, 0, 1, 2, 3, 4, 5, 6, 7, 8, 9, 10, 11, 12, 13, 14, 15, 16, 17, 18, 19, 20, 21, 22, 23, 24, 25, 26, 27, 28, 29, 30, 31, 32, 33, 34, 35, 36, 37, 38, 39, 40], [4, 5]), ([41, 0, 1, 2, 3, 4, 5, 6, 7, 8, 9, 10, 11, 12, 13, 14, 15, 16, 17, 18, 19, 20, 21, 22, 23, 24, 25, 26, 27, 28, 29, 30, 31, 32, 33, 34, 35, 36, 37, 38, 39, 40], [41]), ([42, 0, 1, 2, 3, 4, 5, 6, 7, 8, 9, 10, 11, 12, 13, 14, 15, 16, 17, 18, 19, 20, 21, 22, 23, 24, 25, 26, 27, 28, 29, 30, 31, 32, 33, 34, 35, 36, 37, 38, 39, 40], [42]), ([43, 37, 40, 0, 1, 2, 3, 4, 5, 6, 7, 8, 9, 10, 11, 12, 13, 14, 15, 16, 17, 18, 19, 20, 21, 22, 23, 24, 25, 26, 27, 28, 29, 30, 31, 32, 33, 34, 35, 36, 37, 38, 39, 40], [37, 43])])
def tm10Reg.B10 : List Nat := [0, 1, 0, 0, 8, 0, 0, 64, 0, 448, 960, 1984, 0, 4096, 0, 28672, 61440, 126976, 258048, 520192, 1048512, 0, 2097152, 0, 14680064, 31457280, 65011712, 132120576, 0, 268435456, 0, 1879048192, 4026531840, 8321499136, 16911433728, 34091302912, 68451041280, 137436856320, 34359738311, 309237645255, 858993459143, 2199023255551, 4398046511103, 8796093022207, 17592186044415]
theorem tm10Reg.tab10 : rtab .any (opsOf Tryd.f28 10) = tm10Reg.T10 := by kernel_rfl
theorem tm10Reg.bits10 : waitsOk tm10Reg.T10.2 tm10Reg.B10 = true := by kernel_rfl
theorem take_min {α : Type} (k : Nat) (xs : List α) : xs.take (min k xs.length) = xs.take k := by
  rcases Nat.le_total k xs.length with h | h
  · rw [Nat.min_eq_left h]
  · rw [Nat.min_eq_right h, List.take_length, List.take_of_length_le h]
set_option maxRecDepth 100000 in
set_option maxHeartbeats 16000000 in
theorem tame_far (o : OpD) (A6 : Option Addr) (m6 : Nat) (A7 : Option Addr) (m7 : Nat) (A8 : Option Addr) (m8 : Nat) (w : World) (hL : Lies w o A6 A7 A8) (l6 : o.p.length ≤ m6) (l7 : o.s.length ≤ m7) (l8 : o.r.length ≤ m8) :
    Calls Tryd.prog 28 #[oW o A6 m6 A7 m7 A8 m8] w fun e w' => ∃ B6 n6 B7 n7 B8 n8, e = .returned (oW (tameD o) B6 n6 B7 n7 B8 n8) ∧ Lies w' (tameD o) B6 B7 B8 ∧ (Past w.heap.size B6 ∧ Past w.heap.size B7 ∧ Past w.heap.size B8) ∧ Below w.heap.size w w' := by
  obtain ⟨zk, zc, zq, zh, za, zt, zp, zs, zr⟩ := o
  obtain ⟨p5, hp5⟩ : ∃ l, zp.take 5 = l := ⟨_, rfl⟩
  obtain ⟨s5, hs5⟩ : ∃ l, zs.take 5 = l := ⟨_, rfl⟩
  obtain ⟨r20, hr20⟩ : ∃ l, zr.take 20 = l := ⟨_, rfl⟩
  have np : p5.length = min 5 zp.length := by rw [← hp5, List.length_take]
  have ns : s5.length = min 5 zs.length := by rw [← hs5, List.length_take]
  have nr : r20.length = min 20 zr.length := by rw [← hr20, List.length_take]
  have i6 : (if (5 : Int) < (zp.length : Int) then (5 : Int) else (zp.length : Int)) = (p5.length : Int) := by rw [np]; split <;> omega
  have i7 : (if (5 : Int) < (zs.length : Int) then (5 : Int) else (zs.length : Int)) = (s5.length : Int) := by rw [ns]; split <;> omega
  have i8 : (if (20 : Int) < (zr.length : Int) then (20 : Int) else (zr.length : Int)) = (r20.length : Int) := by rw [nr]; split <;> omega
  obtain ⟨j6, k6, _, _, _⟩ := info_parts infoCo
  obtain ⟨j7, k7, _, _, _⟩ := info_parts infoAt
  obtain ⟨j8, k8, _, _, _⟩ := info_parts infoU8
  have l6' : zp.length ≤ m6 := l6
  have l7' : zs.length ≤ m7 := l7
  have l8' : zr.length ≤ m8 := l8
  have g6 := cut_any Tryd.underlying27 k6 A6 zp.length m6 p5.length (by omega)
  have g7 := cut_any Tryd.underlying28 k7 A7 zs.length m7 s5.length (by omega)
  have g8 := cut_any Tryd.underlying22 k8 A8 zr.length m8 r20.length (by omega)
  have H6 := Aside0.mk (show Kd.C kCo w A6 p5.length p5 by have h0 : Kd.C kCo w A6 zp.length zp := hL.p; have h := Kd.C_take (m := p5.length) h0 (by omega); rw [show zp.take p5.length = p5 by rw [np, ← hp5]; exact take_min 5 zp] at h; exact h)
  have H7 := Aside0.mk (show Kd.C kAt w A7 s5.length s5 by have h0 : Kd.C kAt w A7 zs.length zs := hL.s; have h := Kd.C_take (m := s5.length) h0 (by omega); rw [show zs.take s5.length = s5 by rw [ns, ← hs5]; exact take_min 5 zs] at h; exact h)
  have H8 := Aside0.mk (show Kd.C (Kd.int .u8) w A8 r20.length r20 by have h0 : Kd.C (Kd.int .u8) w A8 zr.length zr := hL.r; have h := Kd.C_take (m := r20.length) h0 (by omega); rw [show zr.take r20.length = r20 by rw [nr, ← hr20]; exact take_min 20 zr] at h; exact h)
  have HT : Hid (tameD ⟨zk, zc, zq, zh, za, zt, zp, zs, zr⟩ = ⟨zk, zc, zq, zh, za, zt, p5.map cutC, s5.map cutA, r20⟩) := Lib.hid (by simp only [tameD, hp5, hs5, hr20])
  generalize tameD ⟨zk, zc, zq, zh, za, zt, zp, zs, zr⟩ = oT at HT ⊢
  have b6 : p5.length ≤ 5 := by omega
  have b7 : s5.length ≤ 5 := by omega
  have b8 : r20.length ≤ 20 := by omega
  clear hL l6 l7 l8 hp5 hs5 hr20 np ns nr l6' l7' l8' k6 k7 k8
  have ho := blk_alloc (blk_new w (.cells #[.int .i64 zk, .int .i64 zc, .int .i64 zq, .int .i64 zh, .int .i64 za, .int .i64 zt, .slice A6 zp.length m6, .slice A7 zs.length m7, .slice A8 zr.length m8] 30)) (.cells #[.int .i64 0, .int .i64 0, .int .i64 0, .int .i64 0, .int .i64 0, .int .i64 0, .slice none 0 0, .slice none 0 0, .slice none 0 0] 30)
  have hz := blk_new (w.alloc (.cells #[.int .i64 zk, .int .i64 zc, .int .i64 zq, .int .i64 zh, .int .i64 za, .int .i64 zt, .slice A6 zp.length m6, .slice A7 zs.length m7, .slice A8 zr.length m8] 30)) (.cells #[.int .i64 0, .int .i64 0, .int .i64 0, .int .i64 0, .int .i64 0, .int .i64 0, .slice none 0 0, .slice none 0 0, .slice none 0 0] 30)
  rw [show (w.alloc (.cells #[.int .i64 zk, .int .i64 zc, .int .i64 zq, .int .i64 zh, .int .i64 za, .int .i64 zt, .slice A6 zp.length m6, .slice A7 zs.length m7, .slice A8 zr.length m8] 30)).heap.size = w.heap.size + 1 by simp] at hz
  have O0 := Aside0.mk ho
  have HZ := Aside0.mk hz
  have HW := Aside0.mk (below_alloc (below_alloc (Below.refl w.heap.size w) (.cells #[.int .i64 zk, .int .i64 zc, .int .i64 zq, .int .i64 zh, .int .i64 za, .int .i64 zt, .slice A6 zp.length m6, .slice A7 zs.length m7, .slice A8 zr.length m8] 30)) (.cells #[.int .i64 0, .int .i64 0, .int .i64 0, .int .i64 0, .int .i64 0, .int .i64 0, .slice none 0 0, .slice none 0 0, .slice none 0 0] 30))
  clear ho hz
  go_enter Tryd.func28, Tryd.ntmps28
  go_upto_region 1 with fail
  generalize ((w.alloc (.cells #[.int .i64 zk, .int .i64 zc, .int .i64 zq, .int .i64 zh, .int .i64 za, .int .i64 zt, .slice A6 zp.length m6, .slice A7 zs.length m7, .slice A8 zr.length m8] 30)).alloc (.cells #[.int .i64 0, .int .i64 0, .int .i64 0, .int .i64 0, .int .i64 0, .int .i64 0, .slice none 0 0, .slice none 0 0, .slice none 0 0] 30)) = wa at *
  generalize hbz : w.heap.size + 1 = bz at HZ ⊢
  generalize hbx : w.heap.size = bx at O0 ⊢
  have HGX := Aside0.mk (show w.heap.size ≤ bx by omega)
  have HGZ := Aside0.mk (show w.heap.size ≤ bz by omega)
  have HNZX := Aside0.mk (show bz ≠ bx by omega)
  have HNXZ := Aside0.mk (show bx ≠ bz by omega)
  clear hbz hbx
  go_cut [5] from 6 to 34 (fun v wx => ∃ n6 c6 n7 c7 n8 c8, Aside0 (Below w.heap.size w wx) ∧ Aside0 (wx.heap[bz]? = some (.cells #[.int .i64 0, .int .i64 0, .int .i64 0, .int .i64 0, .int .i64 0, .int .i64 0, .slice none 0 0, .slice none 0 0, .slice none 0 0] 30 (0, 0))) ∧ Aside0 (wx.heap[bx]? = some (.cells #[.int .i64 zk, .int .i64 zc, .int .i64 zq, .int .i64 zh, .int .i64 za, .int .i64 zt, .slice n6 p5.length c6, .slice n7 s5.length c7, .slice n8 r20.length c8] 30 (0, 0))) ∧ Aside0 (Kd.R kCo 44 wx w.heap.size (fun _ => True) (.slice n6 p5.length c6) p5) ∧ Aside0 (Kd.R kAt 59 wx w.heap.size (fun _ => True) (.slice n7 s5.length c7) s5) ∧ Aside0 (Kd.R (Kd.int .u8) 5 wx w.heap.size (fun _ => True) (.slice n8 r20.length c8) r20))
  case first =>
    refine start_ (n := 33) (S := fun w' => True) (ds := []) #[false, false, false, false, false, false, false, false, false, false, false, false, false, false, false, false, false, false, false, false, false, false, false, false, false, false, false, false, false, false, false, false, false] (by kernel_rfl) rfl rfl trivial (fun hHeld => ?_)
    refine with_tabW tmReg.tab1 tmReg.bits1 (fun HT_ HW_ => ?_)
    refine pure_ (i := 1) (N := some 6) (v := ?_) (a' := ?_) #[false, true, false, false, false, false, false, false, false, false, false, false, false, false, false, false, false, false, false, false, false, false, false, false, false, false, false, false, false, false, false, false, false] rfl rfl (any_of HT_.out (by kernel_rfl)) (fun _ _ _ h => h) (Or.inl ⟨by rfl, ?_⟩) ?_ ?_
    rotate_left
    · intro w'
      go_simp
      with_reducible rfl
    rotate_left
    · simp only [Act.put, List.setIfInBounds_toArray, List.set_cons_zero, List.set_cons_succ, i64_w, i32_w]
      rfl
    refine pure_ (i := 3) (N := some 8) (v := ?_) (a' := ?_) #[false, true, false, true, false, false, false, false, false, false, false, false, false, false, false, false, false, false, false, false, false, false, false, false, false, false, false, false, false, false, false, false, false] rfl rfl (any_of HT_.out (by kernel_rfl)) (fun _ _ _ h => h) (Or.inl ⟨by rfl, ?_⟩) ?_ ?_
    rotate_left
    · intro w'
      go_simp
      with_reducible rfl
    rotate_left
    · simp only [Act.put, List.setIfInBounds_toArray, List.set_cons_zero, List.set_cons_succ, i64_w, i32_w]
      rfl
    refine pure_ (i := 10) (N := some 15) (v := ?_) (a' := ?_) #[false, true, false, true, false, false, false, false, false, false, true, false, false, false, false, false, false, false, false, false, false, false, false, false, false, false, false, false, false, false, false, false, false] rfl rfl (any_of HT_.out (by kernel_rfl)) (fun _ _ _ h => h) (Or.inl ⟨by rfl, ?_⟩) ?_ ?_
    rotate_left
    · intro w'
      go_simp
      with_reducible rfl
    rotate_left
    · simp only [Act.put, List.setIfInBounds_toArray, List.set_cons_zero, List.set_cons_succ, i64_w, i32_w]
      rfl
    refine pure_ (i := 12) (N := some 17) (v := ?_) (a' := ?_) #[false, true, false, true, false, false, false, false, false, false, true, false, true, false, false, false, false, false, false, false, false, false, false, false, false, false, false, false, false, false, false, false, false] rfl rfl (any_of HT_.out (by kernel_rfl)) (fun _ _ _ h => h) (Or.inl ⟨by rfl, ?_⟩) ?_ ?_
    rotate_left
    · intro w'
      go_simp
      with_reducible rfl
    rotate_left
    · simp only [Act.put, List.setIfInBounds_toArray, List.set_cons_zero, List.set_cons_succ, i64_w, i32_w]
      rfl
    refine pure_ (i := 19) (N := some 24) (v := ?_) (a' := ?_) #[false, true, false, true, false, false, false, false, false, false, true, false, true, false, false, false, false, false, false, true, false, false, false, false, false, false, false, false, false, false, false, false, false] rfl rfl (any_of HT_.out (by kernel_rfl)) (fun _ _ _ h => h) (Or.inl ⟨by rfl, ?_⟩) ?_ ?_
    rotate_left
    · intro w'
      go_simp
      with_reducible rfl
    rotate_left
    · simp only [Act.put, List.setIfInBounds_toArray, List.set_cons_zero, List.set_cons_succ, i64_w, i32_w]
      rfl
    refine pure_ (i := 21) (N := some 26) (v := ?_) (a' := ?_) #[false, true, false, true, false, false, false, false, false, false, true, false, true, false, false, false, false, false, false, true, false, true, false, false, false, false, false, false, false, false, false, false, false] rfl rfl (any_of HT_.out (by kernel_rfl)) (fun _ _ _ h => h) (Or.inl ⟨by rfl, ?_⟩) ?_ ?_
    rotate_left
    · intro w'
      go_simp
      with_reducible rfl
    rotate_left
    · simp only [Act.put, List.setIfInBounds_toArray, List.set_cons_zero, List.set_cons_succ, i64_w, i32_w]
      rfl
    refine inv_at [0, 2, 4, 5, 6, 7, 8, 9, 11, 13, 14, 15, 16, 17, 18, 20, 22, 23, 24, 25, 26, 27, 28, 29, 30, 31, 32] (fun a0_ b a w' => ∃ (e6_ : Nat) (n6_ : Option Addr) (c6_ : Nat) (e7_ : Nat) (n7_ : Option Addr) (c7_ : Nat) (e8_ : Nat) (n8_ : Option Addr) (c8_ : Nat) (m0_ : Value) (m8_ : Value) (m9_ : Value) (m17_ : Value) (m18_ : Value) (m26_ : Value), a = putSel a0_ b [(0, 5, m0_), (2, 7, .slice A6 zp.length m6), (4, 9, .slice A6 zp.length m6), (5, 10, .int .i64 (zp.length : Int)), (6, 11, .int .i64 (p5.length : Int)), (7, 12, .slice A6 p5.length m6), (8, 13, m8_), (9, 14, m9_), (11, 16, .slice A7 zs.length m7), (13, 18, .slice A7 zs.length m7), (14, 19, .int .i64 (zs.length : Int)), (15, 20, .int .i64 (s5.length : Int)), (16, 21, .slice A7 s5.length m7), (17, 22, m17_), (18, 23, m18_), (20, 25, .slice A8 zr.length m8), (22, 27, .slice A8 zr.length m8), (23, 28, .int .i64 (zr.length : Int)), (24, 29, .int .i64 (r20.length : Int)), (25, 30, .slice A8 r20.length m8), (26, 31, m26_), (27, 32, .pointer (some ⟨bx, 6, none⟩)), (29, 33, .pointer (some ⟨bx, 7, none⟩)), (31, 34, .pointer (some ⟨bx, 8, none⟩))] ∧ (Below w.heap.size w w') ∧ (w'.heap[bz]? = some (.cells #[.int .i64 0, .int .i64 0, .int .i64 0, .int .i64 0, .int .i64 0, .int .i64 0, .slice none 0 0, .slice none 0 0, .slice none 0 0] 30 (0, 0))) ∧ (b 28 = false → w'.heap[bx]? = some (.cells #[.int .i64 zk, .int .i64 zc, .int .i64 zq, .int .i64 zh, .int .i64 za, .int .i64 zt, .slice A6 zp.length m6, .slice A7 zs.length m7, .slice A8 zr.length m8] 30 (0, 0))) ∧ (b 28 = true → b 30 = false → w'.heap[bx]? = some (.cells #[.int .i64 zk, .int .i64 zc, .int .i64 zq, .int .i64 zh, .int .i64 za, .int .i64 zt, .slice n6_ p5.length c6_, .slice A7 zs.length m7, .slice A8 zr.length m8] 30 (0, 0))) ∧ (b 30 = true → b 32 = false → w'.heap[bx]? = some (.cells #[.int .i64 zk, .int .i64 zc, .int .i64 zq, .int .i64 zh, .int .i64 za, .int .i64 zt, .slice n6_ p5.length c6_, .slice n7_ s5.length c7_, .slice A8 zr.length m8] 30 (0, 0))) ∧ (b 32 = true → w'.heap[bx]? = some (.cells #[.int .i64 zk, .int .i64 zc, .int .i64 zq, .int .i64 zh, .int .i64 za, .int .i64 zt, .slice n6_ p5.length c6_, .slice n7_ s5.length c7_, .slice n8_ r20.length c8_] 30 (0, 0))) ∧ (b 0 = true → b 8 = false → Kd.R kCo 44 w' w.heap.size (fun _ => True) (.slice (some ⟨e6_, 0, none⟩) 0 0) []) ∧ (b 8 = true → Kd.R kCo 44 w' w.heap.size (fun _ => True) (.slice n6_ p5.length c6_) p5) ∧ (b 9 = true → b 17 = false → Kd.R kAt 59 w' w.heap.size (fun _ => True) (.slice (some ⟨e7_, 0, none⟩) 0 0) []) ∧ (b 17 = true → Kd.R kAt 59 w' w.heap.size (fun _ => True) (.slice n7_ s5.length c7_) s5) ∧ (b 18 = true → b 26 = false → Kd.R (Kd.int .u8) 5 w' w.heap.size (fun _ => True) (.slice (some ⟨e8_, 0, none⟩) 0 0) []) ∧ (b 26 = true → Kd.R (Kd.int .u8) 5 w' w.heap.size (fun _ => True) (.slice n8_ r20.length c8_) r20) ∧ (b 0 = true → (m0_ : Value) = .slice (some ⟨e6_, 0, none⟩) 0 0) ∧ (b 8 = true → (m8_ : Value) = .slice n6_ p5.length c6_) ∧ (b 9 = true → (m9_ : Value) = .slice (some ⟨e7_, 0, none⟩) 0 0) ∧ (b 17 = true → (m17_ : Value) = .slice n7_ s5.length c7_) ∧ (b 18 = true → (m18_ : Value) = .slice (some ⟨e8_, 0, none⟩) 0 0) ∧ (b 26 = true → (m26_ : Value) = .slice n8_ r20.length c8_)) HT_.out HW_.out (by kernel_rfl) (by kernel_rfl) ?_ ?_ ?_
    · exact ⟨0, none, 0, 0, none, 0, 0, none, 0, .bool false, .bool false, .bool false, .bool false, .bool false, .bool false, by simp only [putSel, Bool.false_eq_true, if_false], below_drew HW.out, HZ.out, fun _ => O0.out, fun h_ => absurd h_ (by decide), fun h_ => absurd h_ (by decide), fun h_ => absurd h_ (by decide), fun h_ => absurd h_ (by decide), fun h_ => absurd h_ (by decide), fun h_ => absurd h_ (by decide), fun h_ => absurd h_ (by decide), fun h_ => absurd h_ (by decide), fun h_ => absurd h_ (by decide), fun h_ => absurd h_ (by decide), fun h_ => absurd h_ (by decide), fun h_ => absurd h_ (by decide), fun h_ => absurd h_ (by decide), fun h_ => absurd h_ (by decide), fun h_ => absurd h_ (by decide)⟩
    · skip
      clear HW HZ O0
      refine steps_cons ?_ ?_
      · rintro b a w' ⟨e6_, n6_, c6_, e7_, n7_, c7_, e8_, n8_, c8_, m0_, m8_, m9_, m17_, m18_, m26_, ha, Q_HW, Q_HZ, Q_O0, Q_O1, Q_O2, Q_O3, Q_E6, Q_N6, Q_E7, Q_N7, Q_E8, Q_N8, Q_X0_, Q_X8_, Q_X9_, Q_X17_, Q_X18_, Q_X26_⟩ hb_ hon hoff
        refine ⟨_, rfl, fun K hK => ?_⟩
        replace ha := Aside0.mk ha
        have HW := Aside0.mk Q_HW
        have HZ := Aside0.mk Q_HZ
        have O0 := Aside0.mk (Q_O0 (hoff 28 (by kernel_rfl)))
        refine value_ (w1 := w'.alloc (.cells #[] 44)) (v := .slice (some ⟨w'.heap.size, 0, none⟩) 0 0) (by rfl) rfl (by go_simp) ?_
        refine hK.out _ _ ⟨w'.heap.size, n6_, c6_, e7_, n7_, c7_, e8_, n8_, c8_, (.slice (some ⟨w'.heap.size, 0, none⟩) 0 0), m8_, m9_, m17_, m18_, m26_, (by rw [ha.out]; exact putSel_upk 0 hb_ rfl rfl rfl), below_alloc HW.out _, blk_alloc HZ.out _, fun _ => blk_alloc O0.out _, fun h0_ _ => absurd ((hoff 28 (by kernel_rfl)).symm.trans h0_) (by decide), fun h0_ _ => absurd ((hoff 30 (by kernel_rfl)).symm.trans h0_) (by decide), fun h0_ => absurd ((hoff 32 (by kernel_rfl)).symm.trans h0_) (by decide), fun _ _ => Kd.R_lower (own_eCo w') HW.out.size, fun h0_ => absurd ((hoff 8 (by kernel_rfl)).symm.trans h0_) (by decide), fun h0_ h1_ => Kd.R_alloc (Q_E7 h0_ h1_) _, fun h0_ => absurd ((hoff 17 (by kernel_rfl)).symm.trans h0_) (by decide), fun h0_ h1_ => Kd.R_alloc (Q_E8 h0_ h1_) _, fun h0_ => absurd ((hoff 26 (by kernel_rfl)).symm.trans h0_) (by decide), fun _ => rfl, fun h0_ => absurd ((hoff 8 (by kernel_rfl)).symm.trans h0_) (by decide), Q_X9_, fun h0_ => absurd ((hoff 17 (by kernel_rfl)).symm.trans h0_) (by decide), Q_X18_, fun h0_ => absurd ((hoff 26 (by kernel_rfl)).symm.trans h0_) (by decide)⟩
      refine steps_cons ?_ ?_
      · rintro b a w' ⟨e6_, n6_, c6_, e7_, n7_, c7_, e8_, n8_, c8_, m0_, m8_, m9_, m17_, m18_, m26_, ha, Q_HW, Q_HZ, Q_O0, Q_O1, Q_O2, Q_O3, Q_E6, Q_N6, Q_E7, Q_N7, Q_E8, Q_N8, Q_X0_, Q_X8_, Q_X9_, Q_X17_, Q_X18_, Q_X26_⟩ hb_ hon hoff
        refine ⟨_, rfl, fun K hK => ?_⟩
        have e6 : a.tmps[6]? = some (.pointer (some ⟨bx, 6, none⟩)) := by rw [ha]; exact (putSel_off rfl).trans rfl
        replace ha := Aside0.mk ha
        have HW := Aside0.mk Q_HW
        have HZ := Aside0.mk Q_HZ
        have O0 := Aside0.mk (Q_O0 (hoff 28 (by kernel_rfl)))
        have q6 := (blk_cell O0.out 6).trans (rfl : _ = some (Value.slice A6 zp.length m6))
        refine value_ (w1 := w') (v := .slice A6 zp.length m6) (by rfl) rfl ?_ ?_
        · go_simp
          (try simp only [i64_w])
          try rfl
        refine hK.out _ _ ⟨e6_, n6_, c6_, e7_, n7_, c7_, e8_, n8_, c8_, m0_, m8_, m9_, m17_, m18_, m26_, (by rw [ha.out]; exact putSel_upk 1 hb_ rfl rfl rfl), Q_HW, Q_HZ, Q_O0, fun h0_ _ => absurd ((hoff 28 (by kernel_rfl)).symm.trans h0_) (by decide), fun h0_ _ => absurd ((hoff 30 (by kernel_rfl)).symm.trans h0_) (by decide), fun h0_ => absurd ((hoff 32 (by kernel_rfl)).symm.trans h0_) (by decide), Q_E6, fun h0_ => absurd ((hoff 8 (by kernel_rfl)).symm.trans h0_) (by decide), Q_E7, fun h0_ => absurd ((hoff 17 (by kernel_rfl)).symm.trans h0_) (by decide), Q_E8, fun h0_ => absurd ((hoff 26 (by kernel_rfl)).symm.trans h0_) (by decide), Q_X0_, fun h0_ => absurd ((hoff 8 (by kernel_rfl)).symm.trans h0_) (by decide), Q_X9_, fun h0_ => absurd ((hoff 17 (by kernel_rfl)).symm.trans h0_) (by decide), Q_X18_, fun h0_ => absurd ((hoff 26 (by kernel_rfl)).symm.trans h0_) (by decide)⟩
      refine steps_cons ?_ ?_
      · rintro b a w' ⟨e6_, n6_, c6_, e7_, n7_, c7_, e8_, n8_, c8_, m0_, m8_, m9_, m17_, m18_, m26_, ha, Q_HW, Q_HZ, Q_O0, Q_O1, Q_O2, Q_O3, Q_E6, Q_N6, Q_E7, Q_N7, Q_E8, Q_N8, Q_X0_, Q_X8_, Q_X9_, Q_X17_, Q_X18_, Q_X26_⟩ hb_ hon hoff
        refine ⟨_, rfl, fun K hK => ?_⟩
        have e8 : a.tmps[8]? = some (.pointer (some ⟨bx, 6, none⟩)) := by rw [ha]; exact (putSel_off rfl).trans rfl
        replace ha := Aside0.mk ha
        have HW := Aside0.mk Q_HW
        have HZ := Aside0.mk Q_HZ
        have O0 := Aside0.mk (Q_O0 (hoff 28 (by kernel_rfl)))
        have q6 := (blk_cell O0.out 6).trans (rfl : _ = some (Value.slice A6 zp.length m6))
        refine value_ (w1 := w') (v := .slice A6 zp.length m6) (by rfl) rfl ?_ ?_
        · go_simp
          (try simp only [i64_w])
          try rfl
        refine hK.out _ _ ⟨e6_, n6_, c6_, e7_, n7_, c7_, e8_, n8_, c8_, m0_, m8_, m9_, m17_, m18_, m26_, (by rw [ha.out]; exact putSel_upk 2 hb_ rfl rfl rfl), Q_HW, Q_HZ, Q_O0, fun h0_ _ => absurd ((hoff 28 (by kernel_rfl)).symm.trans h0_) (by decide), fun h0_ _ => absurd ((hoff 30 (by kernel_rfl)).symm.trans h0_) (by decide), fun h0_ => absurd ((hoff 32 (by kernel_rfl)).symm.trans h0_) (by decide), Q_E6, fun h0_ => absurd ((hoff 8 (by kernel_rfl)).symm.trans h0_) (by decide), Q_E7, fun h0_ => absurd ((hoff 17 (by kernel_rfl)).symm.trans h0_) (by decide), Q_E8, fun h0_ => absurd ((hoff 26 (by kernel_rfl)).symm.trans h0_) (by decide), Q_X0_, fun h0_ => absurd ((hoff 8 (by kernel_rfl)).symm.trans h0_) (by decide), Q_X9_, fun h0_ => absurd ((hoff 17 (by kernel_rfl)).symm.trans h0_) (by decide), Q_X18_, fun h0_ => absurd ((hoff 26 (by kernel_rfl)).symm.trans h0_) (by decide)⟩
      refine steps_cons ?_ ?_
      · rintro b a w' ⟨e6_, n6_, c6_, e7_, n7_, c7_, e8_, n8_, c8_, m0_, m8_, m9_, m17_, m18_, m26_, ha, Q_HW, Q_HZ, Q_O0, Q_O1, Q_O2, Q_O3, Q_E6, Q_N6, Q_E7, Q_N7, Q_E8, Q_N8, Q_X0_, Q_X8_, Q_X9_, Q_X17_, Q_X18_, Q_X26_⟩ hb_ hon hoff
        refine ⟨_, rfl, fun K hK => ?_⟩
        have e9 : a.tmps[9]? = some (.slice A6 zp.length m6) := by rw [ha]; exact putSel_on (e := (4, 9, .slice A6 zp.length m6)) 2 rfl rfl (hon 4 (by kernel_rfl)) rfl
        replace ha := Aside0.mk ha
        have HW := Aside0.mk Q_HW
        have HZ := Aside0.mk Q_HZ
        have O0 := Aside0.mk (Q_O0 (hoff 28 (by kernel_rfl)))
        refine value_ (w1 := w') (v := .int .i64 (zp.length : Int)) (by rfl) rfl ?_ ?_
        · go_simp
          (try simp only [i64_w])
          try rfl
        refine hK.out _ _ ⟨e6_, n6_, c6_, e7_, n7_, c7_, e8_, n8_, c8_, m0_, m8_, m9_, m17_, m18_, m26_, (by rw [ha.out]; exact putSel_upk 3 hb_ rfl rfl rfl), Q_HW, Q_HZ, Q_O0, fun h0_ _ => absurd ((hoff 28 (by kernel_rfl)).symm.trans h0_) (by decide), fun h0_ _ => absurd ((hoff 30 (by kernel_rfl)).symm.trans h0_) (by decide), fun h0_ => absurd ((hoff 32 (by kernel_rfl)).symm.trans h0_) (by decide), Q_E6, fun h0_ => absurd ((hoff 8 (by kernel_rfl)).symm.trans h0_) (by decide), Q_E7, fun h0_ => absurd ((hoff 17 (by kernel_rfl)).symm.trans h0_) (by decide), Q_E8, fun h0_ => absurd ((hoff 26 (by kernel_rfl)).symm.trans h0_) (by decide), Q_X0_, fun h0_ => absurd ((hoff 8 (by kernel_rfl)).symm.trans h0_) (by decide), Q_X9_, fun h0_ => absurd ((hoff 17 (by kernel_rfl)).symm.trans h0_) (by decide), Q_X18_, fun h0_ => absurd ((hoff 26 (by kernel_rfl)).symm.trans h0_) (by decide)⟩
      refine steps_cons ?_ ?_
      · rintro b a w' ⟨e6_, n6_, c6_, e7_, n7_, c7_, e8_, n8_, c8_, m0_, m8_, m9_, m17_, m18_, m26_, ha, Q_HW, Q_HZ, Q_O0, Q_O1, Q_O2, Q_O3, Q_E6, Q_N6, Q_E7, Q_N7, Q_E8, Q_N8, Q_X0_, Q_X8_, Q_X9_, Q_X17_, Q_X18_, Q_X26_⟩ hb_ hon hoff
        refine ⟨_, rfl, fun K hK => ?_⟩
        have e10 : a.tmps[10]? = some (.int .i64 (zp.length : Int)) := by rw [ha]; exact putSel_on (e := (5, 10, .int .i64 (zp.length : Int))) 3 rfl rfl (hon 5 (by kernel_rfl)) rfl
        replace ha := Aside0.mk ha
        have HW := Aside0.mk Q_HW
        have HZ := Aside0.mk Q_HZ
        have O0 := Aside0.mk (Q_O0 (hoff 28 (by kernel_rfl)))
        refine value_ (w1 := w') (v := .int .i64 (p5.length : Int)) (by rfl) rfl ?_ ?_
        · go_simp
          (try simp only [i64_w])
          try rfl
        refine hK.out _ _ ⟨e6_, n6_, c6_, e7_, n7_, c7_, e8_, n8_, c8_, m0_, m8_, m9_, m17_, m18_, m26_, (by rw [ha.out]; exact putSel_upk 4 hb_ rfl rfl rfl), Q_HW, Q_HZ, Q_O0, fun h0_ _ => absurd ((hoff 28 (by kernel_rfl)).symm.trans h0_) (by decide), fun h0_ _ => absurd ((hoff 30 (by kernel_rfl)).symm.trans h0_) (by decide), fun h0_ => absurd ((hoff 32 (by kernel_rfl)).symm.trans h0_) (by decide), Q_E6, fun h0_ => absurd ((hoff 8 (by kernel_rfl)).symm.trans h0_) (by decide), Q_E7, fun h0_ => absurd ((hoff 17 (by kernel_rfl)).symm.trans h0_) (by decide), Q_E8, fun h0_ => absurd ((hoff 26 (by kernel_rfl)).symm.trans h0_) (by decide), Q_X0_, fun h0_ => absurd ((hoff 8 (by kernel_rfl)).symm.trans h0_) (by decide), Q_X9_, fun h0_ => absurd ((hoff 17 (by kernel_rfl)).symm.trans h0_) (by decide), Q_X18_, fun h0_ => absurd ((hoff 26 (by kernel_rfl)).symm.trans h0_) (by decide)⟩
      refine steps_cons ?_ ?_
      · rintro b a w' ⟨e6_, n6_, c6_, e7_, n7_, c7_, e8_, n8_, c8_, m0_, m8_, m9_, m17_, m18_, m26_, ha, Q_HW, Q_HZ, Q_O0, Q_O1, Q_O2, Q_O3, Q_E6, Q_N6, Q_E7, Q_N7, Q_E8, Q_N8, Q_X0_, Q_X8_, Q_X9_, Q_X17_, Q_X18_, Q_X26_⟩ hb_ hon hoff
        refine ⟨_, rfl, fun K hK => ?_⟩
        have e7 : a.tmps[7]? = some (.slice A6 zp.length m6) := by rw [ha]; exact putSel_on (e := (2, 7, .slice A6 zp.length m6)) 1 rfl rfl (hon 2 (by kernel_rfl)) rfl
        have e11 : a.tmps[11]? = some (.int .i64 (p5.length : Int)) := by rw [ha]; exact putSel_on (e := (6, 11, .int .i64 (p5.length : Int))) 4 rfl rfl (hon 6 (by kernel_rfl)) rfl
        replace ha := Aside0.mk ha
        have HW := Aside0.mk Q_HW
        have HZ := Aside0.mk Q_HZ
        have O0 := Aside0.mk (Q_O0 (hoff 28 (by kernel_rfl)))
        refine value_ (w1 := w') (v := .slice A6 p5.length m6) (by rfl) rfl ?_ ?_
        · go_simp
          (try simp only [i64_w])
          try rfl
        refine hK.out _ _ ⟨e6_, n6_, c6_, e7_, n7_, c7_, e8_, n8_, c8_, m0_, m8_, m9_, m17_, m18_, m26_, (by rw [ha.out]; exact putSel_upk 5 hb_ rfl rfl rfl), Q_HW, Q_HZ, Q_O0, fun h0_ _ => absurd ((hoff 28 (by kernel_rfl)).symm.trans h0_) (by decide), fun h0_ _ => absurd ((hoff 30 (by kernel_rfl)).symm.trans h0_) (by decide), fun h0_ => absurd ((hoff 32 (by kernel_rfl)).symm.trans h0_) (by decide), Q_E6, fun h0_ => absurd ((hoff 8 (by kernel_rfl)).symm.trans h0_) (by decide), Q_E7, fun h0_ => absurd ((hoff 17 (by kernel_rfl)).symm.trans h0_) (by decide), Q_E8, fun h0_ => absurd ((hoff 26 (by kernel_rfl)).symm.trans h0_) (by decide), Q_X0_, fun h0_ => absurd ((hoff 8 (by kernel_rfl)).symm.trans h0_) (by decide), Q_X9_, fun h0_ => absurd ((hoff 17 (by kernel_rfl)).symm.trans h0_) (by decide), Q_X18_, fun h0_ => absurd ((hoff 26 (by kernel_rfl)).symm.trans h0_) (by decide)⟩
      refine steps_cons ?_ ?_
      · rintro b a w' ⟨e6_, n6_, c6_, e7_, n7_, c7_, e8_, n8_, c8_, m0_, m8_, m9_, m17_, m18_, m26_, ha, Q_HW, Q_HZ, Q_O0, Q_O1, Q_O2, Q_O3, Q_E6, Q_N6, Q_E7, Q_N7, Q_E8, Q_N8, Q_X0_, Q_X8_, Q_X9_, Q_X17_, Q_X18_, Q_X26_⟩ hb_ hon hoff
        refine ⟨_, rfl, fun K hK => ?_⟩
        have e5 : a.tmps[5]? = some (m0_) := by rw [ha]; exact putSel_on (e := (0, 5, m0_)) 0 rfl rfl (hon 0 (by kernel_rfl)) rfl
        rw [Q_X0_ (hon 0 (by kernel_rfl))] at e5
        have e12 : a.tmps[12]? = some (.slice A6 p5.length m6) := by rw [ha]; exact putSel_on (e := (7, 12, .slice A6 p5.length m6)) 5 rfl rfl (hon 7 (by kernel_rfl)) rfl
        replace ha := Aside0.mk ha
        have HW := Aside0.mk Q_HW
        have HZ := Aside0.mk Q_HZ
        have O0 := Aside0.mk (Q_O0 (hoff 28 (by kernel_rfl)))
        have E6 := Aside0.mk (Q_E6 (hon 0 (by kernel_rfl)) hb_)
        refine cat_step_at kCo flatKM w w' w.heap.size (by rfl) (.tmp 5) (.tmp 12) 27 44 (.agg #[(.string ⟨#[]⟩), (.int .i64 0), (.int .i64 0), (.int .i64 0), (.string ⟨#[]⟩)]) 56 rfl Tryd.underlying27 infoCo rfl (by decide) (by omega) (.slice (some ⟨e6_, 0, none⟩) 0 0) ([]) (p5) A6 p5.length m6 (eval_of e5) (eval_of e12) (E6.out) (Kd.C_below H6.out HW.out) HW.out HW.out.size (by first | omega | (simp; omega)) ?_
        intro v1 w1 ho hb hg hat
        rw [List.nil_append] at ho
        obtain ⟨A1, c1, rfl⟩ := Kd.R_slice ho
        refine hK.out _ _ ⟨e6_, A1, c1, e7_, n7_, c7_, e8_, n8_, c8_, m0_, (.slice A1 p5.length c1), m9_, m17_, m18_, m26_, (by rw [ha.out]; exact putSel_upk 6 hb_ rfl rfl rfl), hb, blk_grown HZ.out hg (R_ne E6.out HZ.out (by decide)), fun _ => blk_grown O0.out hg (R_ne E6.out O0.out (by decide)), fun h0_ _ => absurd ((hoff 28 (by kernel_rfl)).symm.trans h0_) (by decide), fun h0_ _ => absurd ((hoff 30 (by kernel_rfl)).symm.trans h0_) (by decide), fun h0_ => absurd ((hoff 32 (by kernel_rfl)).symm.trans h0_) (by decide), fun _ h1_ => absurd ((up_self b 8).symm.trans h1_) (by decide), fun _ => ho, fun h0_ h1_ => Kd.R_over (Q_E7 h0_ h1_) E6.out ov_7_6 hg, fun h0_ => absurd ((hoff 17 (by kernel_rfl)).symm.trans h0_) (by decide), fun h0_ h1_ => Kd.R_over (Q_E8 h0_ h1_) E6.out ov_8_6 hg, fun h0_ => absurd ((hoff 26 (by kernel_rfl)).symm.trans h0_) (by decide), Q_X0_, fun _ => rfl, Q_X9_, fun h0_ => absurd ((hoff 17 (by kernel_rfl)).symm.trans h0_) (by decide), Q_X18_, fun h0_ => absurd ((hoff 26 (by kernel_rfl)).symm.trans h0_) (by decide)⟩
      refine steps_cons ?_ ?_
      · rintro b a w' ⟨e6_, n6_, c6_, e7_, n7_, c7_, e8_, n8_, c8_, m0_, m8_, m9_, m17_, m18_, m26_, ha, Q_HW, Q_HZ, Q_O0, Q_O1, Q_O2, Q_O3, Q_E6, Q_N6, Q_E7, Q_N7, Q_E8, Q_N8, Q_X0_, Q_X8_, Q_X9_, Q_X17_, Q_X18_, Q_X26_⟩ hb_ hon hoff
        refine ⟨_, rfl, fun K hK => ?_⟩
        replace ha := Aside0.mk ha
        have HW := Aside0.mk Q_HW
        have HZ := Aside0.mk Q_HZ
        have O0 := Aside0.mk (Q_O0 (hoff 28 (by kernel_rfl)))
        refine value_ (w1 := w'.alloc (.cells #[] 59)) (v := .slice (some ⟨w'.heap.size, 0, none⟩) 0 0) (by rfl) rfl (by go_simp) ?_
        refine hK.out _ _ ⟨e6_, n6_, c6_, w'.heap.size, n7_, c7_, e8_, n8_, c8_, m0_, m8_, (.slice (some ⟨w'.heap.size, 0, none⟩) 0 0), m17_, m18_, m26_, (by rw [ha.out]; exact putSel_upk 7 hb_ rfl rfl rfl), below_alloc HW.out _, blk_alloc HZ.out _, fun _ => blk_alloc O0.out _, fun h0_ _ => absurd ((hoff 28 (by kernel_rfl)).symm.trans h0_) (by decide), fun h0_ _ => absurd ((hoff 30 (by kernel_rfl)).symm.trans h0_) (by decide), fun h0_ => absurd ((hoff 32 (by kernel_rfl)).symm.trans h0_) (by decide), fun h0_ h1_ => Kd.R_alloc (Q_E6 h0_ h1_) _, fun h0_ => Kd.R_alloc (Q_N6 h0_) _, fun _ _ => Kd.R_lower (own_eAt w') HW.out.size, fun h0_ => absurd ((hoff 17 (by kernel_rfl)).symm.trans h0_) (by decide), fun h0_ h1_ => Kd.R_alloc (Q_E8 h0_ h1_) _, fun h0_ => absurd ((hoff 26 (by kernel_rfl)).symm.trans h0_) (by decide), Q_X0_, Q_X8_, fun _ => rfl, fun h0_ => absurd ((hoff 17 (by kernel_rfl)).symm.trans h0_) (by decide), Q_X18_, fun h0_ => absurd ((hoff 26 (by kernel_rfl)).symm.trans h0_) (by decide)⟩
      refine steps_cons ?_ ?_
      · rintro b a w' ⟨e6_, n6_, c6_, e7_, n7_, c7_, e8_, n8_, c8_, m0_, m8_, m9_, m17_, m18_, m26_, ha, Q_HW, Q_HZ, Q_O0, Q_O1, Q_O2, Q_O3, Q_E6, Q_N6, Q_E7, Q_N7, Q_E8, Q_N8, Q_X0_, Q_X8_, Q_X9_, Q_X17_, Q_X18_, Q_X26_⟩ hb_ hon hoff
        refine ⟨_, rfl, fun K hK => ?_⟩
        have e15 : a.tmps[15]? = some (.pointer (some ⟨bx, 7, none⟩)) := by rw [ha]; exact (putSel_off rfl).trans rfl
        replace ha := Aside0.mk ha
        have HW := Aside0.mk Q_HW
        have HZ := Aside0.mk Q_HZ
        have O0 := Aside0.mk (Q_O0 (hoff 28 (by kernel_rfl)))
        have q7 := (blk_cell O0.out 7).trans (rfl : _ = some (Value.slice A7 zs.length m7))
        refine value_ (w1 := w') (v := .slice A7 zs.length m7) (by rfl) rfl ?_ ?_
        · go_simp
          (try simp only [i64_w])
          try rfl
        refine hK.out _ _ ⟨e6_, n6_, c6_, e7_, n7_, c7_, e8_, n8_, c8_, m0_, m8_, m9_, m17_, m18_, m26_, (by rw [ha.out]; exact putSel_upk 8 hb_ rfl rfl rfl), Q_HW, Q_HZ, Q_O0, fun h0_ _ => absurd ((hoff 28 (by kernel_rfl)).symm.trans h0_) (by decide), fun h0_ _ => absurd ((hoff 30 (by kernel_rfl)).symm.trans h0_) (by decide), fun h0_ => absurd ((hoff 32 (by kernel_rfl)).symm.trans h0_) (by decide), Q_E6, Q_N6, Q_E7, fun h0_ => absurd ((hoff 17 (by kernel_rfl)).symm.trans h0_) (by decide), Q_E8, fun h0_ => absurd ((hoff 26 (by kernel_rfl)).symm.trans h0_) (by decide), Q_X0_, Q_X8_, Q_X9_, fun h0_ => absurd ((hoff 17 (by kernel_rfl)).symm.trans h0_) (by decide), Q_X18_, fun h0_ => absurd ((hoff 26 (by kernel_rfl)).symm.trans h0_) (by decide)⟩
      refine steps_cons ?_ ?_
      · rintro b a w' ⟨e6_, n6_, c6_, e7_, n7_, c7_, e8_, n8_, c8_, m0_, m8_, m9_, m17_, m18_, m26_, ha, Q_HW, Q_HZ, Q_O0, Q_O1, Q_O2, Q_O3, Q_E6, Q_N6, Q_E7, Q_N7, Q_E8, Q_N8, Q_X0_, Q_X8_, Q_X9_, Q_X17_, Q_X18_, Q_X26_⟩ hb_ hon hoff
        refine ⟨_, rfl, fun K hK => ?_⟩
        have e17 : a.tmps[17]? = some (.pointer (some ⟨bx, 7, none⟩)) := by rw [ha]; exact (putSel_off rfl).trans rfl
        replace ha := Aside0.mk ha
        have HW := Aside0.mk Q_HW
        have HZ := Aside0.mk Q_HZ
        have O0 := Aside0.mk (Q_O0 (hoff 28 (by kernel_rfl)))
        have q7 := (blk_cell O0.out 7).trans (rfl : _ = some (Value.slice A7 zs.length m7))
        refine value_ (w1 := w') (v := .slice A7 zs.length m7) (by rfl) rfl ?_ ?_
        · go_simp
          (try simp only [i64_w])
          try rfl
        refine hK.out _ _ ⟨e6_, n6_, c6_, e7_, n7_, c7_, e8_, n8_, c8_, m0_, m8_, m9_, m17_, m18_, m26_, (by rw [ha.out]; exact putSel_upk 9 hb_ rfl rfl rfl), Q_HW, Q_HZ, Q_O0, fun h0_ _ => absurd ((hoff 28 (by kernel_rfl)).symm.trans h0_) (by decide), fun h0_ _ => absurd ((hoff 30 (by kernel_rfl)).symm.trans h0_) (by decide), fun h0_ => absurd ((hoff 32 (by kernel_rfl)).symm.trans h0_) (by decide), Q_E6, Q_N6, Q_E7, fun h0_ => absurd ((hoff 17 (by kernel_rfl)).symm.trans h0_) (by decide), Q_E8, fun h0_ => absurd ((hoff 26 (by kernel_rfl)).symm.trans h0_) (by decide), Q_X0_, Q_X8_, Q_X9_, fun h0_ => absurd ((hoff 17 (by kernel_rfl)).symm.trans h0_) (by decide), Q_X18_, fun h0_ => absurd ((hoff 26 (by kernel_rfl)).symm.trans h0_) (by decide)⟩
      refine steps_cons ?_ ?_
      · rintro b a w' ⟨e6_, n6_, c6_, e7_, n7_, c7_, e8_, n8_, c8_, m0_, m8_, m9_, m17_, m18_, m26_, ha, Q_HW, Q_HZ, Q_O0, Q_O1, Q_O2, Q_O3, Q_E6, Q_N6, Q_E7, Q_N7, Q_E8, Q_N8, Q_X0_, Q_X8_, Q_X9_, Q_X17_, Q_X18_, Q_X26_⟩ hb_ hon hoff
        refine ⟨_, rfl, fun K hK => ?_⟩
        have e18 : a.tmps[18]? = some (.slice A7 zs.length m7) := by rw [ha]; exact putSel_on (e := (13, 18, .slice A7 zs.length m7)) 9 rfl rfl (hon 13 (by kernel_rfl)) rfl
        replace ha := Aside0.mk ha
        have HW := Aside0.mk Q_HW
        have HZ := Aside0.mk Q_HZ
        have O0 := Aside0.mk (Q_O0 (hoff 28 (by kernel_rfl)))
        refine value_ (w1 := w') (v := .int .i64 (zs.length : Int)) (by rfl) rfl ?_ ?_
        · go_simp
          (try simp only [i64_w])
          try rfl
        refine hK.out _ _ ⟨e6_, n6_, c6_, e7_, n7_, c7_, e8_, n8_, c8_, m0_, m8_, m9_, m17_, m18_, m26_, (by rw [ha.out]; exact putSel_upk 10 hb_ rfl rfl rfl), Q_HW, Q_HZ, Q_O0, fun h0_ _ => absurd ((hoff 28 (by kernel_rfl)).symm.trans h0_) (by decide), fun h0_ _ => absurd ((hoff 30 (by kernel_rfl)).symm.trans h0_) (by decide), fun h0_ => absurd ((hoff 32 (by kernel_rfl)).symm.trans h0_) (by decide), Q_E6, Q_N6, Q_E7, fun h0_ => absurd ((hoff 17 (by kernel_rfl)).symm.trans h0_) (by decide), Q_E8, fun h0_ => absurd ((hoff 26 (by kernel_rfl)).symm.trans h0_) (by decide), Q_X0_, Q_X8_, Q_X9_, fun h0_ => absurd ((hoff 17 (by kernel_rfl)).symm.trans h0_) (by decide), Q_X18_, fun h0_ => absurd ((hoff 26 (by kernel_rfl)).symm.trans h0_) (by decide)⟩
      refine steps_cons ?_ ?_
      · rintro b a w' ⟨e6_, n6_, c6_, e7_, n7_, c7_, e8_, n8_, c8_, m0_, m8_, m9_, m17_, m18_, m26_, ha, Q_HW, Q_HZ, Q_O0, Q_O1, Q_O2, Q_O3, Q_E6, Q_N6, Q_E7, Q_N7, Q_E8, Q_N8, Q_X0_, Q_X8_, Q_X9_, Q_X17_, Q_X18_, Q_X26_⟩ hb_ hon hoff
        refine ⟨_, rfl, fun K hK => ?_⟩
        have e19 : a.tmps[19]? = some (.int .i64 (zs.length : Int)) := by rw [ha]; exact putSel_on (e := (14, 19, .int .i64 (zs.length : Int))) 10 rfl rfl (hon 14 (by kernel_rfl)) rfl
        replace ha := Aside0.mk ha
        have HW := Aside0.mk Q_HW
        have HZ := Aside0.mk Q_HZ
        have O0 := Aside0.mk (Q_O0 (hoff 28 (by kernel_rfl)))
        refine value_ (w1 := w') (v := .int .i64 (s5.length : Int)) (by rfl) rfl ?_ ?_
        · go_simp
          (try simp only [i64_w])
          try rfl
        refine hK.out _ _ ⟨e6_, n6_, c6_, e7_, n7_, c7_, e8_, n8_, c8_, m0_, m8_, m9_, m17_, m18_, m26_, (by rw [ha.out]; exact putSel_upk 11 hb_ rfl rfl rfl), Q_HW, Q_HZ, Q_O0, fun h0_ _ => absurd ((hoff 28 (by kernel_rfl)).symm.trans h0_) (by decide), fun h0_ _ => absurd ((hoff 30 (by kernel_rfl)).symm.trans h0_) (by decide), fun h0_ => absurd ((hoff 32 (by kernel_rfl)).symm.trans h0_) (by decide), Q_E6, Q_N6, Q_E7, fun h0_ => absurd ((hoff 17 (by kernel_rfl)).symm.trans h0_) (by decide), Q_E8, fun h0_ => absurd ((hoff 26 (by kernel_rfl)).symm.trans h0_) (by decide), Q_X0_, Q_X8_, Q_X9_, fun h0_ => absurd ((hoff 17 (by kernel_rfl)).symm.trans h0_) (by decide), Q_X18_, fun h0_ => absurd ((hoff 26 (by kernel_rfl)).symm.trans h0_) (by decide)⟩
      refine steps_cons ?_ ?_
      · rintro b a w' ⟨e6_, n6_, c6_, e7_, n7_, c7_, e8_, n8_, c8_, m0_, m8_, m9_, m17_, m18_, m26_, ha, Q_HW, Q_HZ, Q_O0, Q_O1, Q_O2, Q_O3, Q_E6, Q_N6, Q_E7, Q_N7, Q_E8, Q_N8, Q_X0_, Q_X8_, Q_X9_, Q_X17_, Q_X18_, Q_X26_⟩ hb_ hon hoff
        refine ⟨_, rfl, fun K hK => ?_⟩
        have e16 : a.tmps[16]? = some (.slice A7 zs.length m7) := by rw [ha]; exact putSel_on (e := (11, 16, .slice A7 zs.length m7)) 8 rfl rfl (hon 11 (by kernel_rfl)) rfl
        have e20 : a.tmps[20]? = some (.int .i64 (s5.length : Int)) := by rw [ha]; exact putSel_on (e := (15, 20, .int .i64 (s5.length : Int))) 11 rfl rfl (hon 15 (by kernel_rfl)) rfl
        replace ha := Aside0.mk ha
        have HW := Aside0.mk Q_HW
        have HZ := Aside0.mk Q_HZ
        have O0 := Aside0.mk (Q_O0 (hoff 28 (by kernel_rfl)))
        refine value_ (w1 := w') (v := .slice A7 s5.length m7) (by rfl) rfl ?_ ?_
        · go_simp
          (try simp only [i64_w])
          try rfl
        refine hK.out _ _ ⟨e6_, n6_, c6_, e7_, n7_, c7_, e8_, n8_, c8_, m0_, m8_, m9_, m17_, m18_, m26_, (by rw [ha.out]; exact putSel_upk 12 hb_ rfl rfl rfl), Q_HW, Q_HZ, Q_O0, fun h0_ _ => absurd ((hoff 28 (by kernel_rfl)).symm.trans h0_) (by decide), fun h0_ _ => absurd ((hoff 30 (by kernel_rfl)).symm.trans h0_) (by decide), fun h0_ => absurd ((hoff 32 (by kernel_rfl)).symm.trans h0_) (by decide), Q_E6, Q_N6, Q_E7, fun h0_ => absurd ((hoff 17 (by kernel_rfl)).symm.trans h0_) (by decide), Q_E8, fun h0_ => absurd ((hoff 26 (by kernel_rfl)).symm.trans h0_) (by decide), Q_X0_, Q_X8_, Q_X9_, fun h0_ => absurd ((hoff 17 (by kernel_rfl)).symm.trans h0_) (by decide), Q_X18_, fun h0_ => absurd ((hoff 26 (by kernel_rfl)).symm.trans h0_) (by decide)⟩
      refine steps_cons ?_ ?_
      · rintro b a w' ⟨e6_, n6_, c6_, e7_, n7_, c7_, e8_, n8_, c8_, m0_, m8_, m9_, m17_, m18_, m26_, ha, Q_HW, Q_HZ, Q_O0, Q_O1, Q_O2, Q_O3, Q_E6, Q_N6, Q_E7, Q_N7, Q_E8, Q_N8, Q_X0_, Q_X8_, Q_X9_, Q_X17_, Q_X18_, Q_X26_⟩ hb_ hon hoff
        refine ⟨_, rfl, fun K hK => ?_⟩
        have e14 : a.tmps[14]? = some (m9_) := by rw [ha]; exact putSel_on (e := (9, 14, m9_)) 7 rfl rfl (hon 9 (by kernel_rfl)) rfl
        rw [Q_X9_ (hon 9 (by kernel_rfl))] at e14
        have e21 : a.tmps[21]? = some (.slice A7 s5.length m7) := by rw [ha]; exact putSel_on (e := (16, 21, .slice A7 s5.length m7)) 12 rfl rfl (hon 16 (by kernel_rfl)) rfl
        replace ha := Aside0.mk ha
        have HW := Aside0.mk Q_HW
        have HZ := Aside0.mk Q_HZ
        have O0 := Aside0.mk (Q_O0 (hoff 28 (by kernel_rfl)))
        have N6 := Aside0.mk (Q_N6 (hon 8 (by kernel_rfl)))
        have E7 := Aside0.mk (Q_E7 (hon 9 (by kernel_rfl)) hb_)
        refine cat_step_at kAt flatKM w w' w.heap.size (by rfl) (.tmp 14) (.tmp 21) 28 59 (.agg #[(.string ⟨#[]⟩), (.bool false), (.int .i64 0), (.string ⟨#[]⟩)]) 48 rfl Tryd.underlying28 infoAt rfl (by decide) (by omega) (.slice (some ⟨e7_, 0, none⟩) 0 0) ([]) (s5) A7 s5.length m7 (eval_of e14) (eval_of e21) (E7.out) (Kd.C_below H7.out HW.out) HW.out HW.out.size (by first | omega | (simp; omega)) ?_
        intro v1 w1 ho hb hg hat
        rw [List.nil_append] at ho
        obtain ⟨A1, c1, rfl⟩ := Kd.R_slice ho
        refine hK.out _ _ ⟨e6_, n6_, c6_, e7_, A1, c1, e8_, n8_, c8_, m0_, m8_, m9_, (.slice A1 s5.length c1), m18_, m26_, (by rw [ha.out]; exact putSel_upk 13 hb_ rfl rfl rfl), hb, blk_grown HZ.out hg (R_ne E7.out HZ.out (by decide)), fun _ => blk_grown O0.out hg (R_ne E7.out O0.out (by decide)), fun h0_ _ => absurd ((hoff 28 (by kernel_rfl)).symm.trans h0_) (by decide), fun h0_ _ => absurd ((hoff 30 (by kernel_rfl)).symm.trans h0_) (by decide), fun h0_ => absurd ((hoff 32 (by kernel_rfl)).symm.trans h0_) (by decide), fun _ h1_ => absurd ((hon 8 (by kernel_rfl)).symm.trans h1_) (by decide), fun _ => Kd.R_over N6.out E7.out ov_6_7 hg, fun _ h1_ => absurd ((up_self b 17).symm.trans h1_) (by decide), fun _ => ho, fun h0_ h1_ => Kd.R_over (Q_E8 h0_ h1_) E7.out ov_8_7 hg, fun h0_ => absurd ((hoff 26 (by kernel_rfl)).symm.trans h0_) (by decide), Q_X0_, Q_X8_, Q_X9_, fun _ => rfl, Q_X18_, fun h0_ => absurd ((hoff 26 (by kernel_rfl)).symm.trans h0_) (by decide)⟩
      refine steps_cons ?_ ?_
      · rintro b a w' ⟨e6_, n6_, c6_, e7_, n7_, c7_, e8_, n8_, c8_, m0_, m8_, m9_, m17_, m18_, m26_, ha, Q_HW, Q_HZ, Q_O0, Q_O1, Q_O2, Q_O3, Q_E6, Q_N6, Q_E7, Q_N7, Q_E8, Q_N8, Q_X0_, Q_X8_, Q_X9_, Q_X17_, Q_X18_, Q_X26_⟩ hb_ hon hoff
        refine ⟨_, rfl, fun K hK => ?_⟩
        replace ha := Aside0.mk ha
        have HW := Aside0.mk Q_HW
        have HZ := Aside0.mk Q_HZ
        have O0 := Aside0.mk (Q_O0 (hoff 28 (by kernel_rfl)))
        refine value_ (w1 := w'.alloc (.cells #[] 5)) (v := .slice (some ⟨w'.heap.size, 0, none⟩) 0 0) (by rfl) rfl (by go_simp) ?_
        refine hK.out _ _ ⟨e6_, n6_, c6_, e7_, n7_, c7_, w'.heap.size, n8_, c8_, m0_, m8_, m9_, m17_, (.slice (some ⟨w'.heap.size, 0, none⟩) 0 0), m26_, (by rw [ha.out]; exact putSel_upk 14 hb_ rfl rfl rfl), below_alloc HW.out _, blk_alloc HZ.out _, fun _ => blk_alloc O0.out _, fun h0_ _ => absurd ((hoff 28 (by kernel_rfl)).symm.trans h0_) (by decide), fun h0_ _ => absurd ((hoff 30 (by kernel_rfl)).symm.trans h0_) (by decide), fun h0_ => absurd ((hoff 32 (by kernel_rfl)).symm.trans h0_) (by decide), fun h0_ h1_ => Kd.R_alloc (Q_E6 h0_ h1_) _, fun h0_ => Kd.R_alloc (Q_N6 h0_) _, fun h0_ h1_ => Kd.R_alloc (Q_E7 h0_ h1_) _, fun h0_ => Kd.R_alloc (Q_N7 h0_) _, fun _ _ => Kd.R_lower (own_eBy w') HW.out.size, fun h0_ => absurd ((hoff 26 (by kernel_rfl)).symm.trans h0_) (by decide), Q_X0_, Q_X8_, Q_X9_, Q_X17_, fun _ => rfl, fun h0_ => absurd ((hoff 26 (by kernel_rfl)).symm.trans h0_) (by decide)⟩
      refine steps_cons ?_ ?_
      · rintro b a w' ⟨e6_, n6_, c6_, e7_, n7_, c7_, e8_, n8_, c8_, m0_, m8_, m9_, m17_, m18_, m26_, ha, Q_HW, Q_HZ, Q_O0, Q_O1, Q_O2, Q_O3, Q_E6, Q_N6, Q_E7, Q_N7, Q_E8, Q_N8, Q_X0_, Q_X8_, Q_X9_, Q_X17_, Q_X18_, Q_X26_⟩ hb_ hon hoff
        refine ⟨_, rfl, fun K hK => ?_⟩
        have e24 : a.tmps[24]? = some (.pointer (some ⟨bx, 8, none⟩)) := by rw [ha]; exact (putSel_off rfl).trans rfl
        replace ha := Aside0.mk ha
        have HW := Aside0.mk Q_HW
        have HZ := Aside0.mk Q_HZ
        have O0 := Aside0.mk (Q_O0 (hoff 28 (by kernel_rfl)))
        have q8 := (blk_cell O0.out 8).trans (rfl : _ = some (Value.slice A8 zr.length m8))
        refine value_ (w1 := w') (v := .slice A8 zr.length m8) (by rfl) rfl ?_ ?_
        · go_simp
          (try simp only [i64_w])
          try rfl
        refine hK.out _ _ ⟨e6_, n6_, c6_, e7_, n7_, c7_, e8_, n8_, c8_, m0_, m8_, m9_, m17_, m18_, m26_, (by rw [ha.out]; exact putSel_upk 15 hb_ rfl rfl rfl), Q_HW, Q_HZ, Q_O0, fun h0_ _ => absurd ((hoff 28 (by kernel_rfl)).symm.trans h0_) (by decide), fun h0_ _ => absurd ((hoff 30 (by kernel_rfl)).symm.trans h0_) (by decide), fun h0_ => absurd ((hoff 32 (by kernel_rfl)).symm.trans h0_) (by decide), Q_E6, Q_N6, Q_E7, Q_N7, Q_E8, fun h0_ => absurd ((hoff 26 (by kernel_rfl)).symm.trans h0_) (by decide), Q_X0_, Q_X8_, Q_X9_, Q_X17_, Q_X18_, fun h0_ => absurd ((hoff 26 (by kernel_rfl)).symm.trans h0_) (by decide)⟩
      refine steps_cons ?_ ?_
      · rintro b a w' ⟨e6_, n6_, c6_, e7_, n7_, c7_, e8_, n8_, c8_, m0_, m8_, m9_, m17_, m18_, m26_, ha, Q_HW, Q_HZ, Q_O0, Q_O1, Q_O2, Q_O3, Q_E6, Q_N6, Q_E7, Q_N7, Q_E8, Q_N8, Q_X0_, Q_X8_, Q_X9_, Q_X17_, Q_X18_, Q_X26_⟩ hb_ hon hoff
        refine ⟨_, rfl, fun K hK => ?_⟩
        have e26 : a.tmps[26]? = some (.pointer (some ⟨bx, 8, none⟩)) := by rw [ha]; exact (putSel_off rfl).trans rfl
        replace ha := Aside0.mk ha
        have HW := Aside0.mk Q_HW
        have HZ := Aside0.mk Q_HZ
        have O0 := Aside0.mk (Q_O0 (hoff 28 (by kernel_rfl)))
        have q8 := (blk_cell O0.out 8).trans (rfl : _ = some (Value.slice A8 zr.length m8))
        refine value_ (w1 := w') (v := .slice A8 zr.length m8) (by rfl) rfl ?_ ?_
        · go_simp
          (try simp only [i64_w])
          try rfl
        refine hK.out _ _ ⟨e6_, n6_, c6_, e7_, n7_, c7_, e8_, n8_, c8_, m0_, m8_, m9_, m17_, m18_, m26_, (by rw [ha.out]; exact putSel_upk 16 hb_ rfl rfl rfl), Q_HW, Q_HZ, Q_O0, fun h0_ _ => absurd ((hoff 28 (by kernel_rfl)).symm.trans h0_) (by decide), fun h0_ _ => absurd ((hoff 30 (by kernel_rfl)).symm.trans h0_) (by decide), fun h0_ => absurd ((hoff 32 (by kernel_rfl)).symm.trans h0_) (by decide), Q_E6, Q_N6, Q_E7, Q_N7, Q_E8, fun h0_ => absurd ((hoff 26 (by kernel_rfl)).symm.trans h0_) (by decide), Q_X0_, Q_X8_, Q_X9_, Q_X17_, Q_X18_, fun h0_ => absurd ((hoff 26 (by kernel_rfl)).symm.trans h0_) (by decide)⟩
      refine steps_cons ?_ ?_
      · rintro b a w' ⟨e6_, n6_, c6_, e7_, n7_, c7_, e8_, n8_, c8_, m0_, m8_, m9_, m17_, m18_, m26_, ha, Q_HW, Q_HZ, Q_O0, Q_O1, Q_O2, Q_O3, Q_E6, Q_N6, Q_E7, Q_N7, Q_E8, Q_N8, Q_X0_, Q_X8_, Q_X9_, Q_X17_, Q_X18_, Q_X26_⟩ hb_ hon hoff
        refine ⟨_, rfl, fun K hK => ?_⟩
        have e27 : a.tmps[27]? = some (.slice A8 zr.length m8) := by rw [ha]; exact putSel_on (e := (22, 27, .slice A8 zr.length m8)) 16 rfl rfl (hon 22 (by kernel_rfl)) rfl
        replace ha := Aside0.mk ha
        have HW := Aside0.mk Q_HW
        have HZ := Aside0.mk Q_HZ
        have O0 := Aside0.mk (Q_O0 (hoff 28 (by kernel_rfl)))
        refine value_ (w1 := w') (v := .int .i64 (zr.length : Int)) (by rfl) rfl ?_ ?_
        · go_simp
          (try simp only [i64_w])
          try rfl
        refine hK.out _ _ ⟨e6_, n6_, c6_, e7_, n7_, c7_, e8_, n8_, c8_, m0_, m8_, m9_, m17_, m18_, m26_, (by rw [ha.out]; exact putSel_upk 17 hb_ rfl rfl rfl), Q_HW, Q_HZ, Q_O0, fun h0_ _ => absurd ((hoff 28 (by kernel_rfl)).symm.trans h0_) (by decide), fun h0_ _ => absurd ((hoff 30 (by kernel_rfl)).symm.trans h0_) (by decide), fun h0_ => absurd ((hoff 32 (by kernel_rfl)).symm.trans h0_) (by decide), Q_E6, Q_N6, Q_E7, Q_N7, Q_E8, fun h0_ => absurd ((hoff 26 (by kernel_rfl)).symm.trans h0_) (by decide), Q_X0_, Q_X8_, Q_X9_, Q_X17_, Q_X18_, fun h0_ => absurd ((hoff 26 (by kernel_rfl)).symm.trans h0_) (by decide)⟩
      refine steps_cons ?_ ?_
      · rintro b a w' ⟨e6_, n6_, c6_, e7_, n7_, c7_, e8_, n8_, c8_, m0_, m8_, m9_, m17_, m18_, m26_, ha, Q_HW, Q_HZ, Q_O0, Q_O1, Q_O2, Q_O3, Q_E6, Q_N6, Q_E7, Q_N7, Q_E8, Q_N8, Q_X0_, Q_X8_, Q_X9_, Q_X17_, Q_X18_, Q_X26_⟩ hb_ hon hoff
        refine ⟨_, rfl, fun K hK => ?_⟩
        have e28 : a.tmps[28]? = some (.int .i64 (zr.length : Int)) := by rw [ha]; exact putSel_on (e := (23, 28, .int .i64 (zr.length : Int))) 17 rfl rfl (hon 23 (by kernel_rfl)) rfl
        replace ha := Aside0.mk ha
        have HW := Aside0.mk Q_HW
        have HZ := Aside0.mk Q_HZ
        have O0 := Aside0.mk (Q_O0 (hoff 28 (by kernel_rfl)))
        refine value_ (w1 := w') (v := .int .i64 (r20.length : Int)) (by rfl) rfl ?_ ?_
        · go_simp
          (try simp only [i64_w])
          try rfl
        refine hK.out _ _ ⟨e6_, n6_, c6_, e7_, n7_, c7_, e8_, n8_, c8_, m0_, m8_, m9_, m17_, m18_, m26_, (by rw [ha.out]; exact putSel_upk 18 hb_ rfl rfl rfl), Q_HW, Q_HZ, Q_O0, fun h0_ _ => absurd ((hoff 28 (by kernel_rfl)).symm.trans h0_) (by decide), fun h0_ _ => absurd ((hoff 30 (by kernel_rfl)).symm.trans h0_) (by decide), fun h0_ => absurd ((hoff 32 (by kernel_rfl)).symm.trans h0_) (by decide), Q_E6, Q_N6, Q_E7, Q_N7, Q_E8, fun h0_ => absurd ((hoff 26 (by kernel_rfl)).symm.trans h0_) (by decide), Q_X0_, Q_X8_, Q_X9_, Q_X17_, Q_X18_, fun h0_ => absurd ((hoff 26 (by kernel_rfl)).symm.trans h0_) (by decide)⟩
      refine steps_cons ?_ ?_
      · rintro b a w' ⟨e6_, n6_, c6_, e7_, n7_, c7_, e8_, n8_, c8_, m0_, m8_, m9_, m17_, m18_, m26_, ha, Q_HW, Q_HZ, Q_O0, Q_O1, Q_O2, Q_O3, Q_E6, Q_N6, Q_E7, Q_N7, Q_E8, Q_N8, Q_X0_, Q_X8_, Q_X9_, Q_X17_, Q_X18_, Q_X26_⟩ hb_ hon hoff
        refine ⟨_, rfl, fun K hK => ?_⟩
        have e25 : a.tmps[25]? = some (.slice A8 zr.length m8) := by rw [ha]; exact putSel_on (e := (20, 25, .slice A8 zr.length m8)) 15 rfl rfl (hon 20 (by kernel_rfl)) rfl
        have e29 : a.tmps[29]? = some (.int .i64 (r20.length : Int)) := by rw [ha]; exact putSel_on (e := (24, 29, .int .i64 (r20.length : Int))) 18 rfl rfl (hon 24 (by kernel_rfl)) rfl
        replace ha := Aside0.mk ha
        have HW := Aside0.mk Q_HW
        have HZ := Aside0.mk Q_HZ
        have O0 := Aside0.mk (Q_O0 (hoff 28 (by kernel_rfl)))
        refine value_ (w1 := w') (v := .slice A8 r20.length m8) (by rfl) rfl ?_ ?_
        · go_simp
          (try simp only [i64_w])
          try rfl
        refine hK.out _ _ ⟨e6_, n6_, c6_, e7_, n7_, c7_, e8_, n8_, c8_, m0_, m8_, m9_, m17_, m18_, m26_, (by rw [ha.out]; exact putSel_upk 19 hb_ rfl rfl rfl), Q_HW, Q_HZ, Q_O0, fun h0_ _ => absurd ((hoff 28 (by kernel_rfl)).symm.trans h0_) (by decide), fun h0_ _ => absurd ((hoff 30 (by kernel_rfl)).symm.trans h0_) (by decide), fun h0_ => absurd ((hoff 32 (by kernel_rfl)).symm.trans h0_) (by decide), Q_E6, Q_N6, Q_E7, Q_N7, Q_E8, fun h0_ => absurd ((hoff 26 (by kernel_rfl)).symm.trans h0_) (by decide), Q_X0_, Q_X8_, Q_X9_, Q_X17_, Q_X18_, fun h0_ => absurd ((hoff 26 (by kernel_rfl)).symm.trans h0_) (by decide)⟩
      refine steps_cons ?_ ?_
      · rintro b a w' ⟨e6_, n6_, c6_, e7_, n7_, c7_, e8_, n8_, c8_, m0_, m8_, m9_, m17_, m18_, m26_, ha, Q_HW, Q_HZ, Q_O0, Q_O1, Q_O2, Q_O3, Q_E6, Q_N6, Q_E7, Q_N7, Q_E8, Q_N8, Q_X0_, Q_X8_, Q_X9_, Q_X17_, Q_X18_, Q_X26_⟩ hb_ hon hoff
        refine ⟨_, rfl, fun K hK => ?_⟩
        have e23 : a.tmps[23]? = some (m18_) := by rw [ha]; exact putSel_on (e := (18, 23, m18_)) 14 rfl rfl (hon 18 (by kernel_rfl)) rfl
        rw [Q_X18_ (hon 18 (by kernel_rfl))] at e23
        have e30 : a.tmps[30]? = some (.slice A8 r20.length m8) := by rw [ha]; exact putSel_on (e := (25, 30, .slice A8 r20.length m8)) 19 rfl rfl (hon 25 (by kernel_rfl)) rfl
        replace ha := Aside0.mk ha
        have HW := Aside0.mk Q_HW
        have HZ := Aside0.mk Q_HZ
        have O0 := Aside0.mk (Q_O0 (hoff 28 (by kernel_rfl)))
        have N6 := Aside0.mk (Q_N6 (hon 8 (by kernel_rfl)))
        have N7 := Aside0.mk (Q_N7 (hon 17 (by kernel_rfl)))
        have E8 := Aside0.mk (Q_E8 (hon 18 (by kernel_rfl)) hb_)
        refine cat_step_at (Kd.int .u8) intKM w w' w.heap.size (by rfl) (.tmp 23) (.tmp 30) 22 5 (.int .u8 0) 1 rfl Tryd.underlying22 infoU8 rfl (by decide) (by omega) (.slice (some ⟨e8_, 0, none⟩) 0 0) ([]) (r20) A8 r20.length m8 (eval_of e23) (eval_of e30) (E8.out) (Kd.C_below H8.out HW.out) HW.out HW.out.size (by first | omega | (simp; omega)) ?_
        intro v1 w1 ho hb hg hat
        rw [List.nil_append] at ho
        obtain ⟨A1, c1, rfl⟩ := Kd.R_slice ho
        refine hK.out _ _ ⟨e6_, n6_, c6_, e7_, n7_, c7_, e8_, A1, c1, m0_, m8_, m9_, m17_, m18_, (.slice A1 r20.length c1), (by rw [ha.out]; exact putSel_upk 20 hb_ rfl rfl rfl), hb, blk_grown HZ.out hg (R_ne E8.out HZ.out (by decide)), fun _ => blk_grown O0.out hg (R_ne E8.out O0.out (by decide)), fun h0_ _ => absurd ((hoff 28 (by kernel_rfl)).symm.trans h0_) (by decide), fun h0_ _ => absurd ((hoff 30 (by kernel_rfl)).symm.trans h0_) (by decide), fun h0_ => absurd ((hoff 32 (by kernel_rfl)).symm.trans h0_) (by decide), fun _ h1_ => absurd ((hon 8 (by kernel_rfl)).symm.trans h1_) (by decide), fun _ => Kd.R_over N6.out E8.out ov_6_8 hg, fun _ h1_ => absurd ((hon 17 (by kernel_rfl)).symm.trans h1_) (by decide), fun _ => Kd.R_over N7.out E8.out ov_7_8 hg, fun _ h1_ => absurd ((up_self b 26).symm.trans h1_) (by decide), fun _ => ho, Q_X0_, Q_X8_, Q_X9_, Q_X17_, Q_X18_, fun _ => rfl⟩
      refine steps_cons ?_ ?_
      · rintro b a w' ⟨e6_, n6_, c6_, e7_, n7_, c7_, e8_, n8_, c8_, m0_, m8_, m9_, m17_, m18_, m26_, ha, Q_HW, Q_HZ, Q_O0, Q_O1, Q_O2, Q_O3, Q_E6, Q_N6, Q_E7, Q_N7, Q_E8, Q_N8, Q_X0_, Q_X8_, Q_X9_, Q_X17_, Q_X18_, Q_X26_⟩ hb_ hon hoff
        refine ⟨_, rfl, fun K hK => ?_⟩
        have e1 : a.tmps[1]? = some (.pointer (some ⟨bx, 0, none⟩)) := by rw [ha]; exact (putSel_off rfl).trans rfl
        replace ha := Aside0.mk ha
        have HW := Aside0.mk Q_HW
        have HZ := Aside0.mk Q_HZ
        have O0 := Aside0.mk (Q_O0 (hoff 28 (by kernel_rfl)))
        have N6 := Aside0.mk (Q_N6 (hon 8 (by kernel_rfl)))
        refine value_ (w1 := w') (v := .pointer (some ⟨bx, 6, none⟩)) (by rfl) rfl ?_ ?_
        · go_simp
          (try simp only [i64_w])
          try rfl
        refine hK.out _ _ ⟨e6_, n6_, c6_, e7_, n7_, c7_, e8_, n8_, c8_, m0_, m8_, m9_, m17_, m18_, m26_, (by rw [ha.out]; exact putSel_upk 21 hb_ rfl rfl rfl), Q_HW, Q_HZ, Q_O0, fun h0_ _ => absurd ((hoff 28 (by kernel_rfl)).symm.trans h0_) (by decide), fun h0_ _ => absurd ((hoff 30 (by kernel_rfl)).symm.trans h0_) (by decide), fun h0_ => absurd ((hoff 32 (by kernel_rfl)).symm.trans h0_) (by decide), fun _ h1_ => absurd ((hon 8 (by kernel_rfl)).symm.trans h1_) (by decide), Q_N6, Q_E7, Q_N7, Q_E8, Q_N8, Q_X0_, Q_X8_, Q_X9_, Q_X17_, Q_X18_, Q_X26_⟩
      refine steps_cons ?_ ?_
      · rintro b a w' ⟨e6_, n6_, c6_, e7_, n7_, c7_, e8_, n8_, c8_, m0_, m8_, m9_, m17_, m18_, m26_, ha, Q_HW, Q_HZ, Q_O0, Q_O1, Q_O2, Q_O3, Q_E6, Q_N6, Q_E7, Q_N7, Q_E8, Q_N8, Q_X0_, Q_X8_, Q_X9_, Q_X17_, Q_X18_, Q_X26_⟩ hb_ hon hoff
        refine ⟨_, rfl, fun K hK => ?_⟩
        have e32 : a.tmps[32]? = some (.pointer (some ⟨bx, 6, none⟩)) := by rw [ha]; exact putSel_on (e := (27, 32, .pointer (some ⟨bx, 6, none⟩))) 21 rfl rfl (hon 27 (by kernel_rfl)) rfl
        have e13 : a.tmps[13]? = some (m8_) := by rw [ha]; exact putSel_on (e := (8, 13, m8_)) 6 rfl rfl (hon 8 (by kernel_rfl)) rfl
        rw [Q_X8_ (hon 8 (by kernel_rfl))] at e13
        replace ha := Aside0.mk ha
        have HW := Aside0.mk Q_HW
        have HZ := Aside0.mk Q_HZ
        have O0 := Aside0.mk (Q_O0 hb_)
        have N6 := Aside0.mk (Q_N6 (hon 8 (by kernel_rfl)))
        have N7 := Aside0.mk (Q_N7 (hon 17 (by kernel_rfl)))
        have N8 := Aside0.mk (Q_N8 (hon 26 (by kernel_rfl)))
        have z0 := (blk_cell O0.out 6).trans (rfl : _ = some (Value.slice A6 zp.length m6))
        have f0 := blk_frozen O0.out 6
        have hl := blk_lt O0.out
        refine skip_ (w1 := w'.setCell ⟨bx, 6, none⟩ (.slice n6_ p5.length c6_)) (by rfl) rfl (by go_simp) ?_
        refine hK.out _ _ ⟨e6_, n6_, c6_, e7_, n7_, c7_, e8_, n8_, c8_, m0_, m8_, m9_, m17_, m18_, m26_, (by rw [ha.out]; exact putSel_none (v := undef) rfl), below_set HW.out HGX.out, blk_far (p := ⟨bx, 6, none⟩) HZ.out HNZX.out _, fun h0_ => absurd ((up_self b 28).symm.trans h0_) (by decide), fun _ _ => blk_put O0.out 6 (.slice n6_ p5.length c6_) rfl, fun h0_ _ => absurd ((hoff 30 (by kernel_rfl)).symm.trans h0_) (by decide), fun h0_ => absurd ((hoff 32 (by kernel_rfl)).symm.trans h0_) (by decide), fun _ h1_ => absurd ((hon 8 (by kernel_rfl)).symm.trans h1_) (by decide), fun _ => R_block N6.out rfl O0.out (by decide) ((KeepBut.refl _ bx none).set_ 6 _), fun _ h1_ => absurd ((hon 17 (by kernel_rfl)).symm.trans h1_) (by decide), fun _ => R_block N7.out rfl O0.out (by decide) ((KeepBut.refl _ bx none).set_ 6 _), fun _ h1_ => absurd ((hon 26 (by kernel_rfl)).symm.trans h1_) (by decide), fun _ => R_block N8.out rfl O0.out (by decide) ((KeepBut.refl _ bx none).set_ 6 _), Q_X0_, Q_X8_, Q_X9_, Q_X17_, Q_X18_, Q_X26_⟩
      refine steps_cons ?_ ?_
      · rintro b a w' ⟨e6_, n6_, c6_, e7_, n7_, c7_, e8_, n8_, c8_, m0_, m8_, m9_, m17_, m18_, m26_, ha, Q_HW, Q_HZ, Q_O0, Q_O1, Q_O2, Q_O3, Q_E6, Q_N6, Q_E7, Q_N7, Q_E8, Q_N8, Q_X0_, Q_X8_, Q_X9_, Q_X17_, Q_X18_, Q_X26_⟩ hb_ hon hoff
        refine ⟨_, rfl, fun K hK => ?_⟩
        have e1 : a.tmps[1]? = some (.pointer (some ⟨bx, 0, none⟩)) := by rw [ha]; exact (putSel_off rfl).trans rfl
        replace ha := Aside0.mk ha
        have HW := Aside0.mk Q_HW
        have HZ := Aside0.mk Q_HZ
        have O1 := Aside0.mk (Q_O1 (hon 28 (by kernel_rfl)) (hoff 30 (by kernel_rfl)))
        have N6 := Aside0.mk (Q_N6 (hon 8 (by kernel_rfl)))
        have N7 := Aside0.mk (Q_N7 (hon 17 (by kernel_rfl)))
        have N8 := Aside0.mk (Q_N8 (hon 26 (by kernel_rfl)))
        refine value_ (w1 := w') (v := .pointer (some ⟨bx, 7, none⟩)) (by rfl) rfl ?_ ?_
        · go_simp
          (try simp only [i64_w])
          try rfl
        refine hK.out _ _ ⟨e6_, n6_, c6_, e7_, n7_, c7_, e8_, n8_, c8_, m0_, m8_, m9_, m17_, m18_, m26_, (by rw [ha.out]; exact putSel_upk 22 hb_ rfl rfl rfl), Q_HW, Q_HZ, fun h0_ => absurd ((hon 28 (by kernel_rfl)).symm.trans h0_) (by decide), Q_O1, fun h0_ _ => absurd ((hoff 30 (by kernel_rfl)).symm.trans h0_) (by decide), fun h0_ => absurd ((hoff 32 (by kernel_rfl)).symm.trans h0_) (by decide), fun _ h1_ => absurd ((hon 8 (by kernel_rfl)).symm.trans h1_) (by decide), Q_N6, fun _ h1_ => absurd ((hon 17 (by kernel_rfl)).symm.trans h1_) (by decide), Q_N7, fun _ h1_ => absurd ((hon 26 (by kernel_rfl)).symm.trans h1_) (by decide), Q_N8, Q_X0_, Q_X8_, Q_X9_, Q_X17_, Q_X18_, Q_X26_⟩
      refine steps_cons ?_ ?_
      · rintro b a w' ⟨e6_, n6_, c6_, e7_, n7_, c7_, e8_, n8_, c8_, m0_, m8_, m9_, m17_, m18_, m26_, ha, Q_HW, Q_HZ, Q_O0, Q_O1, Q_O2, Q_O3, Q_E6, Q_N6, Q_E7, Q_N7, Q_E8, Q_N8, Q_X0_, Q_X8_, Q_X9_, Q_X17_, Q_X18_, Q_X26_⟩ hb_ hon hoff
        refine ⟨_, rfl, fun K hK => ?_⟩
        have e33 : a.tmps[33]? = some (.pointer (some ⟨bx, 7, none⟩)) := by rw [ha]; exact putSel_on (e := (29, 33, .pointer (some ⟨bx, 7, none⟩))) 22 rfl rfl (hon 29 (by kernel_rfl)) rfl
        have e22 : a.tmps[22]? = some (m17_) := by rw [ha]; exact putSel_on (e := (17, 22, m17_)) 13 rfl rfl (hon 17 (by kernel_rfl)) rfl
        rw [Q_X17_ (hon 17 (by kernel_rfl))] at e22
        replace ha := Aside0.mk ha
        have HW := Aside0.mk Q_HW
        have HZ := Aside0.mk Q_HZ
        have O1 := Aside0.mk (Q_O1 (hon 28 (by kernel_rfl)) hb_)
        have N6 := Aside0.mk (Q_N6 (hon 8 (by kernel_rfl)))
        have N7 := Aside0.mk (Q_N7 (hon 17 (by kernel_rfl)))
        have N8 := Aside0.mk (Q_N8 (hon 26 (by kernel_rfl)))
        have z0 := (blk_cell O1.out 7).trans (rfl : _ = some (Value.slice A7 zs.length m7))
        have f0 := blk_frozen O1.out 7
        have hl := blk_lt O1.out
        refine skip_ (w1 := w'.setCell ⟨bx, 7, none⟩ (.slice n7_ s5.length c7_)) (by rfl) rfl (by go_simp) ?_
        refine hK.out _ _ ⟨e6_, n6_, c6_, e7_, n7_, c7_, e8_, n8_, c8_, m0_, m8_, m9_, m17_, m18_, m26_, (by rw [ha.out]; exact putSel_none (v := undef) rfl), below_set HW.out HGX.out, blk_far (p := ⟨bx, 7, none⟩) HZ.out HNZX.out _, fun h0_ => absurd ((hon 28 (by kernel_rfl)).symm.trans h0_) (by decide), fun _ h1_ => absurd ((up_self b 30).symm.trans h1_) (by decide), fun _ _ => blk_put O1.out 7 (.slice n7_ s5.length c7_) rfl, fun h0_ => absurd ((hoff 32 (by kernel_rfl)).symm.trans h0_) (by decide), fun _ h1_ => absurd ((hon 8 (by kernel_rfl)).symm.trans h1_) (by decide), fun _ => R_block N6.out rfl O1.out (by decide) ((KeepBut.refl _ bx none).set_ 7 _), fun _ h1_ => absurd ((hon 17 (by kernel_rfl)).symm.trans h1_) (by decide), fun _ => R_block N7.out rfl O1.out (by decide) ((KeepBut.refl _ bx none).set_ 7 _), fun _ h1_ => absurd ((hon 26 (by kernel_rfl)).symm.trans h1_) (by decide), fun _ => R_block N8.out rfl O1.out (by decide) ((KeepBut.refl _ bx none).set_ 7 _), Q_X0_, Q_X8_, Q_X9_, Q_X17_, Q_X18_, Q_X26_⟩
      refine steps_cons ?_ ?_
      · rintro b a w' ⟨e6_, n6_, c6_, e7_, n7_, c7_, e8_, n8_, c8_, m0_, m8_, m9_, m17_, m18_, m26_, ha, Q_HW, Q_HZ, Q_O0, Q_O1, Q_O2, Q_O3, Q_E6, Q_N6, Q_E7, Q_N7, Q_E8, Q_N8, Q_X0_, Q_X8_, Q_X9_, Q_X17_, Q_X18_, Q_X26_⟩ hb_ hon hoff
        refine ⟨_, rfl, fun K hK => ?_⟩
        have e1 : a.tmps[1]? = some (.pointer (some ⟨bx, 0, none⟩)) := by rw [ha]; exact (putSel_off rfl).trans rfl
        replace ha := Aside0.mk ha
        have HW := Aside0.mk Q_HW
        have HZ := Aside0.mk Q_HZ
        have O2 := Aside0.mk (Q_O2 (hon 30 (by kernel_rfl)) (hoff 32 (by kernel_rfl)))
        have N6 := Aside0.mk (Q_N6 (hon 8 (by kernel_rfl)))
        have N7 := Aside0.mk (Q_N7 (hon 17 (by kernel_rfl)))
        have N8 := Aside0.mk (Q_N8 (hon 26 (by kernel_rfl)))
        refine value_ (w1 := w') (v := .pointer (some ⟨bx, 8, none⟩)) (by rfl) rfl ?_ ?_
        · go_simp
          (try simp only [i64_w])
          try rfl
        refine hK.out _ _ ⟨e6_, n6_, c6_, e7_, n7_, c7_, e8_, n8_, c8_, m0_, m8_, m9_, m17_, m18_, m26_, (by rw [ha.out]; exact putSel_upk 23 hb_ rfl rfl rfl), Q_HW, Q_HZ, fun h0_ => absurd ((hon 28 (by kernel_rfl)).symm.trans h0_) (by decide), fun _ h1_ => absurd ((hon 30 (by kernel_rfl)).symm.trans h1_) (by decide), Q_O2, fun h0_ => absurd ((hoff 32 (by kernel_rfl)).symm.trans h0_) (by decide), fun _ h1_ => absurd ((hon 8 (by kernel_rfl)).symm.trans h1_) (by decide), Q_N6, fun _ h1_ => absurd ((hon 17 (by kernel_rfl)).symm.trans h1_) (by decide), Q_N7, fun _ h1_ => absurd ((hon 26 (by kernel_rfl)).symm.trans h1_) (by decide), Q_N8, Q_X0_, Q_X8_, Q_X9_, Q_X17_, Q_X18_, Q_X26_⟩
      refine steps_cons ?_ ?_
      · rintro b a w' ⟨e6_, n6_, c6_, e7_, n7_, c7_, e8_, n8_, c8_, m0_, m8_, m9_, m17_, m18_, m26_, ha, Q_HW, Q_HZ, Q_O0, Q_O1, Q_O2, Q_O3, Q_E6, Q_N6, Q_E7, Q_N7, Q_E8, Q_N8, Q_X0_, Q_X8_, Q_X9_, Q_X17_, Q_X18_, Q_X26_⟩ hb_ hon hoff
        refine ⟨_, rfl, fun K hK => ?_⟩
        have e34 : a.tmps[34]? = some (.pointer (some ⟨bx, 8, none⟩)) := by rw [ha]; exact putSel_on (e := (31, 34, .pointer (some ⟨bx, 8, none⟩))) 23 rfl rfl (hon 31 (by kernel_rfl)) rfl
        have e31 : a.tmps[31]? = some (m26_) := by rw [ha]; exact putSel_on (e := (26, 31, m26_)) 20 rfl rfl (hon 26 (by kernel_rfl)) rfl
        rw [Q_X26_ (hon 26 (by kernel_rfl))] at e31
        replace ha := Aside0.mk ha
        have HW := Aside0.mk Q_HW
        have HZ := Aside0.mk Q_HZ
        have O2 := Aside0.mk (Q_O2 (hon 30 (by kernel_rfl)) hb_)
        have N6 := Aside0.mk (Q_N6 (hon 8 (by kernel_rfl)))
        have N7 := Aside0.mk (Q_N7 (hon 17 (by kernel_rfl)))
        have N8 := Aside0.mk (Q_N8 (hon 26 (by kernel_rfl)))
        have z0 := (blk_cell O2.out 8).trans (rfl : _ = some (Value.slice A8 zr.length m8))
        have f0 := blk_frozen O2.out 8
        have hl := blk_lt O2.out
        refine skip_ (w1 := w'.setCell ⟨bx, 8, none⟩ (.slice n8_ r20.length c8_)) (by rfl) rfl (by go_simp) ?_
        refine hK.out _ _ ⟨e6_, n6_, c6_, e7_, n7_, c7_, e8_, n8_, c8_, m0_, m8_, m9_, m17_, m18_, m26_, (by rw [ha.out]; exact putSel_none (v := undef) rfl), below_set HW.out HGX.out, blk_far (p := ⟨bx, 8, none⟩) HZ.out HNZX.out _, fun h0_ => absurd ((hon 28 (by kernel_rfl)).symm.trans h0_) (by decide), fun _ h1_ => absurd ((hon 30 (by kernel_rfl)).symm.trans h1_) (by decide), fun _ h1_ => absurd ((up_self b 32).symm.trans h1_) (by decide), fun _ => blk_put O2.out 8 (.slice n8_ r20.length c8_) rfl, fun _ h1_ => absurd ((hon 8 (by kernel_rfl)).symm.trans h1_) (by decide), fun _ => R_block N6.out rfl O2.out (by decide) ((KeepBut.refl _ bx none).set_ 8 _), fun _ h1_ => absurd ((hon 17 (by kernel_rfl)).symm.trans h1_) (by decide), fun _ => R_block N7.out rfl O2.out (by decide) ((KeepBut.refl _ bx none).set_ 8 _), fun _ h1_ => absurd ((hon 26 (by kernel_rfl)).symm.trans h1_) (by decide), fun _ => R_block N8.out rfl O2.out (by decide) ((KeepBut.refl _ bx none).set_ 8 _), Q_X0_, Q_X8_, Q_X9_, Q_X17_, Q_X18_, Q_X26_⟩
      exact steps_nil
    · rintro b a w' hall ⟨e6_, n6_, c6_, e7_, n7_, c7_, e8_, n8_, c8_, m0_, m8_, m9_, m17_, m18_, m26_, ha, Q_HW, Q_HZ, Q_O0, Q_O1, Q_O2, Q_O3, Q_E6, Q_N6, Q_E7, Q_N7, Q_E8, Q_N8, Q_X0_, Q_X8_, Q_X9_, Q_X17_, Q_X18_, Q_X26_⟩
      clear HW HZ O0
      have hb0_ := hall 0 (by kernel_rfl)
      have hb2_ := hall 2 (by kernel_rfl)
      have hb4_ := hall 4 (by kernel_rfl)
      have hb5_ := hall 5 (by kernel_rfl)
      have hb6_ := hall 6 (by kernel_rfl)
      have hb7_ := hall 7 (by kernel_rfl)
      have hb8_ := hall 8 (by kernel_rfl)
      have hb9_ := hall 9 (by kernel_rfl)
      have hb11_ := hall 11 (by kernel_rfl)
      have hb13_ := hall 13 (by kernel_rfl)
      have hb14_ := hall 14 (by kernel_rfl)
      have hb15_ := hall 15 (by kernel_rfl)
      have hb16_ := hall 16 (by kernel_rfl)
      have hb17_ := hall 17 (by kernel_rfl)
      have hb18_ := hall 18 (by kernel_rfl)
      have hb20_ := hall 20 (by kernel_rfl)
      have hb22_ := hall 22 (by kernel_rfl)
      have hb23_ := hall 23 (by kernel_rfl)
      have hb24_ := hall 24 (by kernel_rfl)
      have hb25_ := hall 25 (by kernel_rfl)
      have hb26_ := hall 26 (by kernel_rfl)
      have hb27_ := hall 27 (by kernel_rfl)
      have hb28_ := hall 28 (by kernel_rfl)
      have hb29_ := hall 29 (by kernel_rfl)
      have hb30_ := hall 30 (by kernel_rfl)
      have hb31_ := hall 31 (by kernel_rfl)
      have hb32_ := hall 32 (by kernel_rfl)
      subst ha
      obtain rfl := Q_X0_ hb0_
      obtain rfl := Q_X8_ hb8_
      obtain rfl := Q_X9_ hb9_
      obtain rfl := Q_X17_ hb17_
      obtain rfl := Q_X18_ hb18_
      obtain rfl := Q_X26_ hb26_
      simp only [putSel, hb0_, hb2_, hb4_, hb5_, hb6_, hb7_, hb8_, hb9_, hb11_, hb13_, hb14_, hb15_, hb16_, hb17_, hb18_, hb20_, hb22_, hb23_, hb24_, hb25_, hb26_, hb27_, hb28_, hb29_, hb30_, hb31_, hb32_, if_true, Act.put, List.setIfInBounds_toArray, List.set_cons_zero, List.set_cons_succ]
      have HW := Aside0.mk Q_HW
      clear Q_HW
      have HZ := Aside0.mk Q_HZ
      clear Q_HZ
      clear Q_O0
      clear Q_O1
      clear Q_O2
      have O3 := Aside0.mk (Q_O3 hb32_)
      clear Q_O3
      clear Q_E6
      have N6 := Aside0.mk (Q_N6 hb8_)
      clear Q_N6
      clear Q_E7
      have N7 := Aside0.mk (Q_N7 hb17_)
      clear Q_N7
      clear Q_E8
      have N8 := Aside0.mk (Q_N8 hb26_)
      clear Q_N8
      clear hall hb0_ hb2_ hb4_ hb5_ hb6_ hb7_ hb8_ hb9_ hb11_ hb13_ hb14_ hb15_ hb16_ hb17_ hb18_ hb20_ hb22_ hb23_ hb24_ hb25_ hb26_ hb27_ hb28_ hb29_ hb30_ hb31_ hb32_
      go_wp2
      go_meet
      case rel => exact ⟨n6_, c6_, n7_, c7_, n8_, c8_, HW, HZ, O3, N6, N7, N8⟩
  case rest =>
    obtain ⟨n6, c6, n7, c7, n8, c8, HW1, HZ1, HX1, R6, R7, R8⟩ := hcut
    clear HW HZ O0 H6 H7 H8 g6 g7 g8 i6 i7 i8
    have q6 := (blk_cell HX1.out 6).trans (rfl : _ = some (Value.slice n6 p5.length c6))
    go_upto_block 0 with fail
    clear q6
    go_cut [3] (fun _ wx => ∃ n6 c6, Aside0 (Below w.heap.size w wx) ∧ Aside0 (wx.heap[bz]? = some (.cells #[.int .i64 0, .int .i64 0, .int .i64 0, .int .i64 0, .int .i64 0, .int .i64 0, .slice none 0 0, .slice none 0 0, .slice none 0 0] 30 (0, 0))) ∧ Aside0 (wx.heap[bx]? = some (.cells #[.int .i64 zk, .int .i64 zc, .int .i64 zq, .int .i64 zh, .int .i64 za, .int .i64 zt, .slice n6 p5.length c6, .slice n7 s5.length c7, .slice n8 r20.length c8] 30 (0, 0))) ∧ Aside0 (Kd.R kCo 44 wx w.heap.size (fun _ => True) (.slice n6 p5.length c6) (p5.map cutC)) ∧ Aside0 (Kd.R kAt 59 wx w.heap.size (fun _ => True) (.slice n7 s5.length c7) s5) ∧ Aside0 (Kd.R (Kd.int .u8) 5 wx w.heap.size (fun _ => True) (.slice n8 r20.length c8) r20))
    case first =>
      go_wp2_with fail
      go_loopw [38] (fun i wr => ∃ (j : Nat) (pl : List Co) (n6 : Option Addr) (c6 : Nat), j ≤ p5.length ∧ i = .int .i64 (j : Int) ∧ Aside0 (pl = half cutC p5 j) ∧ Aside0 (Below w.heap.size w wr) ∧ Aside0 (wr.heap[bz]? = some (.cells #[.int .i64 0, .int .i64 0, .int .i64 0, .int .i64 0, .int .i64 0, .int .i64 0, .slice none 0 0, .slice none 0 0, .slice none 0 0] 30 (0, 0))) ∧ Aside0 (wr.heap[bx]? = some (.cells #[.int .i64 zk, .int .i64 zc, .int .i64 zq, .int .i64 zh, .int .i64 za, .int .i64 zt, .slice n6 p5.length c6, .slice n7 s5.length c7, .slice n8 r20.length c8] 30 (0, 0))) ∧ Aside0 (Kd.R kCo 44 wr w.heap.size (fun _ => True) (.slice n6 p5.length c6) pl) ∧ Aside0 (Kd.R kAt 59 wr w.heap.size (fun _ => True) (.slice n7 s5.length c7) s5) ∧ Aside0 (Kd.R (Kd.int .u8) 5 wr w.heap.size (fun _ => True) (.slice n8 r20.length c8) r20)) (fun i _ => p5.length - (intOf i).toNat)
      case atStart => exact ⟨0, p5, n6, c6, Nat.zero_le _, rfl, ⟨(half_zero _ _).symm⟩, HW1, HZ1, HX1, R6, R7, R8⟩
      case round =>
        obtain ⟨j, pl, n6, c6, hj, rfl, HPL, HW, HZ, HX, R6, R7, R8⟩ := hrel
        by_cases hlt : j < p5.length
        · have hl := half_len cutC p5 j
          rw [← HPL.out] at hl
          obtain ⟨g, rfl, cl6, hcl⟩ := R_some R6.out (by omega)
          have hg1 := Kd.R_base R6.out g rfl
          have HXJ0 := half_get cutC p5 j hlt
          have HST0 := half_set cutC p5 j hlt
          rw [← HPL.out] at HXJ0 HST0
          obtain ⟨x, hx⟩ : ∃ x, p5[j] = x := ⟨_, rfl⟩
          rw [hx] at HXJ0 HST0
          obtain ⟨nm, kd, lo, hi, tx⟩ := x
          obtain ⟨cn, hcn⟩ : ∃ k, min nm.size 20 = k := ⟨_, rfl⟩
          obtain ⟨ct, hct⟩ : ∃ k, min tx.size 20 = k := ⟨_, rfl⟩
          have i1 : (if (20 : Int) < (nm.size : Int) then (20 : Int) else (nm.size : Int)) = (cn : Int) := by rw [← hcn]; split <;> omega
          have i2 : (if (20 : Int) < (tx.size : Int) then (20 : Int) else (tx.size : Int)) = (ct : Int) := by rw [← hct]; split <;> omega
          have hn1 : cn ≤ nm.size := by omega
          have hn2 : ct ≤ tx.size := by omega
          have HSET : Hid (((pl.set j (nm.extract 0 cn, kd, lo, hi, tx)).set j (nm.extract 0 cn, kd, lo, hi, tx.extract 0 ct)) = half cutC p5 (j + 1)) := Lib.hid (by rw [← HST0, List.set_set]; simp only [cutC, cutS, hcn, hct])
          have HXJ := Lib.hid HXJ0
          have HXK : Hid ((pl.set j (nm.extract 0 cn, kd, lo, hi, tx))[j]? = some (nm.extract 0 cn, kd, lo, hi, tx)) := Lib.hid (by rw [List.getElem?_set_self (by omega)])
          have HLP := Lib.hid (show 0 < pl.length by omega)
          have HLQ := Lib.hid (show 0 < (pl.set j (nm.extract 0 cn, kd, lo, hi, tx)).length by rw [List.length_set]; omega)
          have HGG := Aside0.mk hg1
          have HNZ := Aside0.mk (show bz ≠ g by rintro rfl; rw [HZ.out] at hcl; simp at hcl)
          have HNX := Aside0.mk (show bx ≠ g by rintro rfl; rw [HX.out] at hcl; simp at hcl)
          have hj0 : (0 : Int) ≤ (j : Int) := by omega
          have hj1 : (j : Int) < (p5.length : Int) := by omega
          clear hl hcl hg1 HXJ0 HST0 hx hcn hct
          have T0 := R6
          clear R6
          go_upto_region 5 with fail
          refine start_ (n := 42) (S := fun w' => True) (ds := []) #[false, false, false, false, false, false, false, false, false, false, false, false, false, false, false, false, false, false, false, false, false, false, false, false, false, false, false, false, false, false, false, false, false, false, false, false, false, false, false, false, false, false] (by kernel_rfl) rfl rfl trivial (fun hHeld => ?_)
          refine with_tabW tm5Reg.tab5 tm5Reg.bits5 (fun HT_ HW_ => ?_)
          refine pure_ (i := 0) (N := some 41) (v := ?_) (a' := ?_) #[true, false, false, false, false, false, false, false, false, false, false, false, false, false, false, false, false, false, false, false, false, false, false, false, false, false, false, false, false, false, false, false, false, false, false, false, false, false, false, false, false, false] rfl rfl (any_of HT_.out (by kernel_rfl)) (fun _ _ _ h => h) (Or.inl ⟨by rfl, ?_⟩) ?_ ?_
          rotate_left
          · intro w'
            go_simp
            with_reducible rfl
          rotate_left
          · simp only [Act.put, List.setIfInBounds_toArray, List.set_cons_zero, List.set_cons_succ, i64_w, i32_w]
            rfl
          refine pure_ (i := 2) (N := some 43) (v := ?_) (a' := ?_) #[true, false, true, false, false, false, false, false, false, false, false, false, false, false, false, false, false, false, false, false, false, false, false, false, false, false, false, false, false, false, false, false, false, false, false, false, false, false, false, false, false, false] rfl rfl (any_of HT_.out (by kernel_rfl)) (fun _ _ _ h => h) (Or.inl ⟨by rfl, ?_⟩) ?_ ?_
          rotate_left
          · intro w'
            go_simp
            with_reducible rfl
          rotate_left
          · simp only [Act.put, List.setIfInBounds_toArray, List.set_cons_zero, List.set_cons_succ, i64_w, i32_w]
            rfl
          refine pure_ (i := 3) (N := some 44) (v := ?_) (a' := ?_) #[true, false, true, true, false, false, false, false, false, false, false, false, false, false, false, false, false, false, false, false, false, false, false, false, false, false, false, false, false, false, false, false, false, false, false, false, false, false, false, false, false, false] rfl rfl (any_of HT_.out (by kernel_rfl)) (fun _ _ _ h => h) (Or.inl ⟨by rfl, ?_⟩) ?_ ?_
          rotate_left
          · intro w'
            go_simp
            with_reducible rfl
          rotate_left
          · simp only [Act.put, List.setIfInBounds_toArray, List.set_cons_zero, List.set_cons_succ, i64_w, i32_w]
            rfl
          refine pure_ (i := 5) (N := some 46) (v := ?_) (a' := ?_) #[true, false, true, true, false, true, false, false, false, false, false, false, false, false, false, false, false, false, false, false, false, false, false, false, false, false, false, false, false, false, false, false, false, false, false, false, false, false, false, false, false, false] rfl rfl (any_of HT_.out (by kernel_rfl)) (fun _ _ _ h => h) (Or.inl ⟨by rfl, ?_⟩) ?_ ?_
          rotate_left
          · intro w'
            go_simp
            with_reducible rfl
          rotate_left
          · simp only [Act.put, List.setIfInBounds_toArray, List.set_cons_zero, List.set_cons_succ, i64_w, i32_w]
            rfl
          refine pure_ (i := 6) (N := some 47) (v := ?_) (a' := ?_) #[true, false, true, true, false, true, true, false, false, false, false, false, false, false, false, false, false, false, false, false, false, false, false, false, false, false, false, false, false, false, false, false, false, false, false, false, false, false, false, false, false, false] rfl rfl (any_of HT_.out (by kernel_rfl)) (fun _ _ _ h => h) (Or.inl ⟨by rfl, ?_⟩) ?_ ?_
          rotate_left
          · intro w'
            go_simp
            with_reducible rfl
          rotate_left
          · simp only [Act.put, List.setIfInBounds_toArray, List.set_cons_zero, List.set_cons_succ, i64_w, i32_w]
            rfl
          refine pure_ (i := 8) (N := some 49) (v := ?_) (a' := ?_) #[true, false, true, true, false, true, true, false, true, false, false, false, false, false, false, false, false, false, false, false, false, false, false, false, false, false, false, false, false, false, false, false, false, false, false, false, false, false, false, false, false, false] rfl rfl (any_of HT_.out (by kernel_rfl)) (fun _ _ _ h => h) (Or.inl ⟨by rfl, ?_⟩) ?_ ?_
          rotate_left
          · intro w'
            go_simp
            with_reducible rfl
          rotate_left
          · simp only [Act.put, List.setIfInBounds_toArray, List.set_cons_zero, List.set_cons_succ, i64_w, i32_w]
            rfl
          refine pure_ (i := 12) (N := some 53) (v := ?_) (a' := ?_) #[true, false, true, true, false, true, true, false, true, false, false, false, true, false, false, false, false, false, false, false, false, false, false, false, false, false, false, false, false, false, false, false, false, false, false, false, false, false, false, false, false, false] rfl rfl (any_of HT_.out (by kernel_rfl)) (fun _ _ _ h => h) (Or.inl ⟨by rfl, ?_⟩) ?_ ?_
          rotate_left
          · intro w'
            go_simp
            with_reducible rfl
          rotate_left
          · simp only [Act.put, List.setIfInBounds_toArray, List.set_cons_zero, List.set_cons_succ, i64_w, i32_w]
            rfl
          refine pure_ (i := 14) (N := some 55) (v := ?_) (a' := ?_) #[true, false, true, true, false, true, true, false, true, false, false, false, true, false, true, false, false, false, false, false, false, false, false, false, false, false, false, false, false, false, false, false, false, false, false, false, false, false, false, false, false, false] rfl rfl (any_of HT_.out (by kernel_rfl)) (fun _ _ _ h => h) (Or.inl ⟨by rfl, ?_⟩) ?_ ?_
          rotate_left
          · intro w'
            go_simp
            with_reducible rfl
          rotate_left
          · simp only [Act.put, List.setIfInBounds_toArray, List.set_cons_zero, List.set_cons_succ, i64_w, i32_w]
            rfl
          refine pure_ (i := 21) (N := some 62) (v := ?_) (a' := ?_) #[true, false, true, true, false, true, true, false, true, false, false, false, true, false, true, false, false, false, false, false, false, true, false, false, false, false, false, false, false, false, false, false, false, false, false, false, false, false, false, false, false, false] rfl rfl (any_of HT_.out (by kernel_rfl)) (fun _ _ _ h => h) (Or.inl ⟨by rfl, ?_⟩) ?_ ?_
          rotate_left
          · intro w'
            go_simp
            with_reducible rfl
          rotate_left
          · simp only [Act.put, List.setIfInBounds_toArray, List.set_cons_zero, List.set_cons_succ, i64_w, i32_w]
            rfl
          refine pure_ (i := 23) (N := some 64) (v := ?_) (a' := ?_) #[true, false, true, true, false, true, true, false, true, false, false, false, true, false, true, false, false, false, false, false, false, true, false, true, false, false, false, false, false, false, false, false, false, false, false, false, false, false, false, false, false, false] rfl rfl (any_of HT_.out (by kernel_rfl)) (fun _ _ _ h => h) (Or.inl ⟨by rfl, ?_⟩) ?_ ?_
          rotate_left
          · intro w'
            go_simp
            with_reducible rfl
          rotate_left
          · simp only [Act.put, List.setIfInBounds_toArray, List.set_cons_zero, List.set_cons_succ, i64_w, i32_w]
            rfl
          refine pure_ (i := 27) (N := some 68) (v := ?_) (a' := ?_) #[true, false, true, true, false, true, true, false, true, false, false, false, true, false, true, false, false, false, false, false, false, true, false, true, false, false, false, true, false, false, false, false, false, false, false, false, false, false, false, false, false, false] rfl rfl (any_of HT_.out (by kernel_rfl)) (fun _ _ _ h => h) (Or.inl ⟨by rfl, ?_⟩) ?_ ?_
          rotate_left
          · intro w'
            go_simp
            with_reducible rfl
          rotate_left
          · simp only [Act.put, List.setIfInBounds_toArray, List.set_cons_zero, List.set_cons_succ, i64_w, i32_w]
            rfl
          refine pure_ (i := 29) (N := some 70) (v := ?_) (a' := ?_) #[true, false, true, true, false, true, true, false, true, false, false, false, true, false, true, false, false, false, false, false, false, true, false, true, false, false, false, true, false, true, false, false, false, false, false, false, false, false, false, false, false, false] rfl rfl (any_of HT_.out (by kernel_rfl)) (fun _ _ _ h => h) (Or.inl ⟨by rfl, ?_⟩) ?_ ?_
          rotate_left
          · intro w'
            go_simp
            with_reducible rfl
          rotate_left
          · simp only [Act.put, List.setIfInBounds_toArray, List.set_cons_zero, List.set_cons_succ, i64_w, i32_w]
            rfl
          refine inv_at [1, 4, 7, 9, 10, 11, 13, 15, 16, 17, 18, 19, 20, 22, 24, 25, 26, 28, 30, 31, 32, 33, 34, 35, 36, 37, 38, 39, 40, 41] (fun a0_ b a w' => a = putSel a0_ b [(1, 42, .slice (some ⟨g, 0, none⟩) p5.length c6), (4, 45, .slice (some ⟨g, 0, none⟩) p5.length c6), (7, 48, .slice (some ⟨g, 0, none⟩) p5.length c6), (9, 50, .pointer (some ⟨g, j * 5, none⟩)), (10, 51, .pointer (some ⟨g, j * 5, none⟩)), (11, 52, .string nm), (13, 54, .slice (some ⟨g, 0, none⟩) p5.length c6), (15, 56, .pointer (some ⟨g, j * 5, none⟩)), (16, 57, .pointer (some ⟨g, j * 5, none⟩)), (17, 58, .string nm), (18, 59, .int .i64 (nm.size : Int)), (19, 60, .int .i64 (cn : Int)), (20, 61, .string (nm.extract 0 cn)), (22, 63, .slice (some ⟨g, 0, none⟩) p5.length c6), (24, 65, .pointer (some ⟨g, j * 5, none⟩)), (25, 66, .pointer (some ⟨g, j * 5 + 4, none⟩)), (26, 67, .string tx), (28, 69, .slice (some ⟨g, 0, none⟩) p5.length c6), (30, 71, .pointer (some ⟨g, j * 5, none⟩)), (31, 72, .pointer (some ⟨g, j * 5 + 4, none⟩)), (32, 73, .string tx), (33, 74, .int .i64 (tx.size : Int)), (34, 75, .int .i64 (ct : Int)), (35, 76, .string (tx.extract 0 ct)), (36, 77, .pointer (some ⟨g, j * 5, none⟩)), (37, 78, .pointer (some ⟨g, j * 5, none⟩)), (39, 79, .pointer (some ⟨g, j * 5, none⟩)), (40, 80, .pointer (some ⟨g, j * 5 + 4, none⟩))] ∧ (Below w.heap.size w w') ∧ (w'.heap[bz]? = some (.cells #[.int .i64 0, .int .i64 0, .int .i64 0, .int .i64 0, .int .i64 0, .int .i64 0, .slice none 0 0, .slice none 0 0, .slice none 0 0] 30 (0, 0))) ∧ (w'.heap[bx]? = some (.cells #[.int .i64 zk, .int .i64 zc, .int .i64 zq, .int .i64 zh, .int .i64 za, .int .i64 zt, .slice (some ⟨g, 0, none⟩) p5.length c6, .slice n7 s5.length c7, .slice n8 r20.length c8] 30 (0, 0))) ∧ (b 38 = false → Kd.R kCo 44 w' w.heap.size (fun _ => True) (.slice (some ⟨g, 0, none⟩) p5.length c6) pl) ∧ (b 38 = true → b 41 = false → Kd.R kCo 44 w' w.heap.size (fun _ => True) (.slice (some ⟨g, 0, none⟩) p5.length c6) (pl.set j (nm.extract 0 cn, kd, lo, hi, tx))) ∧ (b 41 = true → Kd.R kCo 44 w' w.heap.size (fun _ => True) (.slice (some ⟨g, 0, none⟩) p5.length c6) ((pl.set j (nm.extract 0 cn, kd, lo, hi, tx)).set j (nm.extract 0 cn, kd, lo, hi, tx.extract 0 ct))) ∧ (Kd.R (Kd.int .u8) 5 w' w.heap.size (fun _ => True) (.slice n8 r20.length c8) r20) ∧ (Kd.R kAt 59 w' w.heap.size (fun _ => True) (.slice n7 s5.length c7) s5)) HT_.out HW_.out (by kernel_rfl) (by kernel_rfl) ?_ ?_ ?_
          · exact ⟨by simp only [putSel, Bool.false_eq_true, if_false], below_drew HW.out, HZ.out, HX.out, fun _ => Kd.R_drew T0.out, fun h_ => absurd h_ (by decide), fun h_ => absurd h_ (by decide), Kd.R_drew R8.out, Kd.R_drew R7.out⟩
          · skip
            clear HW HX HZ R7 R8 T0
            refine steps_cons ?_ ?_
            · rintro b a w' ⟨ha, Q_HW, Q_HZ, Q_HX, Q_T0, Q_T1, Q_T2, Q_R8, Q_R7⟩ hb_ hon hoff
              refine ⟨_, rfl, fun K hK => ?_⟩
              have e41 : a.tmps[41]? = some (.pointer (some ⟨bx, 6, none⟩)) := by rw [ha]; exact (putSel_off rfl).trans rfl
              replace ha := Aside0.mk ha
              have HW := Aside0.mk Q_HW
              have HZ := Aside0.mk Q_HZ
              have HX := Aside0.mk Q_HX
              have T0 := Aside0.mk (Q_T0 (hoff 38 (by kernel_rfl)))
              have R8 := Aside0.mk Q_R8
              have R7 := Aside0.mk Q_R7
              have q0 := (blk_cell HX.out 6).trans (rfl : _ = some (Value.slice (some ⟨g, 0, none⟩) p5.length c6))
              refine value_ (w1 := w') (v := .slice (some ⟨g, 0, none⟩) p5.length c6) (by rfl) rfl ?_ ?_
              · go_simp
                (try simp only [i64_w])
                try rfl
              refine hK.out _ _ ⟨(by rw [ha.out]; exact putSel_upk 0 hb_ rfl rfl rfl), Q_HW, Q_HZ, Q_HX, Q_T0, fun h0_ _ => absurd ((hoff 38 (by kernel_rfl)).symm.trans h0_) (by decide), fun h0_ => absurd ((hoff 41 (by kernel_rfl)).symm.trans h0_) (by decide), Q_R8, Q_R7⟩
            refine steps_cons ?_ ?_
            · rintro b a w' ⟨ha, Q_HW, Q_HZ, Q_HX, Q_T0, Q_T1, Q_T2, Q_R8, Q_R7⟩ hb_ hon hoff
              refine ⟨_, rfl, fun K hK => ?_⟩
              have e44 : a.tmps[44]? = some (.pointer (some ⟨bx, 6, none⟩)) := by rw [ha]; exact (putSel_off rfl).trans rfl
              replace ha := Aside0.mk ha
              have HW := Aside0.mk Q_HW
              have HZ := Aside0.mk Q_HZ
              have HX := Aside0.mk Q_HX
              have R8 := Aside0.mk Q_R8
              have R7 := Aside0.mk Q_R7
              have q0 := (blk_cell HX.out 6).trans (rfl : _ = some (Value.slice (some ⟨g, 0, none⟩) p5.length c6))
              refine value_ (w1 := w') (v := .slice (some ⟨g, 0, none⟩) p5.length c6) (by rfl) rfl ?_ ?_
              · go_simp
                (try simp only [i64_w])
                try rfl
              refine hK.out _ _ ⟨(by rw [ha.out]; exact putSel_upk 1 hb_ rfl rfl rfl), Q_HW, Q_HZ, Q_HX, Q_T0, Q_T1, fun h0_ => absurd ((hoff 41 (by kernel_rfl)).symm.trans h0_) (by decide), Q_R8, Q_R7⟩
            refine steps_cons ?_ ?_
            · rintro b a w' ⟨ha, Q_HW, Q_HZ, Q_HX, Q_T0, Q_T1, Q_T2, Q_R8, Q_R7⟩ hb_ hon hoff
              refine ⟨_, rfl, fun K hK => ?_⟩
              have e47 : a.tmps[47]? = some (.pointer (some ⟨bx, 6, none⟩)) := by rw [ha]; exact (putSel_off rfl).trans rfl
              replace ha := Aside0.mk ha
              have HW := Aside0.mk Q_HW
              have HZ := Aside0.mk Q_HZ
              have HX := Aside0.mk Q_HX
              have T0 := Aside0.mk (Q_T0 (hoff 38 (by kernel_rfl)))
              have R8 := Aside0.mk Q_R8
              have R7 := Aside0.mk Q_R7
              have q0 := (blk_cell HX.out 6).trans (rfl : _ = some (Value.slice (some ⟨g, 0, none⟩) p5.length c6))
              refine value_ (w1 := w') (v := .slice (some ⟨g, 0, none⟩) p5.length c6) (by rfl) rfl ?_ ?_
              · go_simp
                (try simp only [i64_w])
                try rfl
              refine hK.out _ _ ⟨(by rw [ha.out]; exact putSel_upk 2 hb_ rfl rfl rfl), Q_HW, Q_HZ, Q_HX, Q_T0, fun h0_ _ => absurd ((hoff 38 (by kernel_rfl)).symm.trans h0_) (by decide), fun h0_ => absurd ((hoff 41 (by kernel_rfl)).symm.trans h0_) (by decide), Q_R8, Q_R7⟩
            refine steps_cons ?_ ?_
            · rintro b a w' ⟨ha, Q_HW, Q_HZ, Q_HX, Q_T0, Q_T1, Q_T2, Q_R8, Q_R7⟩ hb_ hon hoff
              refine ⟨_, rfl, fun K hK => ?_⟩
              have e48 : a.tmps[48]? = some (.slice (some ⟨g, 0, none⟩) p5.length c6) := by rw [ha]; exact putSel_on (e := (7, 48, .slice (some ⟨g, 0, none⟩) p5.length c6)) 2 rfl rfl (hon 7 (by kernel_rfl)) rfl
              have e49 : a.tmps[49]? = some (.int .i64 (j : Int)) := by rw [ha]; exact (putSel_off rfl).trans rfl
              replace ha := Aside0.mk ha
              have HW := Aside0.mk Q_HW
              have HZ := Aside0.mk Q_HZ
              have HX := Aside0.mk Q_HX
              have T0 := Aside0.mk (Q_T0 (hoff 38 (by kernel_rfl)))
              have R8 := Aside0.mk Q_R8
              have R7 := Aside0.mk Q_R7
              refine value_ (w1 := w') (v := .pointer (some ⟨g, j * 5, none⟩)) (by rfl) rfl ?_ ?_
              · go_simp
                (try simp only [i64_w])
                try rfl
              refine hK.out _ _ ⟨(by rw [ha.out]; exact putSel_upk 3 hb_ rfl rfl rfl), Q_HW, Q_HZ, Q_HX, Q_T0, fun h0_ _ => absurd ((hoff 38 (by kernel_rfl)).symm.trans h0_) (by decide), fun h0_ => absurd ((hoff 41 (by kernel_rfl)).symm.trans h0_) (by decide), Q_R8, Q_R7⟩
            refine steps_cons ?_ ?_
            · rintro b a w' ⟨ha, Q_HW, Q_HZ, Q_HX, Q_T0, Q_T1, Q_T2, Q_R8, Q_R7⟩ hb_ hon hoff
              refine ⟨_, rfl, fun K hK => ?_⟩
              have e50 : a.tmps[50]? = some (.pointer (some ⟨g, j * 5, none⟩)) := by rw [ha]; exact putSel_on (e := (9, 50, .pointer (some ⟨g, j * 5, none⟩))) 3 rfl rfl (hon 9 (by kernel_rfl)) rfl
              replace ha := Aside0.mk ha
              have HW := Aside0.mk Q_HW
              have HZ := Aside0.mk Q_HZ
              have HX := Aside0.mk Q_HX
              have T0 := Aside0.mk (Q_T0 (hoff 38 (by kernel_rfl)))
              have R8 := Aside0.mk Q_R8
              have R7 := Aside0.mk Q_R7
              refine value_ (w1 := w') (v := .pointer (some ⟨g, j * 5, none⟩)) (by rfl) rfl ?_ ?_
              · go_simp
                (try simp only [i64_w])
                try rfl
              refine hK.out _ _ ⟨(by rw [ha.out]; exact putSel_upk 4 hb_ rfl rfl rfl), Q_HW, Q_HZ, Q_HX, Q_T0, fun h0_ _ => absurd ((hoff 38 (by kernel_rfl)).symm.trans h0_) (by decide), fun h0_ => absurd ((hoff 41 (by kernel_rfl)).symm.trans h0_) (by decide), Q_R8, Q_R7⟩
            refine steps_cons ?_ ?_
            · rintro b a w' ⟨ha, Q_HW, Q_HZ, Q_HX, Q_T0, Q_T1, Q_T2, Q_R8, Q_R7⟩ hb_ hon hoff
              refine ⟨_, rfl, fun K hK => ?_⟩
              have e51 : a.tmps[51]? = some (.pointer (some ⟨g, j * 5, none⟩)) := by rw [ha]; exact putSel_on (e := (10, 51, .pointer (some ⟨g, j * 5, none⟩))) 4 rfl rfl (hon 10 (by kernel_rfl)) rfl
              replace ha := Aside0.mk ha
              have HW := Aside0.mk Q_HW
              have HZ := Aside0.mk Q_HZ
              have HX := Aside0.mk Q_HX
              have T0 := Aside0.mk (Q_T0 (hoff 38 (by kernel_rfl)))
              have R8 := Aside0.mk Q_R8
              have R7 := Aside0.mk Q_R7
              have q0 := (co_0_cell T0.out HXJ.out).1
              refine value_ (w1 := w') (v := .string nm) (by rfl) rfl ?_ ?_
              · go_simp
                (try simp only [i64_w])
                try rfl
              refine hK.out _ _ ⟨(by rw [ha.out]; exact putSel_upk 5 hb_ rfl rfl rfl), Q_HW, Q_HZ, Q_HX, Q_T0, fun h0_ _ => absurd ((hoff 38 (by kernel_rfl)).symm.trans h0_) (by decide), fun h0_ => absurd ((hoff 41 (by kernel_rfl)).symm.trans h0_) (by decide), Q_R8, Q_R7⟩
            refine steps_cons ?_ ?_
            · rintro b a w' ⟨ha, Q_HW, Q_HZ, Q_HX, Q_T0, Q_T1, Q_T2, Q_R8, Q_R7⟩ hb_ hon hoff
              refine ⟨_, rfl, fun K hK => ?_⟩
              have e53 : a.tmps[53]? = some (.pointer (some ⟨bx, 6, none⟩)) := by rw [ha]; exact (putSel_off rfl).trans rfl
              replace ha := Aside0.mk ha
              have HW := Aside0.mk Q_HW
              have HZ := Aside0.mk Q_HZ
              have HX := Aside0.mk Q_HX
              have T0 := Aside0.mk (Q_T0 (hoff 38 (by kernel_rfl)))
              have R8 := Aside0.mk Q_R8
              have R7 := Aside0.mk Q_R7
              have q0 := (blk_cell HX.out 6).trans (rfl : _ = some (Value.slice (some ⟨g, 0, none⟩) p5.length c6))
              refine value_ (w1 := w') (v := .slice (some ⟨g, 0, none⟩) p5.length c6) (by rfl) rfl ?_ ?_
              · go_simp
                (try simp only [i64_w])
                try rfl
              refine hK.out _ _ ⟨(by rw [ha.out]; exact putSel_upk 6 hb_ rfl rfl rfl), Q_HW, Q_HZ, Q_HX, Q_T0, fun h0_ _ => absurd ((hoff 38 (by kernel_rfl)).symm.trans h0_) (by decide), fun h0_ => absurd ((hoff 41 (by kernel_rfl)).symm.trans h0_) (by decide), Q_R8, Q_R7⟩
            refine steps_cons ?_ ?_
            · rintro b a w' ⟨ha, Q_HW, Q_HZ, Q_HX, Q_T0, Q_T1, Q_T2, Q_R8, Q_R7⟩ hb_ hon hoff
              refine ⟨_, rfl, fun K hK => ?_⟩
              have e54 : a.tmps[54]? = some (.slice (some ⟨g, 0, none⟩) p5.length c6) := by rw [ha]; exact putSel_on (e := (13, 54, .slice (some ⟨g, 0, none⟩) p5.length c6)) 6 rfl rfl (hon 13 (by kernel_rfl)) rfl
              have e55 : a.tmps[55]? = some (.int .i64 (j : Int)) := by rw [ha]; exact (putSel_off rfl).trans rfl
              replace ha := Aside0.mk ha
              have HW := Aside0.mk Q_HW
              have HZ := Aside0.mk Q_HZ
              have HX := Aside0.mk Q_HX
              have T0 := Aside0.mk (Q_T0 (hoff 38 (by kernel_rfl)))
              have R8 := Aside0.mk Q_R8
              have R7 := Aside0.mk Q_R7
              refine value_ (w1 := w') (v := .pointer (some ⟨g, j * 5, none⟩)) (by rfl) rfl ?_ ?_
              · go_simp
                (try simp only [i64_w])
                try rfl
              refine hK.out _ _ ⟨(by rw [ha.out]; exact putSel_upk 7 hb_ rfl rfl rfl), Q_HW, Q_HZ, Q_HX, Q_T0, fun h0_ _ => absurd ((hoff 38 (by kernel_rfl)).symm.trans h0_) (by decide), fun h0_ => absurd ((hoff 41 (by kernel_rfl)).symm.trans h0_) (by decide), Q_R8, Q_R7⟩
            refine steps_cons ?_ ?_
            · rintro b a w' ⟨ha, Q_HW, Q_HZ, Q_HX, Q_T0, Q_T1, Q_T2, Q_R8, Q_R7⟩ hb_ hon hoff
              refine ⟨_, rfl, fun K hK => ?_⟩
              have e56 : a.tmps[56]? = some (.pointer (some ⟨g, j * 5, none⟩)) := by rw [ha]; exact putSel_on (e := (15, 56, .pointer (some ⟨g, j * 5, none⟩))) 7 rfl rfl (hon 15 (by kernel_rfl)) rfl
              replace ha := Aside0.mk ha
              have HW := Aside0.mk Q_HW
              have HZ := Aside0.mk Q_HZ
              have HX := Aside0.mk Q_HX
              have T0 := Aside0.mk (Q_T0 (hoff 38 (by kernel_rfl)))
              have R8 := Aside0.mk Q_R8
              have R7 := Aside0.mk Q_R7
              refine value_ (w1 := w') (v := .pointer (some ⟨g, j * 5, none⟩)) (by rfl) rfl ?_ ?_
              · go_simp
                (try simp only [i64_w])
                try rfl
              refine hK.out _ _ ⟨(by rw [ha.out]; exact putSel_upk 8 hb_ rfl rfl rfl), Q_HW, Q_HZ, Q_HX, Q_T0, fun h0_ _ => absurd ((hoff 38 (by kernel_rfl)).symm.trans h0_) (by decide), fun h0_ => absurd ((hoff 41 (by kernel_rfl)).symm.trans h0_) (by decide), Q_R8, Q_R7⟩
            refine steps_cons ?_ ?_
            · rintro b a w' ⟨ha, Q_HW, Q_HZ, Q_HX, Q_T0, Q_T1, Q_T2, Q_R8, Q_R7⟩ hb_ hon hoff
              refine ⟨_, rfl, fun K hK => ?_⟩
              have e57 : a.tmps[57]? = some (.pointer (some ⟨g, j * 5, none⟩)) := by rw [ha]; exact putSel_on (e := (16, 57, .pointer (some ⟨g, j * 5, none⟩))) 8 rfl rfl (hon 16 (by kernel_rfl)) rfl
              replace ha := Aside0.mk ha
              have HW := Aside0.mk Q_HW
              have HZ := Aside0.mk Q_HZ
              have HX := Aside0.mk Q_HX
              have T0 := Aside0.mk (Q_T0 (hoff 38 (by kernel_rfl)))
              have R8 := Aside0.mk Q_R8
              have R7 := Aside0.mk Q_R7
              have q0 := (co_0_cell T0.out HXJ.out).1
              refine value_ (w1 := w') (v := .string nm) (by rfl) rfl ?_ ?_
              · go_simp
                (try simp only [i64_w])
                try rfl
              refine hK.out _ _ ⟨(by rw [ha.out]; exact putSel_upk 9 hb_ rfl rfl rfl), Q_HW, Q_HZ, Q_HX, Q_T0, fun h0_ _ => absurd ((hoff 38 (by kernel_rfl)).symm.trans h0_) (by decide), fun h0_ => absurd ((hoff 41 (by kernel_rfl)).symm.trans h0_) (by decide), Q_R8, Q_R7⟩
            refine steps_cons ?_ ?_
            · rintro b a w' ⟨ha, Q_HW, Q_HZ, Q_HX, Q_T0, Q_T1, Q_T2, Q_R8, Q_R7⟩ hb_ hon hoff
              refine ⟨_, rfl, fun K hK => ?_⟩
              have e58 : a.tmps[58]? = some (.string nm) := by rw [ha]; exact putSel_on (e := (17, 58, .string nm)) 9 rfl rfl (hon 17 (by kernel_rfl)) rfl
              replace ha := Aside0.mk ha
              have HW := Aside0.mk Q_HW
              have HZ := Aside0.mk Q_HZ
              have HX := Aside0.mk Q_HX
              have T0 := Aside0.mk (Q_T0 (hoff 38 (by kernel_rfl)))
              have R8 := Aside0.mk Q_R8
              have R7 := Aside0.mk Q_R7
              refine value_ (w1 := w') (v := .int .i64 (nm.size : Int)) (by rfl) rfl ?_ ?_
              · go_simp
                (try simp only [i64_w])
                try rfl
              refine hK.out _ _ ⟨(by rw [ha.out]; exact putSel_upk 10 hb_ rfl rfl rfl), Q_HW, Q_HZ, Q_HX, Q_T0, fun h0_ _ => absurd ((hoff 38 (by kernel_rfl)).symm.trans h0_) (by decide), fun h0_ => absurd ((hoff 41 (by kernel_rfl)).symm.trans h0_) (by decide), Q_R8, Q_R7⟩
            refine steps_cons ?_ ?_
            · rintro b a w' ⟨ha, Q_HW, Q_HZ, Q_HX, Q_T0, Q_T1, Q_T2, Q_R8, Q_R7⟩ hb_ hon hoff
              refine ⟨_, rfl, fun K hK => ?_⟩
              have e59 : a.tmps[59]? = some (.int .i64 (nm.size : Int)) := by rw [ha]; exact putSel_on (e := (18, 59, .int .i64 (nm.size : Int))) 10 rfl rfl (hon 18 (by kernel_rfl)) rfl
              replace ha := Aside0.mk ha
              have HW := Aside0.mk Q_HW
              have HZ := Aside0.mk Q_HZ
              have HX := Aside0.mk Q_HX
              have T0 := Aside0.mk (Q_T0 (hoff 38 (by kernel_rfl)))
              have R8 := Aside0.mk Q_R8
              have R7 := Aside0.mk Q_R7
              refine value_ (w1 := w') (v := .int .i64 (cn : Int)) (by rfl) rfl ?_ ?_
              · go_simp
                (try simp only [i64_w])
                try rfl
              refine hK.out _ _ ⟨(by rw [ha.out]; exact putSel_upk 11 hb_ rfl rfl rfl), Q_HW, Q_HZ, Q_HX, Q_T0, fun h0_ _ => absurd ((hoff 38 (by kernel_rfl)).symm.trans h0_) (by decide), fun h0_ => absurd ((hoff 41 (by kernel_rfl)).symm.trans h0_) (by decide), Q_R8, Q_R7⟩
            refine steps_cons ?_ ?_
            · rintro b a w' ⟨ha, Q_HW, Q_HZ, Q_HX, Q_T0, Q_T1, Q_T2, Q_R8, Q_R7⟩ hb_ hon hoff
              refine ⟨_, rfl, fun K hK => ?_⟩
              have e52 : a.tmps[52]? = some (.string nm) := by rw [ha]; exact putSel_on (e := (11, 52, .string nm)) 5 rfl rfl (hon 11 (by kernel_rfl)) rfl
              have e60 : a.tmps[60]? = some (.int .i64 (cn : Int)) := by rw [ha]; exact putSel_on (e := (19, 60, .int .i64 (cn : Int))) 11 rfl rfl (hon 19 (by kernel_rfl)) rfl
              replace ha := Aside0.mk ha
              have HW := Aside0.mk Q_HW
              have HZ := Aside0.mk Q_HZ
              have HX := Aside0.mk Q_HX
              have T0 := Aside0.mk (Q_T0 (hoff 38 (by kernel_rfl)))
              have R8 := Aside0.mk Q_R8
              have R7 := Aside0.mk Q_R7
              refine value_ (w1 := w') (v := .string (nm.extract 0 cn)) (by rfl) rfl ?_ ?_
              · go_simp
                (try simp only [i64_w])
                try rfl
              refine hK.out _ _ ⟨(by rw [ha.out]; exact putSel_upk 12 hb_ rfl rfl rfl), Q_HW, Q_HZ, Q_HX, Q_T0, fun h0_ _ => absurd ((hoff 38 (by kernel_rfl)).symm.trans h0_) (by decide), fun h0_ => absurd ((hoff 41 (by kernel_rfl)).symm.trans h0_) (by decide), Q_R8, Q_R7⟩
            refine steps_cons ?_ ?_
            · rintro b a w' ⟨ha, Q_HW, Q_HZ, Q_HX, Q_T0, Q_T1, Q_T2, Q_R8, Q_R7⟩ hb_ hon hoff
              refine ⟨_, rfl, fun K hK => ?_⟩
              have e62 : a.tmps[62]? = some (.pointer (some ⟨bx, 6, none⟩)) := by rw [ha]; exact (putSel_off rfl).trans rfl
              replace ha := Aside0.mk ha
              have HW := Aside0.mk Q_HW
              have HZ := Aside0.mk Q_HZ
              have HX := Aside0.mk Q_HX
              have T0 := Aside0.mk (Q_T0 (hoff 38 (by kernel_rfl)))
              have R8 := Aside0.mk Q_R8
              have R7 := Aside0.mk Q_R7
              have q0 := (blk_cell HX.out 6).trans (rfl : _ = some (Value.slice (some ⟨g, 0, none⟩) p5.length c6))
              refine value_ (w1 := w') (v := .slice (some ⟨g, 0, none⟩) p5.length c6) (by rfl) rfl ?_ ?_
              · go_simp
                (try simp only [i64_w])
                try rfl
              refine hK.out _ _ ⟨(by rw [ha.out]; exact putSel_upk 13 hb_ rfl rfl rfl), Q_HW, Q_HZ, Q_HX, Q_T0, fun h0_ _ => absurd ((hoff 38 (by kernel_rfl)).symm.trans h0_) (by decide), fun h0_ => absurd ((hoff 41 (by kernel_rfl)).symm.trans h0_) (by decide), Q_R8, Q_R7⟩
            refine steps_cons ?_ ?_
            · rintro b a w' ⟨ha, Q_HW, Q_HZ, Q_HX, Q_T0, Q_T1, Q_T2, Q_R8, Q_R7⟩ hb_ hon hoff
              refine ⟨_, rfl, fun K hK => ?_⟩
              have e63 : a.tmps[63]? = some (.slice (some ⟨g, 0, none⟩) p5.length c6) := by rw [ha]; exact putSel_on (e := (22, 63, .slice (some ⟨g, 0, none⟩) p5.length c6)) 13 rfl rfl (hon 22 (by kernel_rfl)) rfl
              have e64 : a.tmps[64]? = some (.int .i64 (j : Int)) := by rw [ha]; exact (putSel_off rfl).trans rfl
              replace ha := Aside0.mk ha
              have HW := Aside0.mk Q_HW
              have HZ := Aside0.mk Q_HZ
              have HX := Aside0.mk Q_HX
              have T0 := Aside0.mk (Q_T0 (hoff 38 (by kernel_rfl)))
              have R8 := Aside0.mk Q_R8
              have R7 := Aside0.mk Q_R7
              refine value_ (w1 := w') (v := .pointer (some ⟨g, j * 5, none⟩)) (by rfl) rfl ?_ ?_
              · go_simp
                (try simp only [i64_w])
                try rfl
              refine hK.out _ _ ⟨(by rw [ha.out]; exact putSel_upk 14 hb_ rfl rfl rfl), Q_HW, Q_HZ, Q_HX, Q_T0, fun h0_ _ => absurd ((hoff 38 (by kernel_rfl)).symm.trans h0_) (by decide), fun h0_ => absurd ((hoff 41 (by kernel_rfl)).symm.trans h0_) (by decide), Q_R8, Q_R7⟩
            refine steps_cons ?_ ?_
            · rintro b a w' ⟨ha, Q_HW, Q_HZ, Q_HX, Q_T0, Q_T1, Q_T2, Q_R8, Q_R7⟩ hb_ hon hoff
              refine ⟨_, rfl, fun K hK => ?_⟩
              have e65 : a.tmps[65]? = some (.pointer (some ⟨g, j * 5, none⟩)) := by rw [ha]; exact putSel_on (e := (24, 65, .pointer (some ⟨g, j * 5, none⟩))) 14 rfl rfl (hon 24 (by kernel_rfl)) rfl
              replace ha := Aside0.mk ha
              have HW := Aside0.mk Q_HW
              have HZ := Aside0.mk Q_HZ
              have HX := Aside0.mk Q_HX
              have T0 := Aside0.mk (Q_T0 (hoff 38 (by kernel_rfl)))
              have R8 := Aside0.mk Q_R8
              have R7 := Aside0.mk Q_R7
              refine value_ (w1 := w') (v := .pointer (some ⟨g, j * 5 + 4, none⟩)) (by rfl) rfl ?_ ?_
              · go_simp
                (try simp only [i64_w])
                try rfl
              refine hK.out _ _ ⟨(by rw [ha.out]; exact putSel_upk 15 hb_ rfl rfl rfl), Q_HW, Q_HZ, Q_HX, Q_T0, fun h0_ _ => absurd ((hoff 38 (by kernel_rfl)).symm.trans h0_) (by decide), fun h0_ => absurd ((hoff 41 (by kernel_rfl)).symm.trans h0_) (by decide), Q_R8, Q_R7⟩
            refine steps_cons ?_ ?_
            · rintro b a w' ⟨ha, Q_HW, Q_HZ, Q_HX, Q_T0, Q_T1, Q_T2, Q_R8, Q_R7⟩ hb_ hon hoff
              refine ⟨_, rfl, fun K hK => ?_⟩
              have e66 : a.tmps[66]? = some (.pointer (some ⟨g, j * 5 + 4, none⟩)) := by rw [ha]; exact putSel_on (e := (25, 66, .pointer (some ⟨g, j * 5 + 4, none⟩))) 15 rfl rfl (hon 25 (by kernel_rfl)) rfl
              replace ha := Aside0.mk ha
              have HW := Aside0.mk Q_HW
              have HZ := Aside0.mk Q_HZ
              have HX := Aside0.mk Q_HX
              have T0 := Aside0.mk (Q_T0 (hoff 38 (by kernel_rfl)))
              have R8 := Aside0.mk Q_R8
              have R7 := Aside0.mk Q_R7
              have q0 := (co_4_cell T0.out HXJ.out).1
              refine value_ (w1 := w') (v := .string tx) (by rfl) rfl ?_ ?_
              · go_simp
                (try simp only [i64_w])
                try rfl
              refine hK.out _ _ ⟨(by rw [ha.out]; exact putSel_upk 16 hb_ rfl rfl rfl), Q_HW, Q_HZ, Q_HX, Q_T0, fun h0_ _ => absurd ((hoff 38 (by kernel_rfl)).symm.trans h0_) (by decide), fun h0_ => absurd ((hoff 41 (by kernel_rfl)).symm.trans h0_) (by decide), Q_R8, Q_R7⟩
            refine steps_cons ?_ ?_
            · rintro b a w' ⟨ha, Q_HW, Q_HZ, Q_HX, Q_T0, Q_T1, Q_T2, Q_R8, Q_R7⟩ hb_ hon hoff
              refine ⟨_, rfl, fun K hK => ?_⟩
              have e68 : a.tmps[68]? = some (.pointer (some ⟨bx, 6, none⟩)) := by rw [ha]; exact (putSel_off rfl).trans rfl
              replace ha := Aside0.mk ha
              have HW := Aside0.mk Q_HW
              have HZ := Aside0.mk Q_HZ
              have HX := Aside0.mk Q_HX
              have T0 := Aside0.mk (Q_T0 (hoff 38 (by kernel_rfl)))
              have R8 := Aside0.mk Q_R8
              have R7 := Aside0.mk Q_R7
              have q0 := (blk_cell HX.out 6).trans (rfl : _ = some (Value.slice (some ⟨g, 0, none⟩) p5.length c6))
              refine value_ (w1 := w') (v := .slice (some ⟨g, 0, none⟩) p5.length c6) (by rfl) rfl ?_ ?_
              · go_simp
                (try simp only [i64_w])
                try rfl
              refine hK.out _ _ ⟨(by rw [ha.out]; exact putSel_upk 17 hb_ rfl rfl rfl), Q_HW, Q_HZ, Q_HX, Q_T0, fun h0_ _ => absurd ((hoff 38 (by kernel_rfl)).symm.trans h0_) (by decide), fun h0_ => absurd ((hoff 41 (by kernel_rfl)).symm.trans h0_) (by decide), Q_R8, Q_R7⟩
            refine steps_cons ?_ ?_
            · rintro b a w' ⟨ha, Q_HW, Q_HZ, Q_HX, Q_T0, Q_T1, Q_T2, Q_R8, Q_R7⟩ hb_ hon hoff
              refine ⟨_, rfl, fun K hK => ?_⟩
              have e69 : a.tmps[69]? = some (.slice (some ⟨g, 0, none⟩) p5.length c6) := by rw [ha]; exact putSel_on (e := (28, 69, .slice (some ⟨g, 0, none⟩) p5.length c6)) 17 rfl rfl (hon 28 (by kernel_rfl)) rfl
              have e70 : a.tmps[70]? = some (.int .i64 (j : Int)) := by rw [ha]; exact (putSel_off rfl).trans rfl
              replace ha := Aside0.mk ha
              have HW := Aside0.mk Q_HW
              have HZ := Aside0.mk Q_HZ
              have HX := Aside0.mk Q_HX
              have T0 := Aside0.mk (Q_T0 (hoff 38 (by kernel_rfl)))
              have R8 := Aside0.mk Q_R8
              have R7 := Aside0.mk Q_R7
              refine value_ (w1 := w') (v := .pointer (some ⟨g, j * 5, none⟩)) (by rfl) rfl ?_ ?_
              · go_simp
                (try simp only [i64_w])
                try rfl
              refine hK.out _ _ ⟨(by rw [ha.out]; exact putSel_upk 18 hb_ rfl rfl rfl), Q_HW, Q_HZ, Q_HX, Q_T0, fun h0_ _ => absurd ((hoff 38 (by kernel_rfl)).symm.trans h0_) (by decide), fun h0_ => absurd ((hoff 41 (by kernel_rfl)).symm.trans h0_) (by decide), Q_R8, Q_R7⟩
            refine steps_cons ?_ ?_
            · rintro b a w' ⟨ha, Q_HW, Q_HZ, Q_HX, Q_T0, Q_T1, Q_T2, Q_R8, Q_R7⟩ hb_ hon hoff
              refine ⟨_, rfl, fun K hK => ?_⟩
              have e71 : a.tmps[71]? = some (.pointer (some ⟨g, j * 5, none⟩)) := by rw [ha]; exact putSel_on (e := (30, 71, .pointer (some ⟨g, j * 5, none⟩))) 18 rfl rfl (hon 30 (by kernel_rfl)) rfl
              replace ha := Aside0.mk ha
              have HW := Aside0.mk Q_HW
              have HZ := Aside0.mk Q_HZ
              have HX := Aside0.mk Q_HX
              have T0 := Aside0.mk (Q_T0 (hoff 38 (by kernel_rfl)))
              have R8 := Aside0.mk Q_R8
              have R7 := Aside0.mk Q_R7
              refine value_ (w1 := w') (v := .pointer (some ⟨g, j * 5 + 4, none⟩)) (by rfl) rfl ?_ ?_
              · go_simp
                (try simp only [i64_w])
                try rfl
              refine hK.out _ _ ⟨(by rw [ha.out]; exact putSel_upk 19 hb_ rfl rfl rfl), Q_HW, Q_HZ, Q_HX, Q_T0, fun h0_ _ => absurd ((hoff 38 (by kernel_rfl)).symm.trans h0_) (by decide), fun h0_ => absurd ((hoff 41 (by kernel_rfl)).symm.trans h0_) (by decide), Q_R8, Q_R7⟩
            refine steps_cons ?_ ?_
            · rintro b a w' ⟨ha, Q_HW, Q_HZ, Q_HX, Q_T0, Q_T1, Q_T2, Q_R8, Q_R7⟩ hb_ hon hoff
              refine ⟨_, rfl, fun K hK => ?_⟩
              have e72 : a.tmps[72]? = some (.pointer (some ⟨g, j * 5 + 4, none⟩)) := by rw [ha]; exact putSel_on (e := (31, 72, .pointer (some ⟨g, j * 5 + 4, none⟩))) 19 rfl rfl (hon 31 (by kernel_rfl)) rfl
              replace ha := Aside0.mk ha
              have HW := Aside0.mk Q_HW
              have HZ := Aside0.mk Q_HZ
              have HX := Aside0.mk Q_HX
              have T0 := Aside0.mk (Q_T0 (hoff 38 (by kernel_rfl)))
              have R8 := Aside0.mk Q_R8
              have R7 := Aside0.mk Q_R7
              have q0 := (co_4_cell T0.out HXJ.out).1
              refine value_ (w1 := w') (v := .string tx) (by rfl) rfl ?_ ?_
              · go_simp
                (try simp only [i64_w])
                try rfl
              refine hK.out _ _ ⟨(by rw [ha.out]; exact putSel_upk 20 hb_ rfl rfl rfl), Q_HW, Q_HZ, Q_HX, Q_T0, fun h0_ _ => absurd ((hoff 38 (by kernel_rfl)).symm.trans h0_) (by decide), fun h0_ => absurd ((hoff 41 (by kernel_rfl)).symm.trans h0_) (by decide), Q_R8, Q_R7⟩
            refine steps_cons ?_ ?_
            · rintro b a w' ⟨ha, Q_HW, Q_HZ, Q_HX, Q_T0, Q_T1, Q_T2, Q_R8, Q_R7⟩ hb_ hon hoff
              refine ⟨_, rfl, fun K hK => ?_⟩
              have e73 : a.tmps[73]? = some (.string tx) := by rw [ha]; exact putSel_on (e := (32, 73, .string tx)) 20 rfl rfl (hon 32 (by kernel_rfl)) rfl
              replace ha := Aside0.mk ha
              have HW := Aside0.mk Q_HW
              have HZ := Aside0.mk Q_HZ
              have HX := Aside0.mk Q_HX
              have R8 := Aside0.mk Q_R8
              have R7 := Aside0.mk Q_R7
              refine value_ (w1 := w') (v := .int .i64 (tx.size : Int)) (by rfl) rfl ?_ ?_
              · go_simp
                (try simp only [i64_w])
                try rfl
              refine hK.out _ _ ⟨(by rw [ha.out]; exact putSel_upk 21 hb_ rfl rfl rfl), Q_HW, Q_HZ, Q_HX, Q_T0, Q_T1, fun h0_ => absurd ((hoff 41 (by kernel_rfl)).symm.trans h0_) (by decide), Q_R8, Q_R7⟩
            refine steps_cons ?_ ?_
            · rintro b a w' ⟨ha, Q_HW, Q_HZ, Q_HX, Q_T0, Q_T1, Q_T2, Q_R8, Q_R7⟩ hb_ hon hoff
              refine ⟨_, rfl, fun K hK => ?_⟩
              have e74 : a.tmps[74]? = some (.int .i64 (tx.size : Int)) := by rw [ha]; exact putSel_on (e := (33, 74, .int .i64 (tx.size : Int))) 21 rfl rfl (hon 33 (by kernel_rfl)) rfl
              replace ha := Aside0.mk ha
              have HW := Aside0.mk Q_HW
              have HZ := Aside0.mk Q_HZ
              have HX := Aside0.mk Q_HX
              have R8 := Aside0.mk Q_R8
              have R7 := Aside0.mk Q_R7
              refine value_ (w1 := w') (v := .int .i64 (ct : Int)) (by rfl) rfl ?_ ?_
              · go_simp
                (try simp only [i64_w])
                try rfl
              refine hK.out _ _ ⟨(by rw [ha.out]; exact putSel_upk 22 hb_ rfl rfl rfl), Q_HW, Q_HZ, Q_HX, Q_T0, Q_T1, fun h0_ => absurd ((hoff 41 (by kernel_rfl)).symm.trans h0_) (by decide), Q_R8, Q_R7⟩
            refine steps_cons ?_ ?_
            · rintro b a w' ⟨ha, Q_HW, Q_HZ, Q_HX, Q_T0, Q_T1, Q_T2, Q_R8, Q_R7⟩ hb_ hon hoff
              refine ⟨_, rfl, fun K hK => ?_⟩
              have e67 : a.tmps[67]? = some (.string tx) := by rw [ha]; exact putSel_on (e := (26, 67, .string tx)) 16 rfl rfl (hon 26 (by kernel_rfl)) rfl
              have e75 : a.tmps[75]? = some (.int .i64 (ct : Int)) := by rw [ha]; exact putSel_on (e := (34, 75, .int .i64 (ct : Int))) 22 rfl rfl (hon 34 (by kernel_rfl)) rfl
              replace ha := Aside0.mk ha
              have HW := Aside0.mk Q_HW
              have HZ := Aside0.mk Q_HZ
              have HX := Aside0.mk Q_HX
              have R8 := Aside0.mk Q_R8
              have R7 := Aside0.mk Q_R7
              refine value_ (w1 := w') (v := .string (tx.extract 0 ct)) (by rfl) rfl ?_ ?_
              · go_simp
                (try simp only [i64_w])
                try rfl
              refine hK.out _ _ ⟨(by rw [ha.out]; exact putSel_upk 23 hb_ rfl rfl rfl), Q_HW, Q_HZ, Q_HX, Q_T0, Q_T1, fun h0_ => absurd ((hoff 41 (by kernel_rfl)).symm.trans h0_) (by decide), Q_R8, Q_R7⟩
            refine steps_cons ?_ ?_
            · rintro b a w' ⟨ha, Q_HW, Q_HZ, Q_HX, Q_T0, Q_T1, Q_T2, Q_R8, Q_R7⟩ hb_ hon hoff
              refine ⟨_, rfl, fun K hK => ?_⟩
              have e42 : a.tmps[42]? = some (.slice (some ⟨g, 0, none⟩) p5.length c6) := by rw [ha]; exact putSel_on (e := (1, 42, .slice (some ⟨g, 0, none⟩) p5.length c6)) 0 rfl rfl (hon 1 (by kernel_rfl)) rfl
              have e43 : a.tmps[43]? = some (.int .i64 (j : Int)) := by rw [ha]; exact (putSel_off rfl).trans rfl
              replace ha := Aside0.mk ha
              have HW := Aside0.mk Q_HW
              have HZ := Aside0.mk Q_HZ
              have HX := Aside0.mk Q_HX
              have T0 := Aside0.mk (Q_T0 (hoff 38 (by kernel_rfl)))
              have R8 := Aside0.mk Q_R8
              have R7 := Aside0.mk Q_R7
              refine value_ (w1 := w') (v := .pointer (some ⟨g, j * 5, none⟩)) (by rfl) rfl ?_ ?_
              · go_simp
                (try simp only [i64_w])
                try rfl
              refine hK.out _ _ ⟨(by rw [ha.out]; exact putSel_upk 24 hb_ rfl rfl rfl), Q_HW, Q_HZ, Q_HX, Q_T0, fun h0_ _ => absurd ((hoff 38 (by kernel_rfl)).symm.trans h0_) (by decide), fun h0_ => absurd ((hoff 41 (by kernel_rfl)).symm.trans h0_) (by decide), Q_R8, Q_R7⟩
            refine steps_cons ?_ ?_
            · rintro b a w' ⟨ha, Q_HW, Q_HZ, Q_HX, Q_T0, Q_T1, Q_T2, Q_R8, Q_R7⟩ hb_ hon hoff
              refine ⟨_, rfl, fun K hK => ?_⟩
              have e77 : a.tmps[77]? = some (.pointer (some ⟨g, j * 5, none⟩)) := by rw [ha]; exact putSel_on (e := (36, 77, .pointer (some ⟨g, j * 5, none⟩))) 24 rfl rfl (hon 36 (by kernel_rfl)) rfl
              replace ha := Aside0.mk ha
              have HW := Aside0.mk Q_HW
              have HZ := Aside0.mk Q_HZ
              have HX := Aside0.mk Q_HX
              have T0 := Aside0.mk (Q_T0 (hoff 38 (by kernel_rfl)))
              have R8 := Aside0.mk Q_R8
              have R7 := Aside0.mk Q_R7
              refine value_ (w1 := w') (v := .pointer (some ⟨g, j * 5, none⟩)) (by rfl) rfl ?_ ?_
              · go_simp
                (try simp only [i64_w])
                try rfl
              refine hK.out _ _ ⟨(by rw [ha.out]; exact putSel_upk 25 hb_ rfl rfl rfl), Q_HW, Q_HZ, Q_HX, Q_T0, fun h0_ _ => absurd ((hoff 38 (by kernel_rfl)).symm.trans h0_) (by decide), fun h0_ => absurd ((hoff 41 (by kernel_rfl)).symm.trans h0_) (by decide), Q_R8, Q_R7⟩
            refine steps_cons ?_ ?_
            · rintro b a w' ⟨ha, Q_HW, Q_HZ, Q_HX, Q_T0, Q_T1, Q_T2, Q_R8, Q_R7⟩ hb_ hon hoff
              refine ⟨_, rfl, fun K hK => ?_⟩
              have e78 : a.tmps[78]? = some (.pointer (some ⟨g, j * 5, none⟩)) := by rw [ha]; exact putSel_on (e := (37, 78, .pointer (some ⟨g, j * 5, none⟩))) 25 rfl rfl (hon 37 (by kernel_rfl)) rfl
              have e61 : a.tmps[61]? = some (.string (nm.extract 0 cn)) := by rw [ha]; exact putSel_on (e := (20, 61, .string (nm.extract 0 cn))) 12 rfl rfl (hon 20 (by kernel_rfl)) rfl
              replace ha := Aside0.mk ha
              have HW := Aside0.mk Q_HW
              have HZ := Aside0.mk Q_HZ
              have HX := Aside0.mk Q_HX
              have T0 := Aside0.mk (Q_T0 hb_)
              have R8 := Aside0.mk Q_R8
              have R7 := Aside0.mk Q_R7
              have z0 := (co_0_cell T0.out HXJ.out).1
              have f0 := (co_0_cell T0.out HXJ.out).2
              have hl := World.block_lt_of_cell? w' _ z0
              refine skip_ (w1 := w'.setCell ⟨g, j * 5, none⟩ (.string (nm.extract 0 cn))) (by rfl) rfl (by go_simp) ?_
              refine hK.out _ _ ⟨(by rw [ha.out]; exact putSel_none (v := undef) rfl), below_set HW.out HGG.out, KeepBut.blk ((KeepBut.refl _ g none).set_ _ _) HZ.out HNZ.out (by simp), KeepBut.blk ((KeepBut.refl _ g none).set_ _ _) HX.out HNX.out (by simp), fun h0_ => absurd ((up_self b 38).symm.trans h0_) (by decide), fun _ _ => co_0_put T0.out HXJ.out _, fun h0_ => absurd ((hoff 41 (by kernel_rfl)).symm.trans h0_) (by decide), R_other R8.out rfl T0.out HLP.out (by decide) ((KeepBut.refl _ g none).set_ _ _), R_other R7.out rfl T0.out HLP.out (by decide) ((KeepBut.refl _ g none).set_ _ _)⟩
            refine steps_cons ?_ ?_
            · rintro b a w' ⟨ha, Q_HW, Q_HZ, Q_HX, Q_T0, Q_T1, Q_T2, Q_R8, Q_R7⟩ hb_ hon hoff
              refine ⟨_, rfl, fun K hK => ?_⟩
              have e45 : a.tmps[45]? = some (.slice (some ⟨g, 0, none⟩) p5.length c6) := by rw [ha]; exact putSel_on (e := (4, 45, .slice (some ⟨g, 0, none⟩) p5.length c6)) 1 rfl rfl (hon 4 (by kernel_rfl)) rfl
              have e46 : a.tmps[46]? = some (.int .i64 (j : Int)) := by rw [ha]; exact (putSel_off rfl).trans rfl
              replace ha := Aside0.mk ha
              have HW := Aside0.mk Q_HW
              have HZ := Aside0.mk Q_HZ
              have HX := Aside0.mk Q_HX
              have T1 := Aside0.mk (Q_T1 (hon 38 (by kernel_rfl)) (hoff 41 (by kernel_rfl)))
              have R8 := Aside0.mk Q_R8
              have R7 := Aside0.mk Q_R7
              refine value_ (w1 := w') (v := .pointer (some ⟨g, j * 5, none⟩)) (by rfl) rfl ?_ ?_
              · go_simp
                (try simp only [i64_w])
                try rfl
              refine hK.out _ _ ⟨(by rw [ha.out]; exact putSel_upk 26 hb_ rfl rfl rfl), Q_HW, Q_HZ, Q_HX, fun h0_ => absurd ((hon 38 (by kernel_rfl)).symm.trans h0_) (by decide), Q_T1, fun h0_ => absurd ((hoff 41 (by kernel_rfl)).symm.trans h0_) (by decide), Q_R8, Q_R7⟩
            refine steps_cons ?_ ?_
            · rintro b a w' ⟨ha, Q_HW, Q_HZ, Q_HX, Q_T0, Q_T1, Q_T2, Q_R8, Q_R7⟩ hb_ hon hoff
              refine ⟨_, rfl, fun K hK => ?_⟩
              have e79 : a.tmps[79]? = some (.pointer (some ⟨g, j * 5, none⟩)) := by rw [ha]; exact putSel_on (e := (39, 79, .pointer (some ⟨g, j * 5, none⟩))) 26 rfl rfl (hon 39 (by kernel_rfl)) rfl
              replace ha := Aside0.mk ha
              have HW := Aside0.mk Q_HW
              have HZ := Aside0.mk Q_HZ
              have HX := Aside0.mk Q_HX
              have T1 := Aside0.mk (Q_T1 (hon 38 (by kernel_rfl)) (hoff 41 (by kernel_rfl)))
              have R8 := Aside0.mk Q_R8
              have R7 := Aside0.mk Q_R7
              refine value_ (w1 := w') (v := .pointer (some ⟨g, j * 5 + 4, none⟩)) (by rfl) rfl ?_ ?_
              · go_simp
                (try simp only [i64_w])
                try rfl
              refine hK.out _ _ ⟨(by rw [ha.out]; exact putSel_upk 27 hb_ rfl rfl rfl), Q_HW, Q_HZ, Q_HX, fun h0_ => absurd ((hon 38 (by kernel_rfl)).symm.trans h0_) (by decide), Q_T1, fun h0_ => absurd ((hoff 41 (by kernel_rfl)).symm.trans h0_) (by decide), Q_R8, Q_R7⟩
            refine steps_cons ?_ ?_
            · rintro b a w' ⟨ha, Q_HW, Q_HZ, Q_HX, Q_T0, Q_T1, Q_T2, Q_R8, Q_R7⟩ hb_ hon hoff
              refine ⟨_, rfl, fun K hK => ?_⟩
              have e80 : a.tmps[80]? = some (.pointer (some ⟨g, j * 5 + 4, none⟩)) := by rw [ha]; exact putSel_on (e := (40, 80, .pointer (some ⟨g, j * 5 + 4, none⟩))) 27 rfl rfl (hon 40 (by kernel_rfl)) rfl
              have e76 : a.tmps[76]? = some (.string (tx.extract 0 ct)) := by rw [ha]; exact putSel_on (e := (35, 76, .string (tx.extract 0 ct))) 23 rfl rfl (hon 35 (by kernel_rfl)) rfl
              replace ha := Aside0.mk ha
              have HW := Aside0.mk Q_HW
              have HZ := Aside0.mk Q_HZ
              have HX := Aside0.mk Q_HX
              have T1 := Aside0.mk (Q_T1 (hon 38 (by kernel_rfl)) hb_)
              have R8 := Aside0.mk Q_R8
              have R7 := Aside0.mk Q_R7
              have z0 := (co_4_cell T1.out HXK.out).1
              have f0 := (co_4_cell T1.out HXK.out).2
              have hl := World.block_lt_of_cell? w' _ z0
              refine skip_ (w1 := w'.setCell ⟨g, j * 5 + 4, none⟩ (.string (tx.extract 0 ct))) (by rfl) rfl (by go_simp) ?_
              refine hK.out _ _ ⟨(by rw [ha.out]; exact putSel_none (v := undef) rfl), below_set HW.out HGG.out, KeepBut.blk ((KeepBut.refl _ g none).set_ _ _) HZ.out HNZ.out (by simp), KeepBut.blk ((KeepBut.refl _ g none).set_ _ _) HX.out HNX.out (by simp), fun h0_ => absurd ((hon 38 (by kernel_rfl)).symm.trans h0_) (by decide), fun _ h1_ => absurd ((up_self b 41).symm.trans h1_) (by decide), fun _ => co_4_put T1.out HXK.out _, R_other R8.out rfl T1.out HLQ.out (by decide) ((KeepBut.refl _ g none).set_ _ _), R_other R7.out rfl T1.out HLQ.out (by decide) ((KeepBut.refl _ g none).set_ _ _)⟩
            exact steps_nil
          · rintro b a w' hall ⟨ha, Q_HW, Q_HZ, Q_HX, Q_T0, Q_T1, Q_T2, Q_R8, Q_R7⟩
            clear HW HX HZ R7 R8 T0
            have hb1_ := hall 1 (by kernel_rfl)
            have hb4_ := hall 4 (by kernel_rfl)
            have hb7_ := hall 7 (by kernel_rfl)
            have hb9_ := hall 9 (by kernel_rfl)
            have hb10_ := hall 10 (by kernel_rfl)
            have hb11_ := hall 11 (by kernel_rfl)
            have hb13_ := hall 13 (by kernel_rfl)
            have hb15_ := hall 15 (by kernel_rfl)
            have hb16_ := hall 16 (by kernel_rfl)
            have hb17_ := hall 17 (by kernel_rfl)
            have hb18_ := hall 18 (by kernel_rfl)
            have hb19_ := hall 19 (by kernel_rfl)
            have hb20_ := hall 20 (by kernel_rfl)
            have hb22_ := hall 22 (by kernel_rfl)
            have hb24_ := hall 24 (by kernel_rfl)
            have hb25_ := hall 25 (by kernel_rfl)
            have hb26_ := hall 26 (by kernel_rfl)
            have hb28_ := hall 28 (by kernel_rfl)
            have hb30_ := hall 30 (by kernel_rfl)
            have hb31_ := hall 31 (by kernel_rfl)
            have hb32_ := hall 32 (by kernel_rfl)
            have hb33_ := hall 33 (by kernel_rfl)
            have hb34_ := hall 34 (by kernel_rfl)
            have hb35_ := hall 35 (by kernel_rfl)
            have hb36_ := hall 36 (by kernel_rfl)
            have hb37_ := hall 37 (by kernel_rfl)
            have hb38_ := hall 38 (by kernel_rfl)
            have hb39_ := hall 39 (by kernel_rfl)
            have hb40_ := hall 40 (by kernel_rfl)
            have hb41_ := hall 41 (by kernel_rfl)
            subst ha
            simp only [putSel, hb1_, hb4_, hb7_, hb9_, hb10_, hb11_, hb13_, hb15_, hb16_, hb17_, hb18_, hb19_, hb20_, hb22_, hb24_, hb25_, hb26_, hb28_, hb30_, hb31_, hb32_, hb33_, hb34_, hb35_, hb36_, hb37_, hb38_, hb39_, hb40_, hb41_, if_true, Act.put, List.setIfInBounds_toArray, List.set_cons_zero, List.set_cons_succ]
            have HW := Aside0.mk Q_HW
            clear Q_HW
            have HZ := Aside0.mk Q_HZ
            clear Q_HZ
            have HX := Aside0.mk Q_HX
            clear Q_HX
            clear Q_T0
            clear Q_T1
            have T2 := Aside0.mk (Q_T2 hb41_)
            clear Q_T2
            have R8 := Aside0.mk Q_R8
            clear Q_R8
            have R7 := Aside0.mk Q_R7
            clear Q_R7
            clear hall hb1_ hb4_ hb7_ hb9_ hb10_ hb11_ hb13_ hb15_ hb16_ hb17_ hb18_ hb19_ hb20_ hb22_ hb24_ hb25_ hb26_ hb28_ hb30_ hb31_ hb32_ hb33_ hb34_ hb35_ hb36_ hb37_ hb38_ hb39_ hb40_ hb41_
            go_wp2
            go_roundw
            case rel => exact ⟨j + 1, _, _, _, by omega, by go_num, ⟨HSET.out⟩, HW, HZ, HX, T2, R7, R8⟩
            case measure => simp [intOf]; omega
        · obtain rfl : j = p5.length := by omega
          have HPL2 := HPL.out
          rw [half_all] at HPL2
          subst HPL2
          go_wp2_with fail
          go_meet
          case rel => exact ⟨n6, c6, HW, HZ, HX, R6, R7, R8⟩
    case rest =>
      obtain ⟨n6, c6, HW2, HZ2, HX2, R6a, R7a, R8a⟩ := hcut
      clear HW1 HZ1 HX1 R6 R7 R8
      have q7 := (blk_cell HX2.out 7).trans (rfl : _ = some (Value.slice n7 s5.length c7))
      go_upto_block 2 with fail
      clear q7
      go_cut [4] (fun _ wx => ∃ n7 c7, Aside0 (Below w.heap.size w wx) ∧ Aside0 (wx.heap[bz]? = some (.cells #[.int .i64 0, .int .i64 0, .int .i64 0, .int .i64 0, .int .i64 0, .int .i64 0, .slice none 0 0, .slice none 0 0, .slice none 0 0] 30 (0, 0))) ∧ Aside0 (wx.heap[bx]? = some (.cells #[.int .i64 zk, .int .i64 zc, .int .i64 zq, .int .i64 zh, .int .i64 za, .int .i64 zt, .slice n6 p5.length c6, .slice n7 s5.length c7, .slice n8 r20.length c8] 30 (0, 0))) ∧ Aside0 (Kd.R kCo 44 wx w.heap.size (fun _ => True) (.slice n6 p5.length c6) (p5.map cutC)) ∧ Aside0 (Kd.R kAt 59 wx w.heap.size (fun _ => True) (.slice n7 s5.length c7) (s5.map cutA)) ∧ Aside0 (Kd.R (Kd.int .u8) 5 wx w.heap.size (fun _ => True) (.slice n8 r20.length c8) r20))
      case first =>
        go_wp2_with fail
        go_loopw [85] (fun i wr => ∃ (j : Nat) (sl : List At) (n7 : Option Addr) (c7 : Nat), j ≤ s5.length ∧ i = .int .i64 (j : Int) ∧ Aside0 (sl = half cutA s5 j) ∧ Aside0 (Below w.heap.size w wr) ∧ Aside0 (wr.heap[bz]? = some (.cells #[.int .i64 0, .int .i64 0, .int .i64 0, .int .i64 0, .int .i64 0, .int .i64 0, .slice none 0 0, .slice none 0 0, .slice none 0 0] 30 (0, 0))) ∧ Aside0 (wr.heap[bx]? = some (.cells #[.int .i64 zk, .int .i64 zc, .int .i64 zq, .int .i64 zh, .int .i64 za, .int .i64 zt, .slice n6 p5.length c6, .slice n7 s5.length c7, .slice n8 r20.length c8] 30 (0, 0))) ∧ Aside0 (Kd.R kCo 44 wr w.heap.size (fun _ => True) (.slice n6 p5.length c6) (p5.map cutC)) ∧ Aside0 (Kd.R kAt 59 wr w.heap.size (fun _ => True) (.slice n7 s5.length c7) sl) ∧ Aside0 (Kd.R (Kd.int .u8) 5 wr w.heap.size (fun _ => True) (.slice n8 r20.length c8) r20)) (fun i _ => s5.length - (intOf i).toNat)
        case atStart => exact ⟨0, s5, n7, c7, Nat.zero_le _, rfl, ⟨(half_zero _ _).symm⟩, HW2, HZ2, HX2, R6a, R7a, R8a⟩
        case round =>
          obtain ⟨j, sl, n7, c7, hj, rfl, HPL, HW, HZ, HX, R6, R7, R8⟩ := hrel
          by_cases hlt : j < s5.length
          · have hl := half_len cutA s5 j
            rw [← HPL.out] at hl
            obtain ⟨g, rfl, cl7, hcl⟩ := R_some R7.out (by omega)
            have hg1 := Kd.R_base R7.out g rfl
            have HXJ0 := half_get cutA s5 j hlt
            have HST0 := half_set cutA s5 j hlt
            rw [← HPL.out] at HXJ0 HST0
            obtain ⟨x, hx⟩ : ∃ x, s5[j] = x := ⟨_, rfl⟩
            rw [hx] at HXJ0 HST0
            obtain ⟨nm, fb, nn, tx⟩ := x
            obtain ⟨cn, hcn⟩ : ∃ k, min nm.size 20 = k := ⟨_, rfl⟩
            obtain ⟨ct, hct⟩ : ∃ k, min tx.size 20 = k := ⟨_, rfl⟩
            have i1 : (if (20 : Int) < (nm.size : Int) then (20 : Int) else (nm.size : Int)) = (cn : Int) := by rw [← hcn]; split <;> omega
            have i2 : (if (20 : Int) < (tx.size : Int) then (20 : Int) else (tx.size : Int)) = (ct : Int) := by rw [← hct]; split <;> omega
            have hn1 : cn ≤ nm.size := by omega
            have hn2 : ct ≤ tx.size := by omega
            have HSET : Hid (((sl.set j (nm.extract 0 cn, fb, nn, tx)).set j (nm.extract 0 cn, fb, nn, tx.extract 0 ct)) = half cutA s5 (j + 1)) := Lib.hid (by rw [← HST0, List.set_set]; simp only [cutA, cutS, hcn, hct])
            have HXJ := Lib.hid HXJ0
            have HXK : Hid ((sl.set j (nm.extract 0 cn, fb, nn, tx))[j]? = some (nm.extract 0 cn, fb, nn, tx)) := Lib.hid (by rw [List.getElem?_set_self (by omega)])
            have HLP := Lib.hid (show 0 < sl.length by omega)
            have HLQ := Lib.hid (show 0 < (sl.set j (nm.extract 0 cn, fb, nn, tx)).length by rw [List.length_set]; omega)
            have HGG := Aside0.mk hg1
            have HNZ := Aside0.mk (show bz ≠ g by rintro rfl; rw [HZ.out] at hcl; simp at hcl)
            have HNX := Aside0.mk (show bx ≠ g by rintro rfl; rw [HX.out] at hcl; simp at hcl)
            have hj0 : (0 : Int) ≤ (j : Int) := by omega
            have hj1 : (j : Int) < (s5.length : Int) := by omega
            clear hl hcl hg1 HXJ0 HST0 hx hcn hct
            have T0 := R7
            clear R7
            go_upto_region 10 with fail
            refine start_ (n := 45) (S := fun w' => True) (ds := []) #[false, false, false, false, false, false, false, false, false, false, false, false, false, false, false, false, false, false, false, false, false, false, false, false, false, false, false, false, false, false, false, false, false, false, false, false, false, false, false, false, false, false, false, false, false] (by kernel_rfl) rfl rfl trivial (fun hHeld => ?_)
            refine with_tabW tm10Reg.tab10 tm10Reg.bits10 (fun HT_ HW_ => ?_)
            refine pure_ (i := 0) (N := some 88) (v := ?_) (a' := ?_) #[true, false, false, false, false, false, false, false, false, false, false, false, false, false, false, false, false, false, false, false, false, false, false, false, false, false, false, false, false, false, false, false, false, false, false, false, false, false, false, false, false, false, false, false, false] rfl rfl (any_of HT_.out (by kernel_rfl)) (fun _ _ _ h => h) (Or.inl ⟨by rfl, ?_⟩) ?_ ?_
            rotate_left
            · intro w'
              go_simp
              with_reducible rfl
            rotate_left
            · simp only [Act.put, List.setIfInBounds_toArray, List.set_cons_zero, List.set_cons_succ, i64_w, i32_w]
              rfl
            refine pure_ (i := 2) (N := some 90) (v := ?_) (a' := ?_) #[true, false, true, false, false, false, false, false, false, false, false, false, false, false, false, false, false, false, false, false, false, false, false, false, false, false, false, false, false, false, false, false, false, false, false, false, false, false, false, false, false, false, false, false, false] rfl rfl (any_of HT_.out (by kernel_rfl)) (fun _ _ _ h => h) (Or.inl ⟨by rfl, ?_⟩) ?_ ?_
            rotate_left
            · intro w'
              go_simp
              with_reducible rfl
            rotate_left
            · simp only [Act.put, List.setIfInBounds_toArray, List.set_cons_zero, List.set_cons_succ, i64_w, i32_w]
              rfl
            refine pure_ (i := 3) (N := some 91) (v := ?_) (a' := ?_) #[true, false, true, true, false, false, false, false, false, false, false, false, false, false, false, false, false, false, false, false, false, false, false, false, false, false, false, false, false, false, false, false, false, false, false, false, false, false, false, false, false, false, false, false, false] rfl rfl (any_of HT_.out (by kernel_rfl)) (fun _ _ _ h => h) (Or.inl ⟨by rfl, ?_⟩) ?_ ?_
            rotate_left
            · intro w'
              go_simp
              with_reducible rfl
            rotate_left
            · simp only [Act.put, List.setIfInBounds_toArray, List.set_cons_zero, List.set_cons_succ, i64_w, i32_w]
              rfl
            refine pure_ (i := 5) (N := some 93) (v := ?_) (a' := ?_) #[true, false, true, true, false, true, false, false, false, false, false, false, false, false, false, false, false, false, false, false, false, false, false, false, false, false, false, false, false, false, false, false, false, false, false, false, false, false, false, false, false, false, false, false, false] rfl rfl (any_of HT_.out (by kernel_rfl)) (fun _ _ _ h => h) (Or.inl ⟨by rfl, ?_⟩) ?_ ?_
            rotate_left
            · intro w'
              go_simp
              with_reducible rfl
            rotate_left
            · simp only [Act.put, List.setIfInBounds_toArray, List.set_cons_zero, List.set_cons_succ, i64_w, i32_w]
              rfl
            refine pure_ (i := 6) (N := some 94) (v := ?_) (a' := ?_) #[true, false, true, true, false, true, true, false, false, false, false, false, false, false, false, false, false, false, false, false, false, false, false, false, false, false, false, false, false, false, false, false, false, false, false, false, false, false, false, false, false, false, false, false, false] rfl rfl (any_of HT_.out (by kernel_rfl)) (fun _ _ _ h => h) (Or.inl ⟨by rfl, ?_⟩) ?_ ?_
            rotate_left
            · intro w'
              go_simp
              with_reducible rfl
            rotate_left
            · simp only [Act.put, List.setIfInBounds_toArray, List.set_cons_zero, List.set_cons_succ, i64_w, i32_w]
              rfl
            refine pure_ (i := 8) (N := some 96) (v := ?_) (a' := ?_) #[true, false, true, true, false, true, true, false, true, false, false, false, false, false, false, false, false, false, false, false, false, false, false, false, false, false, false, false, false, false, false, false, false, false, false, false, false, false, false, false, false, false, false, false, false] rfl rfl (any_of HT_.out (by kernel_rfl)) (fun _ _ _ h => h) (Or.inl ⟨by rfl, ?_⟩) ?_ ?_
            rotate_left
            · intro w'
              go_simp
              with_reducible rfl
            rotate_left
            · simp only [Act.put, List.setIfInBounds_toArray, List.set_cons_zero, List.set_cons_succ, i64_w, i32_w]
              rfl
            refine pure_ (i := 12) (N := some 100) (v := ?_) (a' := ?_) #[true, false, true, true, false, true, true, false, true, false, false, false, true, false, false, false, false, false, false, false, false, false, false, false, false, false, false, false, false, false, false, false, false, false, false, false, false, false, false, false, false, false, false, false, false] rfl rfl (any_of HT_.out (by kernel_rfl)) (fun _ _ _ h => h) (Or.inl ⟨by rfl, ?_⟩) ?_ ?_
            rotate_left
            · intro w'
              go_simp
              with_reducible rfl
            rotate_left
            · simp only [Act.put, List.setIfInBounds_toArray, List.set_cons_zero, List.set_cons_succ, i64_w, i32_w]
              rfl
            refine pure_ (i := 14) (N := some 102) (v := ?_) (a' := ?_) #[true, false, true, true, false, true, true, false, true, false, false, false, true, false, true, false, false, false, false, false, false, false, false, false, false, false, false, false, false, false, false, false, false, false, false, false, false, false, false, false, false, false, false, false, false] rfl rfl (any_of HT_.out (by kernel_rfl)) (fun _ _ _ h => h) (Or.inl ⟨by rfl, ?_⟩) ?_ ?_
            rotate_left
            · intro w'
              go_simp
              with_reducible rfl
            rotate_left
            · simp only [Act.put, List.setIfInBounds_toArray, List.set_cons_zero, List.set_cons_succ, i64_w, i32_w]
              rfl
            refine pure_ (i := 21) (N := some 109) (v := ?_) (a' := ?_) #[true, false, true, true, false, true, true, false, true, false, false, false, true, false, true, false, false, false, false, false, false, true, false, false, false, false, false, false, false, false, false, false, false, false, false, false, false, false, false, false, false, false, false, false, false] rfl rfl (any_of HT_.out (by kernel_rfl)) (fun _ _ _ h => h) (Or.inl ⟨by rfl, ?_⟩) ?_ ?_
            rotate_left
            · intro w'
              go_simp
              with_reducible rfl
            rotate_left
            · simp only [Act.put, List.setIfInBounds_toArray, List.set_cons_zero, List.set_cons_succ, i64_w, i32_w]
              rfl
            refine pure_ (i := 23) (N := some 111) (v := ?_) (a' := ?_) #[true, false, true, true, false, true, true, false, true, false, false, false, true, false, true, false, false, false, false, false, false, true, false, true, false, false, false, false, false, false, false, false, false, false, false, false, false, false, false, false, false, false, false, false, false] rfl rfl (any_of HT_.out (by kernel_rfl)) (fun _ _ _ h => h) (Or.inl ⟨by rfl, ?_⟩) ?_ ?_
            rotate_left
            · intro w'
              go_simp
              with_reducible rfl
            rotate_left
            · simp only [Act.put, List.setIfInBounds_toArray, List.set_cons_zero, List.set_cons_succ, i64_w, i32_w]
              rfl
            refine pure_ (i := 28) (N := some 116) (v := ?_) (a' := ?_) #[true, false, true, true, false, true, true, false, true, false, false, false, true, false, true, false, false, false, false, false, false, true, false, true, false, false, false, false, true, false, false, false, false, false, false, false, false, false, false, false, false, false, false, false, false] rfl rfl (any_of HT_.out (by kernel_rfl)) (fun _ _ _ h => h) (Or.inl ⟨by rfl, ?_⟩) ?_ ?_
            rotate_left
            · intro w'
              go_simp
              with_reducible rfl
            rotate_left
            · simp only [Act.put, List.setIfInBounds_toArray, List.set_cons_zero, List.set_cons_succ, i64_w, i32_w]
              rfl
            refine pure_ (i := 30) (N := some 118) (v := ?_) (a' := ?_) #[true, false, true, true, false, true, true, false, true, false, false, false, true, false, true, false, false, false, false, false, false, true, false, true, false, false, false, false, true, false, true, false, false, false, false, false, false, false, false, false, false, false, false, false, false] rfl rfl (any_of HT_.out (by kernel_rfl)) (fun _ _ _ h => h) (Or.inl ⟨by rfl, ?_⟩) ?_ ?_
            rotate_left
            · intro w'
              go_simp
              with_reducible rfl
            rotate_left
            · simp only [Act.put, List.setIfInBounds_toArray, List.set_cons_zero, List.set_cons_succ, i64_w, i32_w]
              rfl
            refine inv_at [1, 4, 7, 9, 10, 11, 13, 15, 16, 17, 18, 19, 20, 22, 24, 25, 26, 27, 29, 31, 32, 33, 34, 35, 36, 37, 38, 39, 40, 41, 42, 43, 44] (fun a0_ b a w' => a = putSel a0_ b [(1, 89, .slice (some ⟨g, 0, none⟩) s5.length c7), (4, 92, .slice (some ⟨g, 0, none⟩) s5.length c7), (7, 95, .slice (some ⟨g, 0, none⟩) s5.length c7), (9, 97, .pointer (some ⟨g, j * 4, none⟩)), (10, 98, .pointer (some ⟨g, j * 4, none⟩)), (11, 99, .string nm), (13, 101, .slice (some ⟨g, 0, none⟩) s5.length c7), (15, 103, .pointer (some ⟨g, j * 4, none⟩)), (16, 104, .pointer (some ⟨g, j * 4, none⟩)), (17, 105, .string nm), (18, 106, .int .i64 (nm.size : Int)), (19, 107, .int .i64 (cn : Int)), (20, 108, .string (nm.extract 0 cn)), (22, 110, .slice (some ⟨g, 0, none⟩) s5.length c7), (24, 112, .pointer (some ⟨g, j * 4, none⟩)), (25, 113, .pointer (some ⟨g, j * 4 + 1, none⟩)), (26, 114, .pointer (some ⟨g, j * 4 + 3, none⟩)), (27, 115, .string tx), (29, 117, .slice (some ⟨g, 0, none⟩) s5.length c7), (31, 119, .pointer (some ⟨g, j * 4, none⟩)), (32, 120, .pointer (some ⟨g, j * 4 + 1, none⟩)), (33, 121, .pointer (some ⟨g, j * 4 + 3, none⟩)), (34, 122, .string tx), (35, 123, .int .i64 (tx.size : Int)), (36, 124, .int .i64 (ct : Int)), (37, 125, .string (tx.extract 0 ct)), (38, 126, .pointer (some ⟨g, j * 4, none⟩)), (39, 127, .pointer (some ⟨g, j * 4, none⟩)), (41, 128, .pointer (some ⟨g, j * 4, none⟩)), (42, 129, .pointer (some ⟨g, j * 4 + 1, none⟩)), (43, 130, .pointer (some ⟨g, j * 4 + 3, none⟩))] ∧ (Below w.heap.size w w') ∧ (w'.heap[bz]? = some (.cells #[.int .i64 0, .int .i64 0, .int .i64 0, .int .i64 0, .int .i64 0, .int .i64 0, .slice none 0 0, .slice none 0 0, .slice none 0 0] 30 (0, 0))) ∧ (w'.heap[bx]? = some (.cells #[.int .i64 zk, .int .i64 zc, .int .i64 zq, .int .i64 zh, .int .i64 za, .int .i64 zt, .slice n6 p5.length c6, .slice (some ⟨g, 0, none⟩) s5.length c7, .slice n8 r20.length c8] 30 (0, 0))) ∧ (b 40 = false → Kd.R kAt 59 w' w.heap.size (fun _ => True) (.slice (some ⟨g, 0, none⟩) s5.length c7) sl) ∧ (b 40 = true → b 44 = false → Kd.R kAt 59 w' w.heap.size (fun _ => True) (.slice (some ⟨g, 0, none⟩) s5.length c7) (sl.set j (nm.extract 0 cn, fb, nn, tx))) ∧ (b 44 = true → Kd.R kAt 59 w' w.heap.size (fun _ => True) (.slice (some ⟨g, 0, none⟩) s5.length c7) ((sl.set j (nm.extract 0 cn, fb, nn, tx)).set j (nm.extract 0 cn, fb, nn, tx.extract 0 ct))) ∧ (Kd.R (Kd.int .u8) 5 w' w.heap.size (fun _ => True) (.slice n8 r20.length c8) r20) ∧ (Kd.R kCo 44 w' w.heap.size (fun _ => True) (.slice n6 p5.length c6) (p5.map cutC))) HT_.out HW_.out (by kernel_rfl) (by kernel_rfl) ?_ ?_ ?_
            · exact ⟨by simp only [putSel, Bool.false_eq_true, if_false], below_drew HW.out, HZ.out, HX.out, fun _ => Kd.R_drew T0.out, fun h_ => absurd h_ (by decide), fun h_ => absurd h_ (by decide), Kd.R_drew R8.out, Kd.R_drew R6.out⟩
            · skip
              clear HW HX HZ R6 R8 T0
              refine steps_cons ?_ ?_
              · rintro b a w' ⟨ha, Q_HW, Q_HZ, Q_HX, Q_T0, Q_T1, Q_T2, Q_R8, Q_R6⟩ hb_ hon hoff
                refine ⟨_, rfl, fun K hK => ?_⟩
                have e88 : a.tmps[88]? = some (.pointer (some ⟨bx, 7, none⟩)) := by rw [ha]; exact (putSel_off rfl).trans rfl
                replace ha := Aside0.mk ha
                have HW := Aside0.mk Q_HW
                have HZ := Aside0.mk Q_HZ
                have HX := Aside0.mk Q_HX
                have T0 := Aside0.mk (Q_T0 (hoff 40 (by kernel_rfl)))
                have R8 := Aside0.mk Q_R8
                have R6 := Aside0.mk Q_R6
                have q0 := (blk_cell HX.out 7).trans (rfl : _ = some (Value.slice (some ⟨g, 0, none⟩) s5.length c7))
                refine value_ (w1 := w') (v := .slice (some ⟨g, 0, none⟩) s5.length c7) (by rfl) rfl ?_ ?_
                · go_simp
                  (try simp only [i64_w])
                  try rfl
                refine hK.out _ _ ⟨(by rw [ha.out]; exact putSel_upk 0 hb_ rfl rfl rfl), Q_HW, Q_HZ, Q_HX, Q_T0, fun h0_ _ => absurd ((hoff 40 (by kernel_rfl)).symm.trans h0_) (by decide), fun h0_ => absurd ((hoff 44 (by kernel_rfl)).symm.trans h0_) (by decide), Q_R8, Q_R6⟩
              refine steps_cons ?_ ?_
              · rintro b a w' ⟨ha, Q_HW, Q_HZ, Q_HX, Q_T0, Q_T1, Q_T2, Q_R8, Q_R6⟩ hb_ hon hoff
                refine ⟨_, rfl, fun K hK => ?_⟩
                have e91 : a.tmps[91]? = some (.pointer (some ⟨bx, 7, none⟩)) := by rw [ha]; exact (putSel_off rfl).trans rfl
                replace ha := Aside0.mk ha
                have HW := Aside0.mk Q_HW
                have HZ := Aside0.mk Q_HZ
                have HX := Aside0.mk Q_HX
                have R8 := Aside0.mk Q_R8
                have R6 := Aside0.mk Q_R6
                have q0 := (blk_cell HX.out 7).trans (rfl : _ = some (Value.slice (some ⟨g, 0, none⟩) s5.length c7))
                refine value_ (w1 := w') (v := .slice (some ⟨g, 0, none⟩) s5.length c7) (by rfl) rfl ?_ ?_
                · go_simp
                  (try simp only [i64_w])
                  try rfl
                refine hK.out _ _ ⟨(by rw [ha.out]; exact putSel_upk 1 hb_ rfl rfl rfl), Q_HW, Q_HZ, Q_HX, Q_T0, Q_T1, fun h0_ => absurd ((hoff 44 (by kernel_rfl)).symm.trans h0_) (by decide), Q_R8, Q_R6⟩
              refine steps_cons ?_ ?_
              · rintro b a w' ⟨ha, Q_HW, Q_HZ, Q_HX, Q_T0, Q_T1, Q_T2, Q_R8, Q_R6⟩ hb_ hon hoff
                refine ⟨_, rfl, fun K hK => ?_⟩
                have e94 : a.tmps[94]? = some (.pointer (some ⟨bx, 7, none⟩)) := by rw [ha]; exact (putSel_off rfl).trans rfl
                replace ha := Aside0.mk ha
                have HW := Aside0.mk Q_HW
                have HZ := Aside0.mk Q_HZ
                have HX := Aside0.mk Q_HX
                have T0 := Aside0.mk (Q_T0 (hoff 40 (by kernel_rfl)))
                have R8 := Aside0.mk Q_R8
                have R6 := Aside0.mk Q_R6
                have q0 := (blk_cell HX.out 7).trans (rfl : _ = some (Value.slice (some ⟨g, 0, none⟩) s5.length c7))
                refine value_ (w1 := w') (v := .slice (some ⟨g, 0, none⟩) s5.length c7) (by rfl) rfl ?_ ?_
                · go_simp
                  (try simp only [i64_w])
                  try rfl
                refine hK.out _ _ ⟨(by rw [ha.out]; exact putSel_upk 2 hb_ rfl rfl rfl), Q_HW, Q_HZ, Q_HX, Q_T0, fun h0_ _ => absurd ((hoff 40 (by kernel_rfl)).symm.trans h0_) (by decide), fun h0_ => absurd ((hoff 44 (by kernel_rfl)).symm.trans h0_) (by decide), Q_R8, Q_R6⟩
              refine steps_cons ?_ ?_
              · rintro b a w' ⟨ha, Q_HW, Q_HZ, Q_HX, Q_T0, Q_T1, Q_T2, Q_R8, Q_R6⟩ hb_ hon hoff
                refine ⟨_, rfl, fun K hK => ?_⟩
                have e95 : a.tmps[95]? = some (.slice (some ⟨g, 0, none⟩) s5.length c7) := by rw [ha]; exact putSel_on (e := (7, 95, .slice (some ⟨g, 0, none⟩) s5.length c7)) 2 rfl rfl (hon 7 (by kernel_rfl)) rfl
                have e96 : a.tmps[96]? = some (.int .i64 (j : Int)) := by rw [ha]; exact (putSel_off rfl).trans rfl
                replace ha := Aside0.mk ha
                have HW := Aside0.mk Q_HW
                have HZ := Aside0.mk Q_HZ
                have HX := Aside0.mk Q_HX
                have T0 := Aside0.mk (Q_T0 (hoff 40 (by kernel_rfl)))
                have R8 := Aside0.mk Q_R8
                have R6 := Aside0.mk Q_R6
                refine value_ (w1 := w') (v := .pointer (some ⟨g, j * 4, none⟩)) (by rfl) rfl ?_ ?_
                · go_simp
                  (try simp only [i64_w])
                  try rfl
                refine hK.out _ _ ⟨(by rw [ha.out]; exact putSel_upk 3 hb_ rfl rfl rfl), Q_HW, Q_HZ, Q_HX, Q_T0, fun h0_ _ => absurd ((hoff 40 (by kernel_rfl)).symm.trans h0_) (by decide), fun h0_ => absurd ((hoff 44 (by kernel_rfl)).symm.trans h0_) (by decide), Q_R8, Q_R6⟩
              refine steps_cons ?_ ?_
              · rintro b a w' ⟨ha, Q_HW, Q_HZ, Q_HX, Q_T0, Q_T1, Q_T2, Q_R8, Q_R6⟩ hb_ hon hoff
                refine ⟨_, rfl, fun K hK => ?_⟩
                have e97 : a.tmps[97]? = some (.pointer (some ⟨g, j * 4, none⟩)) := by rw [ha]; exact putSel_on (e := (9, 97, .pointer (some ⟨g, j * 4, none⟩))) 3 rfl rfl (hon 9 (by kernel_rfl)) rfl
                replace ha := Aside0.mk ha
                have HW := Aside0.mk Q_HW
                have HZ := Aside0.mk Q_HZ
                have HX := Aside0.mk Q_HX
                have T0 := Aside0.mk (Q_T0 (hoff 40 (by kernel_rfl)))
                have R8 := Aside0.mk Q_R8
                have R6 := Aside0.mk Q_R6
                refine value_ (w1 := w') (v := .pointer (some ⟨g, j * 4, none⟩)) (by rfl) rfl ?_ ?_
                · go_simp
                  (try simp only [i64_w])
                  try rfl
                refine hK.out _ _ ⟨(by rw [ha.out]; exact putSel_upk 4 hb_ rfl rfl rfl), Q_HW, Q_HZ, Q_HX, Q_T0, fun h0_ _ => absurd ((hoff 40 (by kernel_rfl)).symm.trans h0_) (by decide), fun h0_ => absurd ((hoff 44 (by kernel_rfl)).symm.trans h0_) (by decide), Q_R8, Q_R6⟩
              refine steps_cons ?_ ?_
              · rintro b a w' ⟨ha, Q_HW, Q_HZ, Q_HX, Q_T0, Q_T1, Q_T2, Q_R8, Q_R6⟩ hb_ hon hoff
                refine ⟨_, rfl, fun K hK => ?_⟩
                have e98 : a.tmps[98]? = some (.pointer (some ⟨g, j * 4, none⟩)) := by rw [ha]; exact putSel_on (e := (10, 98, .pointer (some ⟨g, j * 4, none⟩))) 4 rfl rfl (hon 10 (by kernel_rfl)) rfl
                replace ha := Aside0.mk ha
                have HW := Aside0.mk Q_HW
                have HZ := Aside0.mk Q_HZ
                have HX := Aside0.mk Q_HX
                have T0 := Aside0.mk (Q_T0 (hoff 40 (by kernel_rfl)))
                have R8 := Aside0.mk Q_R8
                have R6 := Aside0.mk Q_R6
                have q0 := (at_0_cell T0.out HXJ.out).1
                refine value_ (w1 := w') (v := .string nm) (by rfl) rfl ?_ ?_
                · go_simp
                  (try simp only [i64_w])
                  try rfl
                refine hK.out _ _ ⟨(by rw [ha.out]; exact putSel_upk 5 hb_ rfl rfl rfl), Q_HW, Q_HZ, Q_HX, Q_T0, fun h0_ _ => absurd ((hoff 40 (by kernel_rfl)).symm.trans h0_) (by decide), fun h0_ => absurd ((hoff 44 (by kernel_rfl)).symm.trans h0_) (by decide), Q_R8, Q_R6⟩
              refine steps_cons ?_ ?_
              · rintro b a w' ⟨ha, Q_HW, Q_HZ, Q_HX, Q_T0, Q_T1, Q_T2, Q_R8, Q_R6⟩ hb_ hon hoff
                refine ⟨_, rfl, fun K hK => ?_⟩
                have e100 : a.tmps[100]? = some (.pointer (some ⟨bx, 7, none⟩)) := by rw [ha]; exact (putSel_off rfl).trans rfl
                replace ha := Aside0.mk ha
                have HW := Aside0.mk Q_HW
                have HZ := Aside0.mk Q_HZ
                have HX := Aside0.mk Q_HX
                have T0 := Aside0.mk (Q_T0 (hoff 40 (by kernel_rfl)))
                have R8 := Aside0.mk Q_R8
                have R6 := Aside0.mk Q_R6
                have q0 := (blk_cell HX.out 7).trans (rfl : _ = some (Value.slice (some ⟨g, 0, none⟩) s5.length c7))
                refine value_ (w1 := w') (v := .slice (some ⟨g, 0, none⟩) s5.length c7) (by rfl) rfl ?_ ?_
                · go_simp
                  (try simp only [i64_w])
                  try rfl
                refine hK.out _ _ ⟨(by rw [ha.out]; exact putSel_upk 6 hb_ rfl rfl rfl), Q_HW, Q_HZ, Q_HX, Q_T0, fun h0_ _ => absurd ((hoff 40 (by kernel_rfl)).symm.trans h0_) (by decide), fun h0_ => absurd ((hoff 44 (by kernel_rfl)).symm.trans h0_) (by decide), Q_R8, Q_R6⟩
              refine steps_cons ?_ ?_
              · rintro b a w' ⟨ha, Q_HW, Q_HZ, Q_HX, Q_T0, Q_T1, Q_T2, Q_R8, Q_R6⟩ hb_ hon hoff
                refine ⟨_, rfl, fun K hK => ?_⟩
                have e101 : a.tmps[101]? = some (.slice (some ⟨g, 0, none⟩) s5.length c7) := by rw [ha]; exact putSel_on (e := (13, 101, .slice (some ⟨g, 0, none⟩) s5.length c7)) 6 rfl rfl (hon 13 (by kernel_rfl)) rfl
                have e102 : a.tmps[102]? = some (.int .i64 (j : Int)) := by rw [ha]; exact (putSel_off rfl).trans rfl
                replace ha := Aside0.mk ha
                have HW := Aside0.mk Q_HW
                have HZ := Aside0.mk Q_HZ
                have HX := Aside0.mk Q_HX
                have T0 := Aside0.mk (Q_T0 (hoff 40 (by kernel_rfl)))
                have R8 := Aside0.mk Q_R8
                have R6 := Aside0.mk Q_R6
                refine value_ (w1 := w') (v := .pointer (some ⟨g, j * 4, none⟩)) (by rfl) rfl ?_ ?_
                · go_simp
                  (try simp only [i64_w])
                  try rfl
                refine hK.out _ _ ⟨(by rw [ha.out]; exact putSel_upk 7 hb_ rfl rfl rfl), Q_HW, Q_HZ, Q_HX, Q_T0, fun h0_ _ => absurd ((hoff 40 (by kernel_rfl)).symm.trans h0_) (by decide), fun h0_ => absurd ((hoff 44 (by kernel_rfl)).symm.trans h0_) (by decide), Q_R8, Q_R6⟩
              refine steps_cons ?_ ?_
              · rintro b a w' ⟨ha, Q_HW, Q_HZ, Q_HX, Q_T0, Q_T1, Q_T2, Q_R8, Q_R6⟩ hb_ hon hoff
                refine ⟨_, rfl, fun K hK => ?_⟩
                have e103 : a.tmps[103]? = some (.pointer (some ⟨g, j * 4, none⟩)) := by rw [ha]; exact putSel_on (e := (15, 103, .pointer (some ⟨g, j * 4, none⟩))) 7 rfl rfl (hon 15 (by kernel_rfl)) rfl
                replace ha := Aside0.mk ha
                have HW := Aside0.mk Q_HW
                have HZ := Aside0.mk Q_HZ
                have HX := Aside0.mk Q_HX
                have T0 := Aside0.mk (Q_T0 (hoff 40 (by kernel_rfl)))
                have R8 := Aside0.mk Q_R8
                have R6 := Aside0.mk Q_R6
                refine value_ (w1 := w') (v := .pointer (some ⟨g, j * 4, none⟩)) (by rfl) rfl ?_ ?_
                · go_simp
                  (try simp only [i64_w])
                  try rfl
                refine hK.out _ _ ⟨(by rw [ha.out]; exact putSel_upk 8 hb_ rfl rfl rfl), Q_HW, Q_HZ, Q_HX, Q_T0, fun h0_ _ => absurd ((hoff 40 (by kernel_rfl)).symm.trans h0_) (by decide), fun h0_ => absurd ((hoff 44 (by kernel_rfl)).symm.trans h0_) (by decide), Q_R8, Q_R6⟩
              refine steps_cons ?_ ?_
              · rintro b a w' ⟨ha, Q_HW, Q_HZ, Q_HX, Q_T0, Q_T1, Q_T2, Q_R8, Q_R6⟩ hb_ hon hoff
                refine ⟨_, rfl, fun K hK => ?_⟩
                have e104 : a.tmps[104]? = some (.pointer (some ⟨g, j * 4, none⟩)) := by rw [ha]; exact putSel_on (e := (16, 104, .pointer (some ⟨g, j * 4, none⟩))) 8 rfl rfl (hon 16 (by kernel_rfl)) rfl
                replace ha := Aside0.mk ha
                have HW := Aside0.mk Q_HW
                have HZ := Aside0.mk Q_HZ
                have HX := Aside0.mk Q_HX
                have T0 := Aside0.mk (Q_T0 (hoff 40 (by kernel_rfl)))
                have R8 := Aside0.mk Q_R8
                have R6 := Aside0.mk Q_R6
                have q0 := (at_0_cell T0.out HXJ.out).1
                refine value_ (w1 := w') (v := .string nm) (by rfl) rfl ?_ ?_
                · go_simp
                  (try simp only [i64_w])
                  try rfl
                refine hK.out _ _ ⟨(by rw [ha.out]; exact putSel_upk 9 hb_ rfl rfl rfl), Q_HW, Q_HZ, Q_HX, Q_T0, fun h0_ _ => absurd ((hoff 40 (by kernel_rfl)).symm.trans h0_) (by decide), fun h0_ => absurd ((hoff 44 (by kernel_rfl)).symm.trans h0_) (by decide), Q_R8, Q_R6⟩
              refine steps_cons ?_ ?_
              · rintro b a w' ⟨ha, Q_HW, Q_HZ, Q_HX, Q_T0, Q_T1, Q_T2, Q_R8, Q_R6⟩ hb_ hon hoff
                refine ⟨_, rfl, fun K hK => ?_⟩
                have e105 : a.tmps[105]? = some (.string nm) := by rw [ha]; exact putSel_on (e := (17, 105, .string nm)) 9 rfl rfl (hon 17 (by kernel_rfl)) rfl
                replace ha := Aside0.mk ha
                have HW := Aside0.mk Q_HW
                have HZ := Aside0.mk Q_HZ
                have HX := Aside0.mk Q_HX
                have T0 := Aside0.mk (Q_T0 (hoff 40 (by kernel_rfl)))
                have R8 := Aside0.mk Q_R8
                have R6 := Aside0.mk Q_R6
                refine value_ (w1 := w') (v := .int .i64 (nm.size : Int)) (by rfl) rfl ?_ ?_
                · go_simp
                  (try simp only [i64_w])
                  try rfl
                refine hK.out _ _ ⟨(by rw [ha.out]; exact putSel_upk 10 hb_ rfl rfl rfl), Q_HW, Q_HZ, Q_HX, Q_T0, fun h0_ _ => absurd ((hoff 40 (by kernel_rfl)).symm.trans h0_) (by decide), fun h0_ => absurd ((hoff 44 (by kernel_rfl)).symm.trans h0_) (by decide), Q_R8, Q_R6⟩
              refine steps_cons ?_ ?_
              · rintro b a w' ⟨ha, Q_HW, Q_HZ, Q_HX, Q_T0, Q_T1, Q_T2, Q_R8, Q_R6⟩ hb_ hon hoff
                refine ⟨_, rfl, fun K hK => ?_⟩
                have e106 : a.tmps[106]? = some (.int .i64 (nm.size : Int)) := by rw [ha]; exact putSel_on (e := (18, 106, .int .i64 (nm.size : Int))) 10 rfl rfl (hon 18 (by kernel_rfl)) rfl
                replace ha := Aside0.mk ha
                have HW := Aside0.mk Q_HW
                have HZ := Aside0.mk Q_HZ
                have HX := Aside0.mk Q_HX
                have T0 := Aside0.mk (Q_T0 (hoff 40 (by kernel_rfl)))
                have R8 := Aside0.mk Q_R8
                have R6 := Aside0.mk Q_R6
                refine value_ (w1 := w') (v := .int .i64 (cn : Int)) (by rfl) rfl ?_ ?_
                · go_simp
                  (try simp only [i64_w])
                  try rfl
                refine hK.out _ _ ⟨(by rw [ha.out]; exact putSel_upk 11 hb_ rfl rfl rfl), Q_HW, Q_HZ, Q_HX, Q_T0, fun h0_ _ => absurd ((hoff 40 (by kernel_rfl)).symm.trans h0_) (by decide), fun h0_ => absurd ((hoff 44 (by kernel_rfl)).symm.trans h0_) (by decide), Q_R8, Q_R6⟩
              refine steps_cons ?_ ?_
              · rintro b a w' ⟨ha, Q_HW, Q_HZ, Q_HX, Q_T0, Q_T1, Q_T2, Q_R8, Q_R6⟩ hb_ hon hoff
                refine ⟨_, rfl, fun K hK => ?_⟩
                have e99 : a.tmps[99]? = some (.string nm) := by rw [ha]; exact putSel_on (e := (11, 99, .string nm)) 5 rfl rfl (hon 11 (by kernel_rfl)) rfl
                have e107 : a.tmps[107]? = some (.int .i64 (cn : Int)) := by rw [ha]; exact putSel_on (e := (19, 107, .int .i64 (cn : Int))) 11 rfl rfl (hon 19 (by kernel_rfl)) rfl
                replace ha := Aside0.mk ha
                have HW := Aside0.mk Q_HW
                have HZ := Aside0.mk Q_HZ
                have HX := Aside0.mk Q_HX
                have T0 := Aside0.mk (Q_T0 (hoff 40 (by kernel_rfl)))
                have R8 := Aside0.mk Q_R8
                have R6 := Aside0.mk Q_R6
                refine value_ (w1 := w') (v := .string (nm.extract 0 cn)) (by rfl) rfl ?_ ?_
                · go_simp
                  (try simp only [i64_w])
                  try rfl
                refine hK.out _ _ ⟨(by rw [ha.out]; exact putSel_upk 12 hb_ rfl rfl rfl), Q_HW, Q_HZ, Q_HX, Q_T0, fun h0_ _ => absurd ((hoff 40 (by kernel_rfl)).symm.trans h0_) (by decide), fun h0_ => absurd ((hoff 44 (by kernel_rfl)).symm.trans h0_) (by decide), Q_R8, Q_R6⟩
              refine steps_cons ?_ ?_
              · rintro b a w' ⟨ha, Q_HW, Q_HZ, Q_HX, Q_T0, Q_T1, Q_T2, Q_R8, Q_R6⟩ hb_ hon hoff
                refine ⟨_, rfl, fun K hK => ?_⟩
                have e109 : a.tmps[109]? = some (.pointer (some ⟨bx, 7, none⟩)) := by rw [ha]; exact (putSel_off rfl).trans rfl
                replace ha := Aside0.mk ha
                have HW := Aside0.mk Q_HW
                have HZ := Aside0.mk Q_HZ
                have HX := Aside0.mk Q_HX
                have T0 := Aside0.mk (Q_T0 (hoff 40 (by kernel_rfl)))
                have R8 := Aside0.mk Q_R8
                have R6 := Aside0.mk Q_R6
                have q0 := (blk_cell HX.out 7).trans (rfl : _ = some (Value.slice (some ⟨g, 0, none⟩) s5.length c7))
                refine value_ (w1 := w') (v := .slice (some ⟨g, 0, none⟩) s5.length c7) (by rfl) rfl ?_ ?_
                · go_simp
                  (try simp only [i64_w])
                  try rfl
                refine hK.out _ _ ⟨(by rw [ha.out]; exact putSel_upk 13 hb_ rfl rfl rfl), Q_HW, Q_HZ, Q_HX, Q_T0, fun h0_ _ => absurd ((hoff 40 (by kernel_rfl)).symm.trans h0_) (by decide), fun h0_ => absurd ((hoff 44 (by kernel_rfl)).symm.trans h0_) (by decide), Q_R8, Q_R6⟩
              refine steps_cons ?_ ?_
              · rintro b a w' ⟨ha, Q_HW, Q_HZ, Q_HX, Q_T0, Q_T1, Q_T2, Q_R8, Q_R6⟩ hb_ hon hoff
                refine ⟨_, rfl, fun K hK => ?_⟩
                have e110 : a.tmps[110]? = some (.slice (some ⟨g, 0, none⟩) s5.length c7) := by rw [ha]; exact putSel_on (e := (22, 110, .slice (some ⟨g, 0, none⟩) s5.length c7)) 13 rfl rfl (hon 22 (by kernel_rfl)) rfl
                have e111 : a.tmps[111]? = some (.int .i64 (j : Int)) := by rw [ha]; exact (putSel_off rfl).trans rfl
                replace ha := Aside0.mk ha
                have HW := Aside0.mk Q_HW
                have HZ := Aside0.mk Q_HZ
                have HX := Aside0.mk Q_HX
                have T0 := Aside0.mk (Q_T0 (hoff 40 (by kernel_rfl)))
                have R8 := Aside0.mk Q_R8
                have R6 := Aside0.mk Q_R6
                refine value_ (w1 := w') (v := .pointer (some ⟨g, j * 4, none⟩)) (by rfl) rfl ?_ ?_
                · go_simp
                  (try simp only [i64_w])
                  try rfl
                refine hK.out _ _ ⟨(by rw [ha.out]; exact putSel_upk 14 hb_ rfl rfl rfl), Q_HW, Q_HZ, Q_HX, Q_T0, fun h0_ _ => absurd ((hoff 40 (by kernel_rfl)).symm.trans h0_) (by decide), fun h0_ => absurd ((hoff 44 (by kernel_rfl)).symm.trans h0_) (by decide), Q_R8, Q_R6⟩
              refine steps_cons ?_ ?_
              · rintro b a w' ⟨ha, Q_HW, Q_HZ, Q_HX, Q_T0, Q_T1, Q_T2, Q_R8, Q_R6⟩ hb_ hon hoff
                refine ⟨_, rfl, fun K hK => ?_⟩
                have e112 : a.tmps[112]? = some (.pointer (some ⟨g, j * 4, none⟩)) := by rw [ha]; exact putSel_on (e := (24, 112, .pointer (some ⟨g, j * 4, none⟩))) 14 rfl rfl (hon 24 (by kernel_rfl)) rfl
                replace ha := Aside0.mk ha
                have HW := Aside0.mk Q_HW
                have HZ := Aside0.mk Q_HZ
                have HX := Aside0.mk Q_HX
                have T0 := Aside0.mk (Q_T0 (hoff 40 (by kernel_rfl)))
                have R8 := Aside0.mk Q_R8
                have R6 := Aside0.mk Q_R6
                refine value_ (w1 := w') (v := .pointer (some ⟨g, j * 4 + 1, none⟩)) (by rfl) rfl ?_ ?_
                · go_simp
                  (try simp only [i64_w])
                  try rfl
                refine hK.out _ _ ⟨(by rw [ha.out]; exact putSel_upk 15 hb_ rfl rfl rfl), Q_HW, Q_HZ, Q_HX, Q_T0, fun h0_ _ => absurd ((hoff 40 (by kernel_rfl)).symm.trans h0_) (by decide), fun h0_ => absurd ((hoff 44 (by kernel_rfl)).symm.trans h0_) (by decide), Q_R8, Q_R6⟩
              refine steps_cons ?_ ?_
              · rintro b a w' ⟨ha, Q_HW, Q_HZ, Q_HX, Q_T0, Q_T1, Q_T2, Q_R8, Q_R6⟩ hb_ hon hoff
                refine ⟨_, rfl, fun K hK => ?_⟩
                have e113 : a.tmps[113]? = some (.pointer (some ⟨g, j * 4 + 1, none⟩)) := by rw [ha]; exact putSel_on (e := (25, 113, .pointer (some ⟨g, j * 4 + 1, none⟩))) 15 rfl rfl (hon 25 (by kernel_rfl)) rfl
                replace ha := Aside0.mk ha
                have HW := Aside0.mk Q_HW
                have HZ := Aside0.mk Q_HZ
                have HX := Aside0.mk Q_HX
                have T0 := Aside0.mk (Q_T0 (hoff 40 (by kernel_rfl)))
                have R8 := Aside0.mk Q_R8
                have R6 := Aside0.mk Q_R6
                refine value_ (w1 := w') (v := .pointer (some ⟨g, j * 4 + 3, none⟩)) (by rfl) rfl ?_ ?_
                · go_simp
                  (try simp only [i64_w])
                  try rfl
                refine hK.out _ _ ⟨(by rw [ha.out]; exact putSel_upk 16 hb_ rfl rfl rfl), Q_HW, Q_HZ, Q_HX, Q_T0, fun h0_ _ => absurd ((hoff 40 (by kernel_rfl)).symm.trans h0_) (by decide), fun h0_ => absurd ((hoff 44 (by kernel_rfl)).symm.trans h0_) (by decide), Q_R8, Q_R6⟩
              refine steps_cons ?_ ?_
              · rintro b a w' ⟨ha, Q_HW, Q_HZ, Q_HX, Q_T0, Q_T1, Q_T2, Q_R8, Q_R6⟩ hb_ hon hoff
                refine ⟨_, rfl, fun K hK => ?_⟩
                have e114 : a.tmps[114]? = some (.pointer (some ⟨g, j * 4 + 3, none⟩)) := by rw [ha]; exact putSel_on (e := (26, 114, .pointer (some ⟨g, j * 4 + 3, none⟩))) 16 rfl rfl (hon 26 (by kernel_rfl)) rfl
                replace ha := Aside0.mk ha
                have HW := Aside0.mk Q_HW
                have HZ := Aside0.mk Q_HZ
                have HX := Aside0.mk Q_HX
                have T0 := Aside0.mk (Q_T0 (hoff 40 (by kernel_rfl)))
                have R8 := Aside0.mk Q_R8
                have R6 := Aside0.mk Q_R6
                have q0 := (at_3_cell T0.out HXJ.out).1
                refine value_ (w1 := w') (v := .string tx) (by rfl) rfl ?_ ?_
                · go_simp
                  (try simp only [i64_w])
                  try rfl
                refine hK.out _ _ ⟨(by rw [ha.out]; exact putSel_upk 17 hb_ rfl rfl rfl), Q_HW, Q_HZ, Q_HX, Q_T0, fun h0_ _ => absurd ((hoff 40 (by kernel_rfl)).symm.trans h0_) (by decide), fun h0_ => absurd ((hoff 44 (by kernel_rfl)).symm.trans h0_) (by decide), Q_R8, Q_R6⟩
              refine steps_cons ?_ ?_
              · rintro b a w' ⟨ha, Q_HW, Q_HZ, Q_HX, Q_T0, Q_T1, Q_T2, Q_R8, Q_R6⟩ hb_ hon hoff
                refine ⟨_, rfl, fun K hK => ?_⟩
                have e116 : a.tmps[116]? = some (.pointer (some ⟨bx, 7, none⟩)) := by rw [ha]; exact (putSel_off rfl).trans rfl
                replace ha := Aside0.mk ha
                have HW := Aside0.mk Q_HW
                have HZ := Aside0.mk Q_HZ
                have HX := Aside0.mk Q_HX
                have T0 := Aside0.mk (Q_T0 (hoff 40 (by kernel_rfl)))
                have R8 := Aside0.mk Q_R8
                have R6 := Aside0.mk Q_R6
                have q0 := (blk_cell HX.out 7).trans (rfl : _ = some (Value.slice (some ⟨g, 0, none⟩) s5.length c7))
                refine value_ (w1 := w') (v := .slice (some ⟨g, 0, none⟩) s5.length c7) (by rfl) rfl ?_ ?_
                · go_simp
                  (try simp only [i64_w])
                  try rfl
                refine hK.out _ _ ⟨(by rw [ha.out]; exact putSel_upk 18 hb_ rfl rfl rfl), Q_HW, Q_HZ, Q_HX, Q_T0, fun h0_ _ => absurd ((hoff 40 (by kernel_rfl)).symm.trans h0_) (by decide), fun h0_ => absurd ((hoff 44 (by kernel_rfl)).symm.trans h0_) (by decide), Q_R8, Q_R6⟩
              refine steps_cons ?_ ?_
              · rintro b a w' ⟨ha, Q_HW, Q_HZ, Q_HX, Q_T0, Q_T1, Q_T2, Q_R8, Q_R6⟩ hb_ hon hoff
                refine ⟨_, rfl, fun K hK => ?_⟩
                have e117 : a.tmps[117]? = some (.slice (some ⟨g, 0, none⟩) s5.length c7) := by rw [ha]; exact putSel_on (e := (29, 117, .slice (some ⟨g, 0, none⟩) s5.length c7)) 18 rfl rfl (hon 29 (by kernel_rfl)) rfl
                have e118 : a.tmps[118]? = some (.int .i64 (j : Int)) := by rw [ha]; exact (putSel_off rfl).trans rfl
                replace ha := Aside0.mk ha
                have HW := Aside0.mk Q_HW
                have HZ := Aside0.mk Q_HZ
                have HX := Aside0.mk Q_HX
                have T0 := Aside0.mk (Q_T0 (hoff 40 (by kernel_rfl)))
                have R8 := Aside0.mk Q_R8
                have R6 := Aside0.mk Q_R6
                refine value_ (w1 := w') (v := .pointer (some ⟨g, j * 4, none⟩)) (by rfl) rfl ?_ ?_
                · go_simp
                  (try simp only [i64_w])
                  try rfl
                refine hK.out _ _ ⟨(by rw [ha.out]; exact putSel_upk 19 hb_ rfl rfl rfl), Q_HW, Q_HZ, Q_HX, Q_T0, fun h0_ _ => absurd ((hoff 40 (by kernel_rfl)).symm.trans h0_) (by decide), fun h0_ => absurd ((hoff 44 (by kernel_rfl)).symm.trans h0_) (by decide), Q_R8, Q_R6⟩
              refine steps_cons ?_ ?_
              · rintro b a w' ⟨ha, Q_HW, Q_HZ, Q_HX, Q_T0, Q_T1, Q_T2, Q_R8, Q_R6⟩ hb_ hon hoff
                refine ⟨_, rfl, fun K hK => ?_⟩
                have e119 : a.tmps[119]? = some (.pointer (some ⟨g, j * 4, none⟩)) := by rw [ha]; exact putSel_on (e := (31, 119, .pointer (some ⟨g, j * 4, none⟩))) 19 rfl rfl (hon 31 (by kernel_rfl)) rfl
                replace ha := Aside0.mk ha
                have HW := Aside0.mk Q_HW
                have HZ := Aside0.mk Q_HZ
                have HX := Aside0.mk Q_HX
                have T0 := Aside0.mk (Q_T0 (hoff 40 (by kernel_rfl)))
                have R8 := Aside0.mk Q_R8
                have R6 := Aside0.mk Q_R6
                refine value_ (w1 := w') (v := .pointer (some ⟨g, j * 4 + 1, none⟩)) (by rfl) rfl ?_ ?_
                · go_simp
                  (try simp only [i64_w])
                  try rfl
                refine hK.out _ _ ⟨(by rw [ha.out]; exact putSel_upk 20 hb_ rfl rfl rfl), Q_HW, Q_HZ, Q_HX, Q_T0, fun h0_ _ => absurd ((hoff 40 (by kernel_rfl)).symm.trans h0_) (by decide), fun h0_ => absurd ((hoff 44 (by kernel_rfl)).symm.trans h0_) (by decide), Q_R8, Q_R6⟩
              refine steps_cons ?_ ?_
              · rintro b a w' ⟨ha, Q_HW, Q_HZ, Q_HX, Q_T0, Q_T1, Q_T2, Q_R8, Q_R6⟩ hb_ hon hoff
                refine ⟨_, rfl, fun K hK => ?_⟩
                have e120 : a.tmps[120]? = some (.pointer (some ⟨g, j * 4 + 1, none⟩)) := by rw [ha]; exact putSel_on (e := (32, 120, .pointer (some ⟨g, j * 4 + 1, none⟩))) 20 rfl rfl (hon 32 (by kernel_rfl)) rfl
                replace ha := Aside0.mk ha
                have HW := Aside0.mk Q_HW
                have HZ := Aside0.mk Q_HZ
                have HX := Aside0.mk Q_HX
                have T0 := Aside0.mk (Q_T0 (hoff 40 (by kernel_rfl)))
                have R8 := Aside0.mk Q_R8
                have R6 := Aside0.mk Q_R6
                refine value_ (w1 := w') (v := .pointer (some ⟨g, j * 4 + 3, none⟩)) (by rfl) rfl ?_ ?_
                · go_simp
                  (try simp only [i64_w])
                  try rfl
                refine hK.out _ _ ⟨(by rw [ha.out]; exact putSel_upk 21 hb_ rfl rfl rfl), Q_HW, Q_HZ, Q_HX, Q_T0, fun h0_ _ => absurd ((hoff 40 (by kernel_rfl)).symm.trans h0_) (by decide), fun h0_ => absurd ((hoff 44 (by kernel_rfl)).symm.trans h0_) (by decide), Q_R8, Q_R6⟩
              refine steps_cons ?_ ?_
              · rintro b a w' ⟨ha, Q_HW, Q_HZ, Q_HX, Q_T0, Q_T1, Q_T2, Q_R8, Q_R6⟩ hb_ hon hoff
                refine ⟨_, rfl, fun K hK => ?_⟩
                have e121 : a.tmps[121]? = some (.pointer (some ⟨g, j * 4 + 3, none⟩)) := by rw [ha]; exact putSel_on (e := (33, 121, .pointer (some ⟨g, j * 4 + 3, none⟩))) 21 rfl rfl (hon 33 (by kernel_rfl)) rfl
                replace ha := Aside0.mk ha
                have HW := Aside0.mk Q_HW
                have HZ := Aside0.mk Q_HZ
                have HX := Aside0.mk Q_HX
                have T0 := Aside0.mk (Q_T0 (hoff 40 (by kernel_rfl)))
                have R8 := Aside0.mk Q_R8
                have R6 := Aside0.mk Q_R6
                have q0 := (at_3_cell T0.out HXJ.out).1
                refine value_ (w1 := w') (v := .string tx) (by rfl) rfl ?_ ?_
                · go_simp
                  (try simp only [i64_w])
                  try rfl
                refine hK.out _ _ ⟨(by rw [ha.out]; exact putSel_upk 22 hb_ rfl rfl rfl), Q_HW, Q_HZ, Q_HX, Q_T0, fun h0_ _ => absurd ((hoff 40 (by kernel_rfl)).symm.trans h0_) (by decide), fun h0_ => absurd ((hoff 44 (by kernel_rfl)).symm.trans h0_) (by decide), Q_R8, Q_R6⟩
              refine steps_cons ?_ ?_
              · rintro b a w' ⟨ha, Q_HW, Q_HZ, Q_HX, Q_T0, Q_T1, Q_T2, Q_R8, Q_R6⟩ hb_ hon hoff
                refine ⟨_, rfl, fun K hK => ?_⟩
                have e122 : a.tmps[122]? = some (.string tx) := by rw [ha]; exact putSel_on (e := (34, 122, .string tx)) 22 rfl rfl (hon 34 (by kernel_rfl)) rfl
                replace ha := Aside0.mk ha
                have HW := Aside0.mk Q_HW
                have HZ := Aside0.mk Q_HZ
                have HX := Aside0.mk Q_HX
                have R8 := Aside0.mk Q_R8
                have R6 := Aside0.mk Q_R6
                refine value_ (w1 := w') (v := .int .i64 (tx.size : Int)) (by rfl) rfl ?_ ?_
                · go_simp
                  (try simp only [i64_w])
                  try rfl
                refine hK.out _ _ ⟨(by rw [ha.out]; exact putSel_upk 23 hb_ rfl rfl rfl), Q_HW, Q_HZ, Q_HX, Q_T0, Q_T1, fun h0_ => absurd ((hoff 44 (by kernel_rfl)).symm.trans h0_) (by decide), Q_R8, Q_R6⟩
              refine steps_cons ?_ ?_
              · rintro b a w' ⟨ha, Q_HW, Q_HZ, Q_HX, Q_T0, Q_T1, Q_T2, Q_R8, Q_R6⟩ hb_ hon hoff
                refine ⟨_, rfl, fun K hK => ?_⟩
                have e123 : a.tmps[123]? = some (.int .i64 (tx.size : Int)) := by rw [ha]; exact putSel_on (e := (35, 123, .int .i64 (tx.size : Int))) 23 rfl rfl (hon 35 (by kernel_rfl)) rfl
                replace ha := Aside0.mk ha
                have HW := Aside0.mk Q_HW
                have HZ := Aside0.mk Q_HZ
                have HX := Aside0.mk Q_HX
                have R8 := Aside0.mk Q_R8
                have R6 := Aside0.mk Q_R6
                refine value_ (w1 := w') (v := .int .i64 (ct : Int)) (by rfl) rfl ?_ ?_
                · go_simp
                  (try simp only [i64_w])
                  try rfl
                refine hK.out _ _ ⟨(by rw [ha.out]; exact putSel_upk 24 hb_ rfl rfl rfl), Q_HW, Q_HZ, Q_HX, Q_T0, Q_T1, fun h0_ => absurd ((hoff 44 (by kernel_rfl)).symm.trans h0_) (by decide), Q_R8, Q_R6⟩
              refine steps_cons ?_ ?_
              · rintro b a w' ⟨ha, Q_HW, Q_HZ, Q_HX, Q_T0, Q_T1, Q_T2, Q_R8, Q_R6⟩ hb_ hon hoff
                refine ⟨_, rfl, fun K hK => ?_⟩
                have e115 : a.tmps[115]? = some (.string tx) := by rw [ha]; exact putSel_on (e := (27, 115, .string tx)) 17 rfl rfl (hon 27 (by kernel_rfl)) rfl
                have e124 : a.tmps[124]? = some (.int .i64 (ct : Int)) := by rw [ha]; exact putSel_on (e := (36, 124, .int .i64 (ct : Int))) 24 rfl rfl (hon 36 (by kernel_rfl)) rfl
                replace ha := Aside0.mk ha
                have HW := Aside0.mk Q_HW
                have HZ := Aside0.mk Q_HZ
                have HX := Aside0.mk Q_HX
                have R8 := Aside0.mk Q_R8
                have R6 := Aside0.mk Q_R6
                refine value_ (w1 := w') (v := .string (tx.extract 0 ct)) (by rfl) rfl ?_ ?_
                · go_simp
                  (try simp only [i64_w])
                  try rfl
                refine hK.out _ _ ⟨(by rw [ha.out]; exact putSel_upk 25 hb_ rfl rfl rfl), Q_HW, Q_HZ, Q_HX, Q_T0, Q_T1, fun h0_ => absurd ((hoff 44 (by kernel_rfl)).symm.trans h0_) (by decide), Q_R8, Q_R6⟩
              refine steps_cons ?_ ?_
              · rintro b a w' ⟨ha, Q_HW, Q_HZ, Q_HX, Q_T0, Q_T1, Q_T2, Q_R8, Q_R6⟩ hb_ hon hoff
                refine ⟨_, rfl, fun K hK => ?_⟩
                have e89 : a.tmps[89]? = some (.slice (some ⟨g, 0, none⟩) s5.length c7) := by rw [ha]; exact putSel_on (e := (1, 89, .slice (some ⟨g, 0, none⟩) s5.length c7)) 0 rfl rfl (hon 1 (by kernel_rfl)) rfl
                have e90 : a.tmps[90]? = some (.int .i64 (j : Int)) := by rw [ha]; exact (putSel_off rfl).trans rfl
                replace ha := Aside0.mk ha
                have HW := Aside0.mk Q_HW
                have HZ := Aside0.mk Q_HZ
                have HX := Aside0.mk Q_HX
                have T0 := Aside0.mk (Q_T0 (hoff 40 (by kernel_rfl)))
                have R8 := Aside0.mk Q_R8
                have R6 := Aside0.mk Q_R6
                refine value_ (w1 := w') (v := .pointer (some ⟨g, j * 4, none⟩)) (by rfl) rfl ?_ ?_
                · go_simp
                  (try simp only [i64_w])
                  try rfl
                refine hK.out _ _ ⟨(by rw [ha.out]; exact putSel_upk 26 hb_ rfl rfl rfl), Q_HW, Q_HZ, Q_HX, Q_T0, fun h0_ _ => absurd ((hoff 40 (by kernel_rfl)).symm.trans h0_) (by decide), fun h0_ => absurd ((hoff 44 (by kernel_rfl)).symm.trans h0_) (by decide), Q_R8, Q_R6⟩
              refine steps_cons ?_ ?_
              · rintro b a w' ⟨ha, Q_HW, Q_HZ, Q_HX, Q_T0, Q_T1, Q_T2, Q_R8, Q_R6⟩ hb_ hon hoff
                refine ⟨_, rfl, fun K hK => ?_⟩
                have e126 : a.tmps[126]? = some (.pointer (some ⟨g, j * 4, none⟩)) := by rw [ha]; exact putSel_on (e := (38, 126, .pointer (some ⟨g, j * 4, none⟩))) 26 rfl rfl (hon 38 (by kernel_rfl)) rfl
                replace ha := Aside0.mk ha
                have HW := Aside0.mk Q_HW
                have HZ := Aside0.mk Q_HZ
                have HX := Aside0.mk Q_HX
                have T0 := Aside0.mk (Q_T0 (hoff 40 (by kernel_rfl)))
                have R8 := Aside0.mk Q_R8
                have R6 := Aside0.mk Q_R6
                refine value_ (w1 := w') (v := .pointer (some ⟨g, j * 4, none⟩)) (by rfl) rfl ?_ ?_
                · go_simp
                  (try simp only [i64_w])
                  try rfl
                refine hK.out _ _ ⟨(by rw [ha.out]; exact putSel_upk 27 hb_ rfl rfl rfl), Q_HW, Q_HZ, Q_HX, Q_T0, fun h0_ _ => absurd ((hoff 40 (by kernel_rfl)).symm.trans h0_) (by decide), fun h0_ => absurd ((hoff 44 (by kernel_rfl)).symm.trans h0_) (by decide), Q_R8, Q_R6⟩
              refine steps_cons ?_ ?_
              · rintro b a w' ⟨ha, Q_HW, Q_HZ, Q_HX, Q_T0, Q_T1, Q_T2, Q_R8, Q_R6⟩ hb_ hon hoff
                refine ⟨_, rfl, fun K hK => ?_⟩
                have e127 : a.tmps[127]? = some (.pointer (some ⟨g, j * 4, none⟩)) := by rw [ha]; exact putSel_on (e := (39, 127, .pointer (some ⟨g, j * 4, none⟩))) 27 rfl rfl (hon 39 (by kernel_rfl)) rfl
                have e108 : a.tmps[108]? = some (.string (nm.extract 0 cn)) := by rw [ha]; exact putSel_on (e := (20, 108, .string (nm.extract 0 cn))) 12 rfl rfl (hon 20 (by kernel_rfl)) rfl
                replace ha := Aside0.mk ha
                have HW := Aside0.mk Q_HW
                have HZ := Aside0.mk Q_HZ
                have HX := Aside0.mk Q_HX
                have T0 := Aside0.mk (Q_T0 hb_)
                have R8 := Aside0.mk Q_R8
                have R6 := Aside0.mk Q_R6
                have z0 := (at_0_cell T0.out HXJ.out).1
                have f0 := (at_0_cell T0.out HXJ.out).2
                have hl := World.block_lt_of_cell? w' _ z0
                refine skip_ (w1 := w'.setCell ⟨g, j * 4, none⟩ (.string (nm.extract 0 cn))) (by rfl) rfl (by go_simp) ?_
                refine hK.out _ _ ⟨(by rw [ha.out]; exact putSel_none (v := undef) rfl), below_set HW.out HGG.out, KeepBut.blk ((KeepBut.refl _ g none).set_ _ _) HZ.out HNZ.out (by simp), KeepBut.blk ((KeepBut.refl _ g none).set_ _ _) HX.out HNX.out (by simp), fun h0_ => absurd ((up_self b 40).symm.trans h0_) (by decide), fun _ _ => at_0_put T0.out HXJ.out _, fun h0_ => absurd ((hoff 44 (by kernel_rfl)).symm.trans h0_) (by decide), R_other R8.out rfl T0.out HLP.out (by decide) ((KeepBut.refl _ g none).set_ _ _), R_other R6.out rfl T0.out HLP.out (by decide) ((KeepBut.refl _ g none).set_ _ _)⟩
              refine steps_cons ?_ ?_
              · rintro b a w' ⟨ha, Q_HW, Q_HZ, Q_HX, Q_T0, Q_T1, Q_T2, Q_R8, Q_R6⟩ hb_ hon hoff
                refine ⟨_, rfl, fun K hK => ?_⟩
                have e92 : a.tmps[92]? = some (.slice (some ⟨g, 0, none⟩) s5.length c7) := by rw [ha]; exact putSel_on (e := (4, 92, .slice (some ⟨g, 0, none⟩) s5.length c7)) 1 rfl rfl (hon 4 (by kernel_rfl)) rfl
                have e93 : a.tmps[93]? = some (.int .i64 (j : Int)) := by rw [ha]; exact (putSel_off rfl).trans rfl
                replace ha := Aside0.mk ha
                have HW := Aside0.mk Q_HW
                have HZ := Aside0.mk Q_HZ
                have HX := Aside0.mk Q_HX
                have T1 := Aside0.mk (Q_T1 (hon 40 (by kernel_rfl)) (hoff 44 (by kernel_rfl)))
                have R8 := Aside0.mk Q_R8
                have R6 := Aside0.mk Q_R6
                refine value_ (w1 := w') (v := .pointer (some ⟨g, j * 4, none⟩)) (by rfl) rfl ?_ ?_
                · go_simp
                  (try simp only [i64_w])
                  try rfl
                refine hK.out _ _ ⟨(by rw [ha.out]; exact putSel_upk 28 hb_ rfl rfl rfl), Q_HW, Q_HZ, Q_HX, fun h0_ => absurd ((hon 40 (by kernel_rfl)).symm.trans h0_) (by decide), Q_T1, fun h0_ => absurd ((hoff 44 (by kernel_rfl)).symm.trans h0_) (by decide), Q_R8, Q_R6⟩
              refine steps_cons ?_ ?_
              · rintro b a w' ⟨ha, Q_HW, Q_HZ, Q_HX, Q_T0, Q_T1, Q_T2, Q_R8, Q_R6⟩ hb_ hon hoff
                refine ⟨_, rfl, fun K hK => ?_⟩
                have e128 : a.tmps[128]? = some (.pointer (some ⟨g, j * 4, none⟩)) := by rw [ha]; exact putSel_on (e := (41, 128, .pointer (some ⟨g, j * 4, none⟩))) 28 rfl rfl (hon 41 (by kernel_rfl)) rfl
                replace ha := Aside0.mk ha
                have HW := Aside0.mk Q_HW
                have HZ := Aside0.mk Q_HZ
                have HX := Aside0.mk Q_HX
                have T1 := Aside0.mk (Q_T1 (hon 40 (by kernel_rfl)) (hoff 44 (by kernel_rfl)))
                have R8 := Aside0.mk Q_R8
                have R6 := Aside0.mk Q_R6
                refine value_ (w1 := w') (v := .pointer (some ⟨g, j * 4 + 1, none⟩)) (by rfl) rfl ?_ ?_
                · go_simp
                  (try simp only [i64_w])
                  try rfl
                refine hK.out _ _ ⟨(by rw [ha.out]; exact putSel_upk 29 hb_ rfl rfl rfl), Q_HW, Q_HZ, Q_HX, fun h0_ => absurd ((hon 40 (by kernel_rfl)).symm.trans h0_) (by decide), Q_T1, fun h0_ => absurd ((hoff 44 (by kernel_rfl)).symm.trans h0_) (by decide), Q_R8, Q_R6⟩
              refine steps_cons ?_ ?_
              · rintro b a w' ⟨ha, Q_HW, Q_HZ, Q_HX, Q_T0, Q_T1, Q_T2, Q_R8, Q_R6⟩ hb_ hon hoff
                refine ⟨_, rfl, fun K hK => ?_⟩
                have e129 : a.tmps[129]? = some (.pointer (some ⟨g, j * 4 + 1, none⟩)) := by rw [ha]; exact putSel_on (e := (42, 129, .pointer (some ⟨g, j * 4 + 1, none⟩))) 29 rfl rfl (hon 42 (by kernel_rfl)) rfl
                replace ha := Aside0.mk ha
                have HW := Aside0.mk Q_HW
                have HZ := Aside0.mk Q_HZ
                have HX := Aside0.mk Q_HX
                have T1 := Aside0.mk (Q_T1 (hon 40 (by kernel_rfl)) (hoff 44 (by kernel_rfl)))
                have R8 := Aside0.mk Q_R8
                have R6 := Aside0.mk Q_R6
                refine value_ (w1 := w') (v := .pointer (some ⟨g, j * 4 + 3, none⟩)) (by rfl) rfl ?_ ?_
                · go_simp
                  (try simp only [i64_w])
                  try rfl
                refine hK.out _ _ ⟨(by rw [ha.out]; exact putSel_upk 30 hb_ rfl rfl rfl), Q_HW, Q_HZ, Q_HX, fun h0_ => absurd ((hon 40 (by kernel_rfl)).symm.trans h0_) (by decide), Q_T1, fun h0_ => absurd ((hoff 44 (by kernel_rfl)).symm.trans h0_) (by decide), Q_R8, Q_R6⟩
              refine steps_cons ?_ ?_
              · rintro b a w' ⟨ha, Q_HW, Q_HZ, Q_HX, Q_T0, Q_T1, Q_T2, Q_R8, Q_R6⟩ hb_ hon hoff
                refine ⟨_, rfl, fun K hK => ?_⟩
                have e130 : a.tmps[130]? = some (.pointer (some ⟨g, j * 4 + 3, none⟩)) := by rw [ha]; exact putSel_on (e := (43, 130, .pointer (some ⟨g, j * 4 + 3, none⟩))) 30 rfl rfl (hon 43 (by kernel_rfl)) rfl
                have e125 : a.tmps[125]? = some (.string (tx.extract 0 ct)) := by rw [ha]; exact putSel_on (e := (37, 125, .string (tx.extract 0 ct))) 25 rfl rfl (hon 37 (by kernel_rfl)) rfl
                replace ha := Aside0.mk ha
                have HW := Aside0.mk Q_HW
                have HZ := Aside0.mk Q_HZ
                have HX := Aside0.mk Q_HX
                have T1 := Aside0.mk (Q_T1 (hon 40 (by kernel_rfl)) hb_)
                have R8 := Aside0.mk Q_R8
                have R6 := Aside0.mk Q_R6
                have z0 := (at_3_cell T1.out HXK.out).1
                have f0 := (at_3_cell T1.out HXK.out).2
                have hl := World.block_lt_of_cell? w' _ z0
                refine skip_ (w1 := w'.setCell ⟨g, j * 4 + 3, none⟩ (.string (tx.extract 0 ct))) (by rfl) rfl (by go_simp) ?_
                refine hK.out _ _ ⟨(by rw [ha.out]; exact putSel_none (v := undef) rfl), below_set HW.out HGG.out, KeepBut.blk ((KeepBut.refl _ g none).set_ _ _) HZ.out HNZ.out (by simp), KeepBut.blk ((KeepBut.refl _ g none).set_ _ _) HX.out HNX.out (by simp), fun h0_ => absurd ((hon 40 (by kernel_rfl)).symm.trans h0_) (by decide), fun _ h1_ => absurd ((up_self b 44).symm.trans h1_) (by decide), fun _ => at_3_put T1.out HXK.out _, R_other R8.out rfl T1.out HLQ.out (by decide) ((KeepBut.refl _ g none).set_ _ _), R_other R6.out rfl T1.out HLQ.out (by decide) ((KeepBut.refl _ g none).set_ _ _)⟩
              exact steps_nil
            · rintro b a w' hall ⟨ha, Q_HW, Q_HZ, Q_HX, Q_T0, Q_T1, Q_T2, Q_R8, Q_R6⟩
              clear HW HX HZ R6 R8 T0
              have hb1_ := hall 1 (by kernel_rfl)
              have hb4_ := hall 4 (by kernel_rfl)
              have hb7_ := hall 7 (by kernel_rfl)
              have hb9_ := hall 9 (by kernel_rfl)
              have hb10_ := hall 10 (by kernel_rfl)
              have hb11_ := hall 11 (by kernel_rfl)
              have hb13_ := hall 13 (by kernel_rfl)
              have hb15_ := hall 15 (by kernel_rfl)
              have hb16_ := hall 16 (by kernel_rfl)
              have hb17_ := hall 17 (by kernel_rfl)
              have hb18_ := hall 18 (by kernel_rfl)
              have hb19_ := hall 19 (by kernel_rfl)
              have hb20_ := hall 20 (by kernel_rfl)
              have hb22_ := hall 22 (by kernel_rfl)
              have hb24_ := hall 24 (by kernel_rfl)
              have hb25_ := hall 25 (by kernel_rfl)
              have hb26_ := hall 26 (by kernel_rfl)
              have hb27_ := hall 27 (by kernel_rfl)
              have hb29_ := hall 29 (by kernel_rfl)
              have hb31_ := hall 31 (by kernel_rfl)
              have hb32_ := hall 32 (by kernel_rfl)
              have hb33_ := hall 33 (by kernel_rfl)
              have hb34_ := hall 34 (by kernel_rfl)
              have hb35_ := hall 35 (by kernel_rfl)
              have hb36_ := hall 36 (by kernel_rfl)
              have hb37_ := hall 37 (by kernel_rfl)
              have hb38_ := hall 38 (by kernel_rfl)
              have hb39_ := hall 39 (by kernel_rfl)
              have hb40_ := hall 40 (by kernel_rfl)
              have hb41_ := hall 41 (by kernel_rfl)
              have hb42_ := hall 42 (by kernel_rfl)
              have hb43_ := hall 43 (by kernel_rfl)
              have hb44_ := hall 44 (by kernel_rfl)
              subst ha
              simp only [putSel, hb1_, hb4_, hb7_, hb9_, hb10_, hb11_, hb13_, hb15_, hb16_, hb17_, hb18_, hb19_, hb20_, hb22_, hb24_, hb25_, hb26_, hb27_, hb29_, hb31_, hb32_, hb33_, hb34_, hb35_, hb36_, hb37_, hb38_, hb39_, hb40_, hb41_, hb42_, hb43_, hb44_, if_true, Act.put, List.setIfInBounds_toArray, List.set_cons_zero, List.set_cons_succ]
              have HW := Aside0.mk Q_HW
              clear Q_HW
              have HZ := Aside0.mk Q_HZ
              clear Q_HZ
              have HX := Aside0.mk Q_HX
              clear Q_HX
              clear Q_T0
              clear Q_T1
              have T2 := Aside0.mk (Q_T2 hb44_)
              clear Q_T2
              have R8 := Aside0.mk Q_R8
              clear Q_R8
              have R6 := Aside0.mk Q_R6
              clear Q_R6
              clear hall hb1_ hb4_ hb7_ hb9_ hb10_ hb11_ hb13_ hb15_ hb16_ hb17_ hb18_ hb19_ hb20_ hb22_ hb24_ hb25_ hb26_ hb27_ hb29_ hb31_ hb32_ hb33_ hb34_ hb35_ hb36_ hb37_ hb38_ hb39_ hb40_ hb41_ hb42_ hb43_ hb44_
              go_wp2
              go_roundw
              case rel => exact ⟨j + 1, _, _, _, by omega, by go_num, ⟨HSET.out⟩, HW, HZ, HX, R6, T2, R8⟩
              case measure => simp [intOf]; omega
          · obtain rfl : j = s5.length := by omega
            have HPL2 := HPL.out
            rw [half_all] at HPL2
            subst HPL2
            go_wp2_with fail
            go_meet
            case rel => exact ⟨n7, c7, HW, HZ, HX, R6, R7, R8⟩
      case rest =>
        obtain ⟨n7, c7, HW, HZ, HX, R6, R7, R8⟩ := hcut
        clear HW2 HZ2 HX2 R6a R7a R8a
        go_upto_region 12 with fail
        have q0 := (blk_cell HX.out 0).trans (rfl : _ = some (Value.int .i64 zk))
        have q1 := (blk_cell HX.out 1).trans (rfl : _ = some (Value.int .i64 zc))
        have q2 := (blk_cell HX.out 2).trans (rfl : _ = some (Value.int .i64 zq))
        have q3 := (blk_cell HX.out 3).trans (rfl : _ = some (Value.int .i64 zh))
        have q4 := (blk_cell HX.out 4).trans (rfl : _ = some (Value.int .i64 za))
        have q5 := (blk_cell HX.out 5).trans (rfl : _ = some (Value.int .i64 zt))
        have q6 := (blk_cell HX.out 6).trans (rfl : _ = some (Value.slice n6 p5.length c6))
        have q7 := (blk_cell HX.out 7).trans (rfl : _ = some (Value.slice n7 s5.length c7))
        have q8 := (blk_cell HX.out 8).trans (rfl : _ = some (Value.slice n8 r20.length c8))
        have z0 := (blk_cell HZ.out 0).trans (rfl : _ = some (Value.int .i64 0))
        have z1 := (blk_cell HZ.out 1).trans (rfl : _ = some (Value.int .i64 0))
        have z2 := (blk_cell HZ.out 2).trans (rfl : _ = some (Value.int .i64 0))
        have z3 := (blk_cell HZ.out 3).trans (rfl : _ = some (Value.int .i64 0))
        have z4 := (blk_cell HZ.out 4).trans (rfl : _ = some (Value.int .i64 0))
        have z5 := (blk_cell HZ.out 5).trans (rfl : _ = some (Value.int .i64 0))
        have z6 := (blk_cell HZ.out 6).trans (rfl : _ = some (Value.slice none 0 0))
        have z7 := (blk_cell HZ.out 7).trans (rfl : _ = some (Value.slice none 0 0))
        have z8 := (blk_cell HZ.out 8).trans (rfl : _ = some (Value.slice none 0 0))
        have f0 := blk_frozen HZ.out 0
        have f1 := blk_frozen HZ.out 1
        have f2 := blk_frozen HZ.out 2
        have f3 := blk_frozen HZ.out 3
        have f4 := blk_frozen HZ.out 4
        have f5 := blk_frozen HZ.out 5
        have f6 := blk_frozen HZ.out 6
        have f7 := blk_frozen HZ.out 7
        have f8 := blk_frozen HZ.out 8
        have hl1 := blk_lt HX.out
        have hl2 := blk_lt HZ.out
        obtain ⟨hk9, hb9, hw9⟩ := put9 HZ.out (.int .i64 zk) (.int .i64 zc) (.int .i64 zq) (.int .i64 zh) (.int .i64 za) (.int .i64 zt) (.slice n6 p5.length c6) (.slice n7 s5.length c7) (.slice n8 r20.length c8)
        have PE := Aside0.mk (R_block R6.out rfl HZ.out (by decide) hk9)
        have AE := Aside0.mk (R_block R7.out rfl HZ.out (by decide) hk9)
        have BE := Aside0.mk (R_block R8.out rfl HZ.out (by decide) hk9)
        have WE := Aside0.mk (hw9 w HW.out HGZ.out)
        have ZE := Aside0.mk hb9
        clear hk9 hb9 hw9 R6 R7 R8 HW
        go_wp2
        generalize (((((((((wc.setCell ⟨bz, 0, none⟩ (.int .i64 zk)).setCell ⟨bz, 1, none⟩ (.int .i64 zc)).setCell ⟨bz, 2, none⟩ (.int .i64 zq)).setCell ⟨bz, 3, none⟩ (.int .i64 zh)).setCell ⟨bz, 4, none⟩ (.int .i64 za)).setCell ⟨bz, 5, none⟩ (.int .i64 zt)).setCell ⟨bz, 6, none⟩ (.slice n6 p5.length c6)).setCell ⟨bz, 7, none⟩ (.slice n7 s5.length c7)).setCell ⟨bz, 8, none⟩ (.slice n8 r20.length c8)) = wE at PE AE BE WE ZE ⊢
        clear q0 q1 q2 q3 q4 q5 q6 q7 q8 z0 f0 z1 f1 z2 f2 z3 f3 z4 f4 z5 f5 z6 f6 z7 f7 z8 f8 hl1 hl2 HX HZ
        have q0 := (blk_cell ZE.out 0).trans (rfl : _ = some (Value.int .i64 zk))
        have q1 := (blk_cell ZE.out 1).trans (rfl : _ = some (Value.int .i64 zc))
        have q2 := (blk_cell ZE.out 2).trans (rfl : _ = some (Value.int .i64 zq))
        have q3 := (blk_cell ZE.out 3).trans (rfl : _ = some (Value.int .i64 zh))
        have q4 := (blk_cell ZE.out 4).trans (rfl : _ = some (Value.int .i64 za))
        have q5 := (blk_cell ZE.out 5).trans (rfl : _ = some (Value.int .i64 zt))
        have q6 := (blk_cell ZE.out 6).trans (rfl : _ = some (Value.slice n6 p5.length c6))
        have q7 := (blk_cell ZE.out 7).trans (rfl : _ = some (Value.slice n7 s5.length c7))
        have q8 := (blk_cell ZE.out 8).trans (rfl : _ = some (Value.slice n8 r20.length c8))
        have hC6 := (Kd.R_reads' PE.out).2.2
        have hC7 := (Kd.R_reads' AE.out).2.2
        have hC8 := (Kd.R_reads' BE.out).2.2
        refine bodyPost_ret (v := opV zk zc zq zh za zt n6 p5.length c6 n7 s5.length c7 n8 r20.length c8) (by simp [results, Tryd.results28, go_sem, q0, q1, q2, q3, q4, q5, q6, q7, q8]) rfl ⟨n6, c6, n7, c7, n8, c8, ?_, ?_, ⟨past_of PE.out, past_of AE.out, past_of BE.out⟩, WE.out⟩
        · rw [HT.out]; simp only [oW, List.length_map]
        · rw [HT.out]; exact ⟨hC6, hC7, hC8⟩
theorem tame_calls (o : OpD) (A6 : Option Addr) (m6 : Nat) (A7 : Option Addr) (m7 : Nat) (A8 : Option Addr) (m8 : Nat) (w : World) (hL : Lies w o A6 A7 A8) (l6 : o.p.length ≤ m6) (l7 : o.s.length ≤ m7) (l8 : o.r.length ≤ m8) :
    Calls Tryd.prog 28 #[oW o A6 m6 A7 m7 A8 m8] w fun e w' => ∃ B6 n6 B7 n7 B8 n8, e = .returned (oW (tameD o) B6 n6 B7 n7 B8 n8) ∧ Lies w' (tameD o) B6 B7 B8 ∧ Below w.heap.size w w' := by
  refine (tame_far o A6 m6 A7 m7 A8 m8 w hL l6 l7 l8).mono ?_
  rintro e w' ⟨B6, n6, B7, n7, B8, n8, rfl, h1, _, h2⟩
  exact ⟨B6, n6, B7, n7, B8, n8, rfl, h1, h2⟩
end Go.Proofs.YtbplemhjhpfkgaaDoor.Cd

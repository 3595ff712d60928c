/-
  code.read: an operation read out of bytes.
-/
import Derived.Test.YtbplemhjhpfkgaaDoorReadBase
namespace Go.Proofs.YtbplemhjhpfkgaaDoor.Cd
open Go.RowKit Go.Proofs.YtbplemhjhpfkgaaDoorW.PrintWords Go.Proofs.YtbplemhjhpfkgaaDoorW.PrintLast Go.Proofs.YtbplemhjhpfkgaaDoorW.PrintMore Go.Proofs.YtbplemhjhpfkgaaDoor.Rd
set_option linter.unusedVariables false
set_option linter.unusedSimpArgs false
def rdReg.T5 : Bool × List (List Nat × List Nat) := (true, [([], []), ([0], [0]), ([], []), ([2], [2]), ([], []), ([4, 3], [4]), ([5], [5]), ([], []), ([7, 5], [7]), ([], []), ([9, 8], [9]), ([], []), ([11, 10], [11]), ([3, 6, 8, 10, 12], [3, 6, 8, 10, 12]), ([13], [13]), ([1, 14, 12], [1, 14]), ([0, 1, 2, 3, 4, 5, 6, 7, 8, 9, 10, 11, 12, 13, 14, 15], []), ([16, 15, 15, 0, 1, 2, 3, 4, 5, 6, 7, 8, 9, 10, 11, 12, 13, 14, 15], [15, 16])])
def rdReg.B5 : List Nat := [0, 1, 0, 4, 0, 28, 60, 0, 188, 0, 956, 0, 4028, 8188, 16380, 32767, 65535, 131071]
theorem rdReg.tab5 : rtab .any (opsOf Tryd.f64 5) = rdReg.T5 := by kernel_rfl
theorem rdReg.bits5 : waitsOk rdReg.T5.2 rdReg.B5 = true := by kernel_rfl
theorem co_at : ∀ q, q ∈ 44 :: kCo.E → q ≠ 59 := by intro q hq; simp [kCo, flat] at hq; subst hq; decide
set_option maxRecDepth 100000 in
set_option maxHeartbeats 16000000 in
theorem read_one (g : Nat) (s : Rs) (w0 w : World) (hI : IsRs w0 w g s) (hB : Below w0.heap.size w0 w) :
    Calls Tryd.prog 64 #[.pointer (some ⟨g, 0, none⟩)] w fun e w' => ∃ A6 m6 A7 m7 A8 m8, e = .returned (oW (readD s).1 A6 m6 A7 m7 A8 m8) ∧ Lies w' (readD s).1 A6 A7 A8 ∧ IsRs w0 w' g (readD s).2 ∧ Below w0.heap.size w0 w' ∧ Past w0.heap.size A6 ∧ Past w0.heap.size A7 ∧ Past w0.heap.size A8 := by
  obtain ⟨zk, t0, e0⟩ : ∃ x t, rdB s = (x, t) := ⟨_, _, rfl⟩
  obtain ⟨zc, t1, e1⟩ : ∃ x t, rdN t0 = (x, t) := ⟨_, _, rfl⟩
  obtain ⟨zq, t2, e2⟩ : ∃ x t, rdN t1 = (x, t) := ⟨_, _, rfl⟩
  obtain ⟨zh, t3, e3⟩ : ∃ x t, rdN t2 = (x, t) := ⟨_, _, rfl⟩
  obtain ⟨za, t4, e4⟩ : ∃ x t, rdN t3 = (x, t) := ⟨_, _, rfl⟩
  obtain ⟨zt, t5, e5⟩ : ∃ x t, rdN t4 = (x, t) := ⟨_, _, rfl⟩
  obtain ⟨zm, t6, e6⟩ : ∃ x t, rdB t5 = (x, t) := ⟨_, _, rfl⟩
  obtain ⟨pp, t7, e7⟩ : ∃ x t, rdMany rdCo zm.toNat t6 [] = (x, t) := ⟨_, _, rfl⟩
  obtain ⟨zn, t8, e8⟩ : ∃ x t, rdB t7 = (x, t) := ⟨_, _, rfl⟩
  obtain ⟨uu, t9, e9⟩ : ∃ x t, rdMany rdAt zn.toNat t8 [] = (x, t) := ⟨_, _, rfl⟩
  obtain ⟨rr, t10, e10⟩ : ∃ x t, rdT t9 = (x, t) := ⟨_, _, rfl⟩
  have hD := readD_of e0 e1 e2 e3 e4 e5 e6 e7 e8 e9 e10
  rw [hD]
  clear hD
  have hbk := rd_bound e0 hI
  have hwk : IntKind.i64.wrap zk = zk := Go.IntWalk.i64_in _ (by omega)
  have E0 := Lib.hid e0
  have E1 := Lib.hid e1
  have E2 := Lib.hid e2
  have E3 := Lib.hid e3
  have E4 := Lib.hid e4
  have E5 := Lib.hid e5
  have E6 := Lib.hid e6
  have E7 := Lib.hid e7
  have E8 := Lib.hid e8
  have E9 := Lib.hid e9
  have E10 := Lib.hid e10
  have hpl : pp.length ≤ zm.toNat := by have := rdMany_len rdCo zm.toNat t6 []; rw [e7] at this; simpa using this
  have hul : uu.length ≤ zn.toNat := by have := rdMany_len rdAt zn.toNat t8 []; rw [e9] at this; simpa using this
  clear e0 e1 e2 e3 e4 e5 e6 e7 e8 e9 e10
  have hzg : w.heap.size ≠ g := by have := IsRd.lt hI; omega
  have hgw : w0.heap.size ≤ w.heap.size := hB.size
  have HNZG := Aside0.mk hzg
  have HZ := Aside0.mk (blk_new w (.cells #[.int .i64 0, .int .i64 0, .int .i64 0, .int .i64 0, .int .i64 0, .int .i64 0, .slice none 0 0, .slice none 0 0, .slice none 0 0] 30))
  have R0 := Aside0.mk (IsRd.alloc hI (.cells #[.int .i64 0, .int .i64 0, .int .i64 0, .int .i64 0, .int .i64 0, .int .i64 0, .slice none 0 0, .slice none 0 0, .slice none 0 0] 30))
  have HW := Aside0.mk (below_alloc hB (.cells #[.int .i64 0, .int .i64 0, .int .i64 0, .int .i64 0, .int .i64 0, .int .i64 0, .slice none 0 0, .slice none 0 0, .slice none 0 0] 30))
  clear hI hB hzg
  go_enter Tryd.func64, Tryd.ntmps64
  go_upto_region 1 with fail
  generalize (w.alloc (.cells #[.int .i64 0, .int .i64 0, .int .i64 0, .int .i64 0, .int .i64 0, .int .i64 0, .slice none 0 0, .slice none 0 0, .slice none 0 0] 30)) = wa at *
  go_upto_region 2 with (first
    | (have hI0 := R0.out; clear R0; go_at_call 90; refine (rdB_calls E0.out g w0 _ hI0 HW.out).mono ?_; rintro e w2 ⟨rfl, hI, hB2, hK⟩; have R1 := Aside0.mk hI; replace HW := Aside0.mk hB2; replace HZ := Aside0.mk (KeepBut.blk hK HZ.out HNZG.out (by simp)); clear hI hB2 hK hI0)
    | (have hI0 := R1.out; clear R1; go_at_call 91; refine (rdN_calls E1.out g w0 _ hI0 HW.out).mono ?_; rintro e w2 ⟨rfl, hI, hB2, hK⟩; have R2 := Aside0.mk hI; replace HW := Aside0.mk hB2; replace HZ := Aside0.mk (KeepBut.blk hK HZ.out HNZG.out (by simp)); clear hI hB2 hK hI0)
    | (have hI0 := R2.out; clear R2; go_at_call 91; refine (rdN_calls E2.out g w0 _ hI0 HW.out).mono ?_; rintro e w2 ⟨rfl, hI, hB2, hK⟩; have R3 := Aside0.mk hI; replace HW := Aside0.mk hB2; replace HZ := Aside0.mk (KeepBut.blk hK HZ.out HNZG.out (by simp)); clear hI hB2 hK hI0)
    | (have hI0 := R3.out; clear R3; go_at_call 91; refine (rdN_calls E3.out g w0 _ hI0 HW.out).mono ?_; rintro e w2 ⟨rfl, hI, hB2, hK⟩; have R4 := Aside0.mk hI; replace HW := Aside0.mk hB2; replace HZ := Aside0.mk (KeepBut.blk hK HZ.out HNZG.out (by simp)); clear hI hB2 hK hI0)
    | (have hI0 := R4.out; clear R4; go_at_call 91; refine (rdN_calls E4.out g w0 _ hI0 HW.out).mono ?_; rintro e w2 ⟨rfl, hI, hB2, hK⟩; have R5 := Aside0.mk hI; replace HW := Aside0.mk hB2; replace HZ := Aside0.mk (KeepBut.blk hK HZ.out HNZG.out (by simp)); clear hI hB2 hK hI0)
    | (have hI0 := R5.out; clear R5; go_at_call 91; refine (rdN_calls E5.out g w0 _ hI0 HW.out).mono ?_; rintro e wb ⟨rfl, hI, hB2, hK⟩; have hgb := IsRd.lt hI; have hge := hB2.size; have R6 := Aside0.mk (IsRd.alloc hI (.cells #[.int .i64 zk, .int .i64 zc, .int .i64 zq, .int .i64 zh, .int .i64 za, .int .i64 zt, .slice none 0 0, .slice none 0 0, .slice none 0 0] 30)); replace HW := Aside0.mk (below_alloc hB2 (.cells #[.int .i64 zk, .int .i64 zc, .int .i64 zq, .int .i64 zh, .int .i64 za, .int .i64 zt, .slice none 0 0, .slice none 0 0, .slice none 0 0] 30)); replace HZ := KeepBut.blk hK HZ.out HNZG.out (by simp); have hzb := blk_lt HZ; have HO := Aside0.mk (blk_new wb (.cells #[.int .i64 zk, .int .i64 zc, .int .i64 zq, .int .i64 zh, .int .i64 za, .int .i64 zt, .slice none 0 0, .slice none 0 0, .slice none 0 0] 30)); replace HZ := Aside0.mk (blk_alloc HZ (.cells #[.int .i64 zk, .int .i64 zc, .int .i64 zq, .int .i64 zh, .int .i64 za, .int .i64 zt, .slice none 0 0, .slice none 0 0, .slice none 0 0] 30)); clear hI hB2 hK hI0))
  generalize (wb.alloc (.cells #[.int .i64 zk, .int .i64 zc, .int .i64 zq, .int .i64 zh, .int .i64 za, .int .i64 zt, .slice none 0 0, .slice none 0 0, .slice none 0 0] 30)) = wc at *
  generalize hbo : wb.heap.size = bo at *
  generalize w.heap.size = bz at *
  generalize hzr : (#[.int .i64 0, .int .i64 0, .int .i64 0, .int .i64 0, .int .i64 0, .int .i64 0, .slice none 0 0, .slice none 0 0, .slice none 0 0] : Array Value) = zr at HZ
  have HNG := Aside0.mk (show bo ≠ g by omega)
  have HNG2 := Aside0.mk (show g ≠ bo by omega)
  have HNZO := Aside0.mk (show bz ≠ bo by omega)
  have HGE := Aside0.mk (show w0.heap.size ≤ bo by omega)
  have HGZ := Aside0.mk (show w0.heap.size ≤ bz by omega)
  clear hbo hgb hge hzb hgw hbk hwk
  have hbm := rd_bound E6.out R6.out
  obtain ⟨zmn, rfl⟩ : ∃ n : Nat, zm = (n : Int) := ⟨zm.toNat, by omega⟩
  have hwm : IntKind.i64.wrap (zmn : Int) = (zmn : Int) := Go.IntWalk.i64_in _ (by omega)
  have hzm : zmn ≤ 255 := by omega
  rw [Int.toNat_natCast] at hpl
  replace E7 := Lib.hid (show rdMany rdCo zmn t6 [] = (pp, t7) by have := E7.out; rwa [Int.toNat_natCast] at this)
  clear hbm
  go_upto_block 0 with (have hI0 := R6.out; clear R6; go_at_call 90; refine (rdB_calls E6.out g w0 _ hI0 HW.out).mono ?_; rintro e wd ⟨rfl, hI, hB2, hK⟩; have R7 := Aside0.mk hI; replace HW := Aside0.mk hB2; replace HZ := Aside0.mk (KeepBut.blk hK HZ.out HNZG.out (by simp)); replace HO := Aside0.mk (KeepBut.blk hK HO.out HNG.out (by simp)); clear hI hB2 hK hI0)
  go_cut [4] (fun v wx => ∃ aP cP, Aside0 (IsRs w0 wx g t7) ∧ Aside0 (Below w0.heap.size w0 wx) ∧ Aside0 (wx.heap[bz]? = some (.cells zr 30 (0, 0))) ∧ Aside0 (wx.heap[bo]? = some (.cells #[.int .i64 zk, .int .i64 zc, .int .i64 zq, .int .i64 zh, .int .i64 za, .int .i64 zt, .slice aP pp.length cP, .slice none 0 0, .slice none 0 0] 30 (0, 0))) ∧ Aside0 (Kd.R kCo 44 wx w0.heap.size (fun _ => True) (.slice aP pp.length cP) pp))
  case first =>
    go_wp2_with fail
    go_loopw [4] (fun i wr => ∃ (kk : Nat) (s0 : Rs) (pl : List Co) (aP : Option Addr) (cP : Nat), i = .int .i64 (kk : Int) ∧ kk + pl.length ≤ 255 ∧ Aside0 (rdMany rdCo kk s0 pl = (pp, t7)) ∧ Aside0 (IsRs w0 wr g s0) ∧ Aside0 (Below w0.heap.size w0 wr) ∧ Aside0 (wr.heap[bz]? = some (.cells zr 30 (0, 0))) ∧ Aside0 (wr.heap[bo]? = some (.cells #[.int .i64 zk, .int .i64 zc, .int .i64 zq, .int .i64 zh, .int .i64 za, .int .i64 zt, .slice aP pl.length cP, .slice none 0 0, .slice none 0 0] 30 (0, 0))) ∧ Aside0 (Kd.R kCo 44 wr w0.heap.size (fun _ => True) (.slice aP pl.length cP) pl)) (fun i _ => (intOf i).toNat)
    case atStart => exact ⟨zmn, t6, [], none, 0, rfl, by simpa using hzm, ⟨E7.out⟩, R7, HW, HZ, HO, ⟨Kd.R_nil _ _ _ _ _⟩⟩
    case round =>
      obtain ⟨kk, s0, pl, aP, cP, rfl, hk, EK, R0, HW, HZ, HO, HP⟩ := hrel
      by_cases hk0 : kk = 0
      · subst hk0
        obtain ⟨rfl, rfl⟩ : pl = pp ∧ s0 = t7 := by have := EK.out; simpa [rdMany] using this
        have hd0 : decide (((0 : Nat) : Int) > 0) = false := by decide
        go_wp2_with fail
        go_meet
        case rel => exact ⟨aP, cP, R0, HW, HZ, HO, HP⟩
      · have hd0 : decide ((kk : Int) > 0) = true := decide_eq_true (by omega)
        by_cases hbd : s0.2 = true
        · have hnb : (!s0.2) = false := by rw [hbd]; rfl
          obtain ⟨rfl, rfl⟩ : pl = pp ∧ s0 = t7 := by have := EK.out; rw [rdMany_bad _ _ _ _ hbd] at this; simpa using this
          clear hbd
          go_wp2_with (go_at_call 92; refine (good_calls g _ _ w0 _ R0.out).mono ?_; rintro e w3 ⟨rfl, rfl⟩)
          go_meet
          case rel => exact ⟨aP, cP, R0, HW, HZ, HO, HP⟩
        · replace hbd : s0.2 = false := by simpa using hbd
          have hnb : (!s0.2) = true := by rw [hbd]; rfl
          obtain ⟨k, rfl⟩ : ∃ k, kk = k + 1 := ⟨kk - 1, by omega⟩
          obtain ⟨n1, s1, e1⟩ : ∃ x t, rdT s0 = (x, t) := ⟨_, _, rfl⟩
          obtain ⟨k1, s2, e2⟩ : ∃ x t, rdB s1 = (x, t) := ⟨_, _, rfl⟩
          obtain ⟨lo1, s3, e3⟩ : ∃ x t, rdN s2 = (x, t) := ⟨_, _, rfl⟩
          obtain ⟨hi1, s4, e4⟩ : ∃ x t, rdN s3 = (x, t) := ⟨_, _, rfl⟩
          obtain ⟨tx1, s5, e5⟩ : ∃ x t, rdT s4 = (x, t) := ⟨_, _, rfl⟩
          have hb1 := rdB_range e2 (rdT_byt e1 R0.out.1)
          have hwk : IntKind.i64.wrap k1 = k1 := Go.IntWalk.i64_in _ (by omega)
          clear hb1
          have EN := Aside0.mk (show rdMany rdCo k s5 (pl ++ [(n1, k1, lo1, hi1, tx1)]) = (pp, t7) by have := EK.out; rw [rdMany_step _ _ _ _ hbd, rdCo_of e1 e2 e3 e4 e5] at this; exact this)
          have E1 := Lib.hid e1
          have E2 := Lib.hid e2
          have E3 := Lib.hid e3
          have E4 := Lib.hid e4
          have E5 := Lib.hid e5
          have hpl2 : pl.length ≤ 255 := by omega
          clear e1 e2 e3 e4 e5 hbd EK
          go_upto_region 5 with (go_at_call 92; refine (good_calls g _ _ w0 _ R0.out).mono ?_; rintro e w3 ⟨rfl, rfl⟩)
          refine start_ (n := 18) (S := fun w' => True) (ds := []) #[false, false, false, false, false, false, false, false, false, false, false, false, false, false, false, false, false, false] (by kernel_rfl) rfl rfl trivial (fun hHeld => ?_)
          refine with_tabW rdReg.tab5 rdReg.bits5 (fun HT_ HW_ => ?_)
          refine pure_ (i := 0) (N := some 33) (v := ?_) (a' := ?_) #[true, false, false, false, false, false, false, false, false, false, false, false, false, false, false, false, false, false] rfl rfl (any_of HT_.out (by kernel_rfl)) (fun _ _ _ h => h) (Or.inl ⟨by rfl, ?_⟩) ?_ ?_
          rotate_left
          · intro w'
            go_simp
            with_reducible rfl
          rotate_left
          · simp only [Act.put, List.setIfInBounds_toArray, List.set_cons_zero, List.set_cons_succ, i64_w, i32_w]
            rfl
          refine pure_ (i := 2) (N := some 35) (v := ?_) (a' := ?_) #[true, false, true, false, false, false, false, false, false, false, false, false, false, false, false, false, false, false] rfl rfl (any_of HT_.out (by kernel_rfl)) (fun _ _ _ h => h) (Or.inl ⟨by rfl, ?_⟩) ?_ ?_
          rotate_left
          · intro w'
            go_simp
            with_reducible rfl
          rotate_left
          · simp only [Act.put, List.setIfInBounds_toArray, List.set_cons_zero, List.set_cons_succ, i64_w, i32_w]
            rfl
          refine pure_ (i := 4) (N := some 37) (v := ?_) (a' := ?_) #[true, false, true, false, true, false, false, false, false, false, false, false, false, false, false, false, false, false] rfl rfl (any_of HT_.out (by kernel_rfl)) (fun _ _ _ h => h) (Or.inl ⟨by rfl, ?_⟩) ?_ ?_
          rotate_left
          · intro w'
            go_simp
            with_reducible rfl
          rotate_left
          · simp only [Act.put, List.setIfInBounds_toArray, List.set_cons_zero, List.set_cons_succ, i64_w, i32_w]
            rfl
          refine pure_ (i := 7) (N := some 40) (v := ?_) (a' := ?_) #[true, false, true, false, true, false, false, true, false, false, false, false, false, false, false, false, false, false] rfl rfl (any_of HT_.out (by kernel_rfl)) (fun _ _ _ h => h) (Or.inl ⟨by rfl, ?_⟩) ?_ ?_
          rotate_left
          · intro w'
            go_simp
            with_reducible rfl
          rotate_left
          · simp only [Act.put, List.setIfInBounds_toArray, List.set_cons_zero, List.set_cons_succ, i64_w, i32_w]
            rfl
          refine pure_ (i := 9) (N := some 42) (v := ?_) (a' := ?_) #[true, false, true, false, true, false, false, true, false, true, false, false, false, false, false, false, false, false] rfl rfl (any_of HT_.out (by kernel_rfl)) (fun _ _ _ h => h) (Or.inl ⟨by rfl, ?_⟩) ?_ ?_
          rotate_left
          · intro w'
            go_simp
            with_reducible rfl
          rotate_left
          · simp only [Act.put, List.setIfInBounds_toArray, List.set_cons_zero, List.set_cons_succ, i64_w, i32_w]
            rfl
          refine pure_ (i := 11) (N := some 44) (v := ?_) (a' := ?_) #[true, false, true, false, true, false, false, true, false, true, false, true, false, false, false, false, false, false] rfl rfl (any_of HT_.out (by kernel_rfl)) (fun _ _ _ h => h) (Or.inl ⟨by rfl, ?_⟩) ?_ ?_
          rotate_left
          · intro w'
            go_simp
            with_reducible rfl
          rotate_left
          · simp only [Act.put, List.setIfInBounds_toArray, List.set_cons_zero, List.set_cons_succ, i64_w, i32_w]
            rfl
          refine inv_at [1, 3, 5, 6, 8, 10, 12, 13, 14, 15, 16, 17] (fun a0_ b a w' => ∃ (b14_ : Nat) (a15_ : Option Addr) (c15_ : Nat) (m14_ : Value) (m15_ : Value), a = putSel a0_ b [(1, 34, .slice aP pl.length cP), (3, 36, .string n1), (5, 38, .int .u8 k1), (6, 39, .int .i64 k1), (8, 41, .int .i64 lo1), (10, 43, .int .i64 hi1), (12, 45, .string tx1), (13, 46, .agg #[.string n1, .int .i64 k1, .int .i64 lo1, .int .i64 hi1, .string tx1]), (14, 47, m14_), (15, 48, m15_), (16, 49, .pointer (some ⟨bo, 6, none⟩))] ∧ (Below w0.heap.size w0 w') ∧ (b 3 = false → IsRs w0 w' g s0) ∧ (b 3 = true → b 5 = false → IsRs w0 w' g s1) ∧ (b 5 = true → b 8 = false → IsRs w0 w' g s2) ∧ (b 8 = true → b 10 = false → IsRs w0 w' g s3) ∧ (b 10 = true → b 12 = false → IsRs w0 w' g s4) ∧ (b 12 = true → IsRs w0 w' g s5) ∧ (w'.heap[bz]? = some (.cells zr 30 (0, 0))) ∧ (b 17 = false → w'.heap[bo]? = some (.cells #[.int .i64 zk, .int .i64 zc, .int .i64 zq, .int .i64 zh, .int .i64 za, .int .i64 zt, .slice aP pl.length cP, .slice none 0 0, .slice none 0 0] 30 (0, 0))) ∧ (b 17 = true → w'.heap[bo]? = some (.cells #[.int .i64 zk, .int .i64 zc, .int .i64 zq, .int .i64 zh, .int .i64 za, .int .i64 zt, .slice a15_ (pl ++ [(n1, k1, lo1, hi1, tx1)]).length c15_, .slice none 0 0, .slice none 0 0] 30 (0, 0))) ∧ (b 15 = false → Kd.R kCo 44 w' w0.heap.size (fun _ => True) (.slice aP pl.length cP) pl) ∧ (b 15 = true → Kd.R kCo 44 w' w0.heap.size (fun _ => True) (.slice a15_ (pl ++ [(n1, k1, lo1, hi1, tx1)]).length c15_) (pl ++ [(n1, k1, lo1, hi1, tx1)])) ∧ (b 14 = true → b 15 = false → Kd.C kCo w' (some ⟨b14_, 0, none⟩) 1 [(n1, k1, lo1, hi1, tx1)]) ∧ (b 14 = true → (m14_ : Value) = .slice (some ⟨b14_, 0, none⟩) 1 1) ∧ (b 15 = true → (m15_ : Value) = .slice a15_ (pl ++ [(n1, k1, lo1, hi1, tx1)]).length c15_)) HT_.out HW_.out (by kernel_rfl) (by kernel_rfl) ?_ ?_ ?_
          · exact ⟨0, none, 0, .bool false, .bool false, by simp only [putSel, Bool.false_eq_true, if_false], below_drew HW.out, fun _ => IsRd.drewN R0.out 1, fun h_ => absurd h_ (by decide), fun h_ => absurd h_ (by decide), fun h_ => absurd h_ (by decide), fun h_ => absurd h_ (by decide), fun h_ => absurd h_ (by decide), HZ.out, fun _ => HO.out, fun h_ => absurd h_ (by decide), fun _ => Kd.R_drew HP.out, fun h_ => absurd h_ (by decide), fun h_ => absurd h_ (by decide), fun h_ => absurd h_ (by decide), fun h_ => absurd h_ (by decide)⟩
          · skip
            clear HO HP HW HZ R0
            refine steps_cons ?_ ?_
            · rintro b a w' ⟨b14_, a15_, c15_, m14_, m15_, ha, Q_HW, Q_R0, Q_R3, Q_R5, Q_R8, Q_R10, Q_R12, Q_HZ, Q_HO, Q_HO2, Q_HP, Q_H15, Q_HC, Q_X14_, Q_X15_⟩ hb_ hon hoff
              refine ⟨_, rfl, fun K hK => ?_⟩
              have e33 : a.tmps[33]? = some (.pointer (some ⟨bo, 6, none⟩)) := by rw [ha]; exact (putSel_off rfl).trans rfl
              replace ha := Aside0.mk ha
              have HW := Aside0.mk Q_HW
              have HZ := Aside0.mk Q_HZ
              have HO := Aside0.mk (Q_HO (hoff 17 (by kernel_rfl)))
              have HP := Aside0.mk (Q_HP (hoff 15 (by kernel_rfl)))
              have q0 := (blk_cell HO.out 6).trans (rfl : _ = some (Value.slice aP pl.length cP))
              refine value_ (w1 := w') (v := .slice aP pl.length cP) (by rfl) rfl ?_ ?_
              · go_simp
                (try simp only [i64_w])
                try rfl
              refine hK.out _ _ ⟨b14_, a15_, c15_, m14_, m15_, (by rw [ha.out]; exact putSel_upk 0 hb_ rfl rfl rfl), Q_HW, Q_R0, Q_R3, Q_R5, Q_R8, Q_R10, Q_R12, Q_HZ, Q_HO, fun h0_ => absurd ((hoff 17 (by kernel_rfl)).symm.trans h0_) (by decide), Q_HP, fun h0_ => absurd ((hoff 15 (by kernel_rfl)).symm.trans h0_) (by decide), Q_HC, Q_X14_, fun h0_ => absurd ((hoff 15 (by kernel_rfl)).symm.trans h0_) (by decide)⟩
            refine steps_cons ?_ ?_
            · rintro b a w' ⟨b14_, a15_, c15_, m14_, m15_, ha, Q_HW, Q_R0, Q_R3, Q_R5, Q_R8, Q_R10, Q_R12, Q_HZ, Q_HO, Q_HO2, Q_HP, Q_H15, Q_HC, Q_X14_, Q_X15_⟩ hb_ hon hoff
              refine ⟨_, rfl, fun K hK => ?_⟩
              have e35 : a.tmps[35]? = some (.pointer (some ⟨g, 0, none⟩)) := by rw [ha]; exact (putSel_off rfl).trans rfl
              replace ha := Aside0.mk ha
              have HW := Aside0.mk Q_HW
              have R0 := Aside0.mk (Q_R0 hb_)
              have HZ := Aside0.mk Q_HZ
              have HO := Aside0.mk (Q_HO (hoff 17 (by kernel_rfl)))
              have HP := Aside0.mk (Q_HP (hoff 15 (by kernel_rfl)))
              refine goes_ Tryd.func93 (by kernel_rfl) rfl #[.pointer (some ⟨g, 0, none⟩)] (by rfl) rfl rfl (by simp only [List.map_toArray, List.map_cons, List.map_nil, Act.eval, Array.getD_eq_getD_getElem?, Option.getD_some, e35]) ?_
              refine (rdT_calls E1.out g w0 w' R0.out HW.out).mono ?_
              rintro e w2 ⟨rfl, hI, hB, hKp⟩
              refine ⟨_, rfl, ?_⟩
              refine hK.out _ _ ⟨b14_, a15_, c15_, m14_, m15_, (by rw [ha.out]; exact putSel_upk 1 hb_ rfl rfl rfl), hB, fun h0_ => absurd ((up_self b 3).symm.trans h0_) (by decide), fun _ _ => hI, fun h0_ _ => absurd ((hoff 5 (by kernel_rfl)).symm.trans h0_) (by decide), fun h0_ _ => absurd ((hoff 8 (by kernel_rfl)).symm.trans h0_) (by decide), fun h0_ _ => absurd ((hoff 10 (by kernel_rfl)).symm.trans h0_) (by decide), fun h0_ => absurd ((hoff 12 (by kernel_rfl)).symm.trans h0_) (by decide), KeepBut.blk hKp HZ.out HNZG.out (by simp), fun _ => KeepBut.blk hKp HO.out HNG.out (by simp), fun h0_ => absurd ((hoff 17 (by kernel_rfl)).symm.trans h0_) (by decide), fun _ => R_reader HP.out rfl R0.out (by decide) hKp, fun h0_ => absurd ((hoff 15 (by kernel_rfl)).symm.trans h0_) (by decide), fun h0_ _ => absurd ((hoff 14 (by kernel_rfl)).symm.trans h0_) (by decide), fun h0_ => absurd ((hoff 14 (by kernel_rfl)).symm.trans h0_) (by decide), fun h0_ => absurd ((hoff 15 (by kernel_rfl)).symm.trans h0_) (by decide)⟩
            refine steps_cons ?_ ?_
            · rintro b a w' ⟨b14_, a15_, c15_, m14_, m15_, ha, Q_HW, Q_R0, Q_R3, Q_R5, Q_R8, Q_R10, Q_R12, Q_HZ, Q_HO, Q_HO2, Q_HP, Q_H15, Q_HC, Q_X14_, Q_X15_⟩ hb_ hon hoff
              refine ⟨_, rfl, fun K hK => ?_⟩
              have e37 : a.tmps[37]? = some (.pointer (some ⟨g, 0, none⟩)) := by rw [ha]; exact (putSel_off rfl).trans rfl
              replace ha := Aside0.mk ha
              have HW := Aside0.mk Q_HW
              have R3 := Aside0.mk (Q_R3 (hon 3 (by kernel_rfl)) hb_)
              have HZ := Aside0.mk Q_HZ
              have HO := Aside0.mk (Q_HO (hoff 17 (by kernel_rfl)))
              have HP := Aside0.mk (Q_HP (hoff 15 (by kernel_rfl)))
              refine goes_ Tryd.func90 (by kernel_rfl) rfl #[.pointer (some ⟨g, 0, none⟩)] (by rfl) rfl rfl (by simp only [List.map_toArray, List.map_cons, List.map_nil, Act.eval, Array.getD_eq_getD_getElem?, Option.getD_some, e37]) ?_
              refine (rdB_calls E2.out g w0 w' R3.out HW.out).mono ?_
              rintro e w2 ⟨rfl, hI, hB, hKp⟩
              refine ⟨_, rfl, ?_⟩
              refine hK.out _ _ ⟨b14_, a15_, c15_, m14_, m15_, (by rw [ha.out]; exact putSel_upk 2 hb_ rfl rfl rfl), hB, fun h0_ => absurd ((hon 3 (by kernel_rfl)).symm.trans h0_) (by decide), fun _ h1_ => absurd ((up_self b 5).symm.trans h1_) (by decide), fun _ _ => hI, fun h0_ _ => absurd ((hoff 8 (by kernel_rfl)).symm.trans h0_) (by decide), fun h0_ _ => absurd ((hoff 10 (by kernel_rfl)).symm.trans h0_) (by decide), fun h0_ => absurd ((hoff 12 (by kernel_rfl)).symm.trans h0_) (by decide), KeepBut.blk hKp HZ.out HNZG.out (by simp), fun _ => KeepBut.blk hKp HO.out HNG.out (by simp), fun h0_ => absurd ((hoff 17 (by kernel_rfl)).symm.trans h0_) (by decide), fun _ => R_reader HP.out rfl R3.out (by decide) hKp, fun h0_ => absurd ((hoff 15 (by kernel_rfl)).symm.trans h0_) (by decide), fun h0_ _ => absurd ((hoff 14 (by kernel_rfl)).symm.trans h0_) (by decide), fun h0_ => absurd ((hoff 14 (by kernel_rfl)).symm.trans h0_) (by decide), fun h0_ => absurd ((hoff 15 (by kernel_rfl)).symm.trans h0_) (by decide)⟩
            refine steps_cons ?_ ?_
            · rintro b a w' ⟨b14_, a15_, c15_, m14_, m15_, ha, Q_HW, Q_R0, Q_R3, Q_R5, Q_R8, Q_R10, Q_R12, Q_HZ, Q_HO, Q_HO2, Q_HP, Q_H15, Q_HC, Q_X14_, Q_X15_⟩ hb_ hon hoff
              refine ⟨_, rfl, fun K hK => ?_⟩
              have e38 : a.tmps[38]? = some (.int .u8 k1) := by rw [ha]; exact putSel_on (e := (5, 38, .int .u8 k1)) 2 rfl rfl (hon 5 (by kernel_rfl)) rfl
              replace ha := Aside0.mk ha
              have HW := Aside0.mk Q_HW
              have HZ := Aside0.mk Q_HZ
              have HO := Aside0.mk (Q_HO (hoff 17 (by kernel_rfl)))
              have HP := Aside0.mk (Q_HP (hoff 15 (by kernel_rfl)))
              refine value_ (w1 := w') (v := .int .i64 k1) (by rfl) rfl ?_ ?_
              · go_simp
                (try simp only [i64_w])
                try rfl
              refine hK.out _ _ ⟨b14_, a15_, c15_, m14_, m15_, (by rw [ha.out]; exact putSel_upk 3 hb_ rfl rfl rfl), Q_HW, fun h0_ => absurd ((hon 3 (by kernel_rfl)).symm.trans h0_) (by decide), fun _ h1_ => absurd ((hon 5 (by kernel_rfl)).symm.trans h1_) (by decide), Q_R5, Q_R8, Q_R10, Q_R12, Q_HZ, Q_HO, fun h0_ => absurd ((hoff 17 (by kernel_rfl)).symm.trans h0_) (by decide), Q_HP, fun h0_ => absurd ((hoff 15 (by kernel_rfl)).symm.trans h0_) (by decide), fun h0_ _ => absurd ((hoff 14 (by kernel_rfl)).symm.trans h0_) (by decide), fun h0_ => absurd ((hoff 14 (by kernel_rfl)).symm.trans h0_) (by decide), fun h0_ => absurd ((hoff 15 (by kernel_rfl)).symm.trans h0_) (by decide)⟩
            refine steps_cons ?_ ?_
            · rintro b a w' ⟨b14_, a15_, c15_, m14_, m15_, ha, Q_HW, Q_R0, Q_R3, Q_R5, Q_R8, Q_R10, Q_R12, Q_HZ, Q_HO, Q_HO2, Q_HP, Q_H15, Q_HC, Q_X14_, Q_X15_⟩ hb_ hon hoff
              refine ⟨_, rfl, fun K hK => ?_⟩
              have e40 : a.tmps[40]? = some (.pointer (some ⟨g, 0, none⟩)) := by rw [ha]; exact (putSel_off rfl).trans rfl
              replace ha := Aside0.mk ha
              have HW := Aside0.mk Q_HW
              have R5 := Aside0.mk (Q_R5 (hon 5 (by kernel_rfl)) hb_)
              have HZ := Aside0.mk Q_HZ
              have HO := Aside0.mk (Q_HO (hoff 17 (by kernel_rfl)))
              have HP := Aside0.mk (Q_HP (hoff 15 (by kernel_rfl)))
              refine goes_ Tryd.func91 (by kernel_rfl) rfl #[.pointer (some ⟨g, 0, none⟩)] (by rfl) rfl rfl (by simp only [List.map_toArray, List.map_cons, List.map_nil, Act.eval, Array.getD_eq_getD_getElem?, Option.getD_some, e40]) ?_
              refine (rdN_calls E3.out g w0 w' R5.out HW.out).mono ?_
              rintro e w2 ⟨rfl, hI, hB, hKp⟩
              refine ⟨_, rfl, ?_⟩
              refine hK.out _ _ ⟨b14_, a15_, c15_, m14_, m15_, (by rw [ha.out]; exact putSel_upk 4 hb_ rfl rfl rfl), hB, fun h0_ => absurd ((hon 3 (by kernel_rfl)).symm.trans h0_) (by decide), fun _ h1_ => absurd ((hon 5 (by kernel_rfl)).symm.trans h1_) (by decide), fun _ h1_ => absurd ((up_self b 8).symm.trans h1_) (by decide), fun _ _ => hI, fun h0_ _ => absurd ((hoff 10 (by kernel_rfl)).symm.trans h0_) (by decide), fun h0_ => absurd ((hoff 12 (by kernel_rfl)).symm.trans h0_) (by decide), KeepBut.blk hKp HZ.out HNZG.out (by simp), fun _ => KeepBut.blk hKp HO.out HNG.out (by simp), fun h0_ => absurd ((hoff 17 (by kernel_rfl)).symm.trans h0_) (by decide), fun _ => R_reader HP.out rfl R5.out (by decide) hKp, fun h0_ => absurd ((hoff 15 (by kernel_rfl)).symm.trans h0_) (by decide), fun h0_ _ => absurd ((hoff 14 (by kernel_rfl)).symm.trans h0_) (by decide), fun h0_ => absurd ((hoff 14 (by kernel_rfl)).symm.trans h0_) (by decide), fun h0_ => absurd ((hoff 15 (by kernel_rfl)).symm.trans h0_) (by decide)⟩
            refine steps_cons ?_ ?_
            · rintro b a w' ⟨b14_, a15_, c15_, m14_, m15_, ha, Q_HW, Q_R0, Q_R3, Q_R5, Q_R8, Q_R10, Q_R12, Q_HZ, Q_HO, Q_HO2, Q_HP, Q_H15, Q_HC, Q_X14_, Q_X15_⟩ hb_ hon hoff
              refine ⟨_, rfl, fun K hK => ?_⟩
              have e42 : a.tmps[42]? = some (.pointer (some ⟨g, 0, none⟩)) := by rw [ha]; exact (putSel_off rfl).trans rfl
              replace ha := Aside0.mk ha
              have HW := Aside0.mk Q_HW
              have R8 := Aside0.mk (Q_R8 (hon 8 (by kernel_rfl)) hb_)
              have HZ := Aside0.mk Q_HZ
              have HO := Aside0.mk (Q_HO (hoff 17 (by kernel_rfl)))
              have HP := Aside0.mk (Q_HP (hoff 15 (by kernel_rfl)))
              refine goes_ Tryd.func91 (by kernel_rfl) rfl #[.pointer (some ⟨g, 0, none⟩)] (by rfl) rfl rfl (by simp only [List.map_toArray, List.map_cons, List.map_nil, Act.eval, Array.getD_eq_getD_getElem?, Option.getD_some, e42]) ?_
              refine (rdN_calls E4.out g w0 w' R8.out HW.out).mono ?_
              rintro e w2 ⟨rfl, hI, hB, hKp⟩
              refine ⟨_, rfl, ?_⟩
              refine hK.out _ _ ⟨b14_, a15_, c15_, m14_, m15_, (by rw [ha.out]; exact putSel_upk 5 hb_ rfl rfl rfl), hB, fun h0_ => absurd ((hon 3 (by kernel_rfl)).symm.trans h0_) (by decide), fun _ h1_ => absurd ((hon 5 (by kernel_rfl)).symm.trans h1_) (by decide), fun _ h1_ => absurd ((hon 8 (by kernel_rfl)).symm.trans h1_) (by decide), fun _ h1_ => absurd ((up_self b 10).symm.trans h1_) (by decide), fun _ _ => hI, fun h0_ => absurd ((hoff 12 (by kernel_rfl)).symm.trans h0_) (by decide), KeepBut.blk hKp HZ.out HNZG.out (by simp), fun _ => KeepBut.blk hKp HO.out HNG.out (by simp), fun h0_ => absurd ((hoff 17 (by kernel_rfl)).symm.trans h0_) (by decide), fun _ => R_reader HP.out rfl R8.out (by decide) hKp, fun h0_ => absurd ((hoff 15 (by kernel_rfl)).symm.trans h0_) (by decide), fun h0_ _ => absurd ((hoff 14 (by kernel_rfl)).symm.trans h0_) (by decide), fun h0_ => absurd ((hoff 14 (by kernel_rfl)).symm.trans h0_) (by decide), fun h0_ => absurd ((hoff 15 (by kernel_rfl)).symm.trans h0_) (by decide)⟩
            refine steps_cons ?_ ?_
            · rintro b a w' ⟨b14_, a15_, c15_, m14_, m15_, ha, Q_HW, Q_R0, Q_R3, Q_R5, Q_R8, Q_R10, Q_R12, Q_HZ, Q_HO, Q_HO2, Q_HP, Q_H15, Q_HC, Q_X14_, Q_X15_⟩ hb_ hon hoff
              refine ⟨_, rfl, fun K hK => ?_⟩
              have e44 : a.tmps[44]? = some (.pointer (some ⟨g, 0, none⟩)) := by rw [ha]; exact (putSel_off rfl).trans rfl
              replace ha := Aside0.mk ha
              have HW := Aside0.mk Q_HW
              have R10 := Aside0.mk (Q_R10 (hon 10 (by kernel_rfl)) hb_)
              have HZ := Aside0.mk Q_HZ
              have HO := Aside0.mk (Q_HO (hoff 17 (by kernel_rfl)))
              have HP := Aside0.mk (Q_HP (hoff 15 (by kernel_rfl)))
              refine goes_ Tryd.func93 (by kernel_rfl) rfl #[.pointer (some ⟨g, 0, none⟩)] (by rfl) rfl rfl (by simp only [List.map_toArray, List.map_cons, List.map_nil, Act.eval, Array.getD_eq_getD_getElem?, Option.getD_some, e44]) ?_
              refine (rdT_calls E5.out g w0 w' R10.out HW.out).mono ?_
              rintro e w2 ⟨rfl, hI, hB, hKp⟩
              refine ⟨_, rfl, ?_⟩
              refine hK.out _ _ ⟨b14_, a15_, c15_, m14_, m15_, (by rw [ha.out]; exact putSel_upk 6 hb_ rfl rfl rfl), hB, fun h0_ => absurd ((hon 3 (by kernel_rfl)).symm.trans h0_) (by decide), fun _ h1_ => absurd ((hon 5 (by kernel_rfl)).symm.trans h1_) (by decide), fun _ h1_ => absurd ((hon 8 (by kernel_rfl)).symm.trans h1_) (by decide), fun _ h1_ => absurd ((hon 10 (by kernel_rfl)).symm.trans h1_) (by decide), fun _ h1_ => absurd ((up_self b 12).symm.trans h1_) (by decide), fun _ => hI, KeepBut.blk hKp HZ.out HNZG.out (by simp), fun _ => KeepBut.blk hKp HO.out HNG.out (by simp), fun h0_ => absurd ((hoff 17 (by kernel_rfl)).symm.trans h0_) (by decide), fun _ => R_reader HP.out rfl R10.out (by decide) hKp, fun h0_ => absurd ((hoff 15 (by kernel_rfl)).symm.trans h0_) (by decide), fun h0_ _ => absurd ((hoff 14 (by kernel_rfl)).symm.trans h0_) (by decide), fun h0_ => absurd ((hoff 14 (by kernel_rfl)).symm.trans h0_) (by decide), fun h0_ => absurd ((hoff 15 (by kernel_rfl)).symm.trans h0_) (by decide)⟩
            refine steps_cons ?_ ?_
            · rintro b a w' ⟨b14_, a15_, c15_, m14_, m15_, ha, Q_HW, Q_R0, Q_R3, Q_R5, Q_R8, Q_R10, Q_R12, Q_HZ, Q_HO, Q_HO2, Q_HP, Q_H15, Q_HC, Q_X14_, Q_X15_⟩ hb_ hon hoff
              refine ⟨_, rfl, fun K hK => ?_⟩
              have e36 : a.tmps[36]? = some (.string n1) := by rw [ha]; exact putSel_on (e := (3, 36, .string n1)) 1 rfl rfl (hon 3 (by kernel_rfl)) rfl
              have e39 : a.tmps[39]? = some (.int .i64 k1) := by rw [ha]; exact putSel_on (e := (6, 39, .int .i64 k1)) 3 rfl rfl (hon 6 (by kernel_rfl)) rfl
              have e41 : a.tmps[41]? = some (.int .i64 lo1) := by rw [ha]; exact putSel_on (e := (8, 41, .int .i64 lo1)) 4 rfl rfl (hon 8 (by kernel_rfl)) rfl
              have e43 : a.tmps[43]? = some (.int .i64 hi1) := by rw [ha]; exact putSel_on (e := (10, 43, .int .i64 hi1)) 5 rfl rfl (hon 10 (by kernel_rfl)) rfl
              have e45 : a.tmps[45]? = some (.string tx1) := by rw [ha]; exact putSel_on (e := (12, 45, .string tx1)) 6 rfl rfl (hon 12 (by kernel_rfl)) rfl
              replace ha := Aside0.mk ha
              have HW := Aside0.mk Q_HW
              have R12 := Aside0.mk (Q_R12 (hon 12 (by kernel_rfl)))
              have HZ := Aside0.mk Q_HZ
              have HO := Aside0.mk (Q_HO (hoff 17 (by kernel_rfl)))
              have HP := Aside0.mk (Q_HP (hoff 15 (by kernel_rfl)))
              refine value_ (w1 := w') (v := .agg #[.string n1, .int .i64 k1, .int .i64 lo1, .int .i64 hi1, .string tx1]) (by rfl) rfl ?_ ?_
              · go_simp
                (try simp only [i64_w])
                try rfl
              refine hK.out _ _ ⟨b14_, a15_, c15_, m14_, m15_, (by rw [ha.out]; exact putSel_upk 7 hb_ rfl rfl rfl), Q_HW, fun h0_ => absurd ((hon 3 (by kernel_rfl)).symm.trans h0_) (by decide), fun _ h1_ => absurd ((hon 5 (by kernel_rfl)).symm.trans h1_) (by decide), fun _ h1_ => absurd ((hon 8 (by kernel_rfl)).symm.trans h1_) (by decide), fun _ h1_ => absurd ((hon 10 (by kernel_rfl)).symm.trans h1_) (by decide), fun _ h1_ => absurd ((hon 12 (by kernel_rfl)).symm.trans h1_) (by decide), Q_R12, Q_HZ, Q_HO, fun h0_ => absurd ((hoff 17 (by kernel_rfl)).symm.trans h0_) (by decide), Q_HP, fun h0_ => absurd ((hoff 15 (by kernel_rfl)).symm.trans h0_) (by decide), fun h0_ _ => absurd ((hoff 14 (by kernel_rfl)).symm.trans h0_) (by decide), fun h0_ => absurd ((hoff 14 (by kernel_rfl)).symm.trans h0_) (by decide), fun h0_ => absurd ((hoff 15 (by kernel_rfl)).symm.trans h0_) (by decide)⟩
            refine steps_cons ?_ ?_
            · rintro b a w' ⟨b14_, a15_, c15_, m14_, m15_, ha, Q_HW, Q_R0, Q_R3, Q_R5, Q_R8, Q_R10, Q_R12, Q_HZ, Q_HO, Q_HO2, Q_HP, Q_H15, Q_HC, Q_X14_, Q_X15_⟩ hb_ hon hoff
              refine ⟨_, rfl, fun K hK => ?_⟩
              have e46 : a.tmps[46]? = some (.agg #[.string n1, .int .i64 k1, .int .i64 lo1, .int .i64 hi1, .string tx1]) := by rw [ha]; exact putSel_on (e := (13, 46, .agg #[.string n1, .int .i64 k1, .int .i64 lo1, .int .i64 hi1, .string tx1])) 7 rfl rfl (hon 13 (by kernel_rfl)) rfl
              replace ha := Aside0.mk ha
              have HW := Aside0.mk Q_HW
              have R12 := Aside0.mk (Q_R12 (hon 12 (by kernel_rfl)))
              have HZ := Aside0.mk Q_HZ
              have HO := Aside0.mk (Q_HO (hoff 17 (by kernel_rfl)))
              have HP := Aside0.mk (Q_HP (hoff 15 (by kernel_rfl)))
              refine value_ (w1 := w'.alloc (.cells #[.string n1, .int .i64 k1, .int .i64 lo1, .int .i64 hi1, .string tx1] 44)) (v := .slice (some ⟨w'.heap.size, 0, none⟩) 1 1) (by rfl) rfl (by go_simp) ?_
              refine hK.out _ _ ⟨w'.heap.size, a15_, c15_, (.slice (some ⟨w'.heap.size, 0, none⟩) 1 1), m15_, (by rw [ha.out]; exact putSel_upk 8 hb_ rfl rfl rfl), below_alloc HW.out _, fun h0_ => absurd ((hon 3 (by kernel_rfl)).symm.trans h0_) (by decide), fun _ h1_ => absurd ((hon 5 (by kernel_rfl)).symm.trans h1_) (by decide), fun _ h1_ => absurd ((hon 8 (by kernel_rfl)).symm.trans h1_) (by decide), fun _ h1_ => absurd ((hon 10 (by kernel_rfl)).symm.trans h1_) (by decide), fun _ h1_ => absurd ((hon 12 (by kernel_rfl)).symm.trans h1_) (by decide), fun _ => IsRd.alloc R12.out _, blk_alloc HZ.out _, fun _ => blk_alloc HO.out _, fun h0_ => absurd ((hoff 17 (by kernel_rfl)).symm.trans h0_) (by decide), fun _ => Kd.R_alloc HP.out _, fun h0_ => absurd ((hoff 15 (by kernel_rfl)).symm.trans h0_) (by decide), fun _ _ => C_oneCo (n1, k1, lo1, hi1, tx1) (blk_new w' _), fun _ => rfl, fun h0_ => absurd ((hoff 15 (by kernel_rfl)).symm.trans h0_) (by decide)⟩
            refine steps_cons ?_ ?_
            · rintro b a w' ⟨b14_, a15_, c15_, m14_, m15_, ha, Q_HW, Q_R0, Q_R3, Q_R5, Q_R8, Q_R10, Q_R12, Q_HZ, Q_HO, Q_HO2, Q_HP, Q_H15, Q_HC, Q_X14_, Q_X15_⟩ hb_ hon hoff
              refine ⟨_, rfl, fun K hK => ?_⟩
              have e34 : a.tmps[34]? = some (.slice aP pl.length cP) := by rw [ha]; exact putSel_on (e := (1, 34, .slice aP pl.length cP)) 0 rfl rfl (hon 1 (by kernel_rfl)) rfl
              have e47 : a.tmps[47]? = some (m14_) := by rw [ha]; exact putSel_on (e := (14, 47, m14_)) 8 rfl rfl (hon 14 (by kernel_rfl)) rfl
              rw [Q_X14_ (hon 14 (by kernel_rfl))] at e47
              replace ha := Aside0.mk ha
              have HW := Aside0.mk Q_HW
              have R12 := Aside0.mk (Q_R12 (hon 12 (by kernel_rfl)))
              have HZ := Aside0.mk Q_HZ
              have HO := Aside0.mk (Q_HO (hoff 17 (by kernel_rfl)))
              have HP := Aside0.mk (Q_HP hb_)
              have HC := Aside0.mk (Q_HC (hon 14 (by kernel_rfl)) hb_)
              refine cat_step_at kCo flatKM w0 w' w0.heap.size (by rfl) (.tmp 34) (.tmp 47) 27 44 (.agg #[(.string ⟨#[]⟩), (.int .i64 0), (.int .i64 0), (.int .i64 0), (.string ⟨#[]⟩)]) 56 rfl Tryd.underlying27 infoCo rfl (by decide) (by omega) (.slice aP pl.length cP) (pl) ([(n1, k1, lo1, hi1, tx1)]) (some ⟨b14_, 0, none⟩) 1 1 (eval_of e34) (eval_of e47) (HP.out) (HC.out) HW.out HW.out.size (by first | omega | (simp; omega)) ?_
              intro v1 w1 ho hb hg hat
              obtain ⟨A1, c1, rfl⟩ := Kd.R_slice ho
              refine hK.out _ _ ⟨b14_, A1, c1, m14_, (.slice A1 (pl ++ [(n1, k1, lo1, hi1, tx1)]).length c1), (by rw [ha.out]; exact putSel_upk 9 hb_ rfl rfl rfl), hb, fun h0_ => absurd ((hon 3 (by kernel_rfl)).symm.trans h0_) (by decide), fun _ h1_ => absurd ((hon 5 (by kernel_rfl)).symm.trans h1_) (by decide), fun _ h1_ => absurd ((hon 8 (by kernel_rfl)).symm.trans h1_) (by decide), fun _ h1_ => absurd ((hon 10 (by kernel_rfl)).symm.trans h1_) (by decide), fun _ h1_ => absurd ((hon 12 (by kernel_rfl)).symm.trans h1_) (by decide), fun _ => IsRd.grown R12.out hg (rd_ne HP.out R12.out (by decide)), blk_grown HZ.out hg (R_ne HP.out HZ.out (by decide)), fun _ => blk_grown HO.out hg (R_ne HP.out HO.out (by decide)), fun h0_ => absurd ((hoff 17 (by kernel_rfl)).symm.trans h0_) (by decide), fun h0_ => absurd ((up_self b 15).symm.trans h0_) (by decide), fun _ => ho, fun _ h1_ => absurd ((up_self b 15).symm.trans h1_) (by decide), Q_X14_, fun _ => rfl⟩
            refine steps_cons ?_ ?_
            · rintro b a w' ⟨b14_, a15_, c15_, m14_, m15_, ha, Q_HW, Q_R0, Q_R3, Q_R5, Q_R8, Q_R10, Q_R12, Q_HZ, Q_HO, Q_HO2, Q_HP, Q_H15, Q_HC, Q_X14_, Q_X15_⟩ hb_ hon hoff
              refine ⟨_, rfl, fun K hK => ?_⟩
              have e3 : a.tmps[3]? = some (.pointer (some ⟨bo, 0, none⟩)) := by rw [ha]; exact (putSel_off rfl).trans rfl
              replace ha := Aside0.mk ha
              have HW := Aside0.mk Q_HW
              have R12 := Aside0.mk (Q_R12 (hon 12 (by kernel_rfl)))
              have HZ := Aside0.mk Q_HZ
              have HO := Aside0.mk (Q_HO (hoff 17 (by kernel_rfl)))
              have H15 := Aside0.mk (Q_H15 (hon 15 (by kernel_rfl)))
              refine value_ (w1 := w') (v := .pointer (some ⟨bo, 6, none⟩)) (by rfl) rfl ?_ ?_
              · go_simp
                (try simp only [i64_w])
                try rfl
              refine hK.out _ _ ⟨b14_, a15_, c15_, m14_, m15_, (by rw [ha.out]; exact putSel_upk 10 hb_ rfl rfl rfl), Q_HW, fun h0_ => absurd ((hon 3 (by kernel_rfl)).symm.trans h0_) (by decide), fun _ h1_ => absurd ((hon 5 (by kernel_rfl)).symm.trans h1_) (by decide), fun _ h1_ => absurd ((hon 8 (by kernel_rfl)).symm.trans h1_) (by decide), fun _ h1_ => absurd ((hon 10 (by kernel_rfl)).symm.trans h1_) (by decide), fun _ h1_ => absurd ((hon 12 (by kernel_rfl)).symm.trans h1_) (by decide), Q_R12, Q_HZ, Q_HO, fun h0_ => absurd ((hoff 17 (by kernel_rfl)).symm.trans h0_) (by decide), fun h0_ => absurd ((hon 15 (by kernel_rfl)).symm.trans h0_) (by decide), Q_H15, fun _ h1_ => absurd ((hon 15 (by kernel_rfl)).symm.trans h1_) (by decide), Q_X14_, Q_X15_⟩
            refine steps_cons ?_ ?_
            · rintro b a w' ⟨b14_, a15_, c15_, m14_, m15_, ha, Q_HW, Q_R0, Q_R3, Q_R5, Q_R8, Q_R10, Q_R12, Q_HZ, Q_HO, Q_HO2, Q_HP, Q_H15, Q_HC, Q_X14_, Q_X15_⟩ hb_ hon hoff
              refine ⟨_, rfl, fun K hK => ?_⟩
              have e49 : a.tmps[49]? = some (.pointer (some ⟨bo, 6, none⟩)) := by rw [ha]; exact putSel_on (e := (16, 49, .pointer (some ⟨bo, 6, none⟩))) 10 rfl rfl (hon 16 (by kernel_rfl)) rfl
              have e48 : a.tmps[48]? = some (m15_) := by rw [ha]; exact putSel_on (e := (15, 48, m15_)) 9 rfl rfl (hon 15 (by kernel_rfl)) rfl
              rw [Q_X15_ (hon 15 (by kernel_rfl))] at e48
              replace ha := Aside0.mk ha
              have HW := Aside0.mk Q_HW
              have R12 := Aside0.mk (Q_R12 (hon 12 (by kernel_rfl)))
              have HZ := Aside0.mk Q_HZ
              have HO := Aside0.mk (Q_HO hb_)
              have H15 := Aside0.mk (Q_H15 (hon 15 (by kernel_rfl)))
              have z0 := (blk_cell HO.out 6).trans (rfl : _ = some (Value.slice aP pl.length cP))
              have f0 := blk_frozen HO.out 6
              have hl := blk_lt HO.out
              refine skip_ (w1 := w'.setCell ⟨bo, 6, none⟩ (.slice a15_ (pl ++ [(n1, k1, lo1, hi1, tx1)]).length c15_)) (by rfl) rfl (by go_simp) ?_
              refine hK.out _ _ ⟨b14_, a15_, c15_, m14_, m15_, (by rw [ha.out]; exact putSel_none (v := undef) rfl), below_set HW.out HGE.out, fun h0_ => absurd ((hon 3 (by kernel_rfl)).symm.trans h0_) (by decide), fun _ h1_ => absurd ((hon 5 (by kernel_rfl)).symm.trans h1_) (by decide), fun _ h1_ => absurd ((hon 8 (by kernel_rfl)).symm.trans h1_) (by decide), fun _ h1_ => absurd ((hon 10 (by kernel_rfl)).symm.trans h1_) (by decide), fun _ h1_ => absurd ((hon 12 (by kernel_rfl)).symm.trans h1_) (by decide), fun _ => rd_set R12.out HNG2.out _, blk_far (p := ⟨bo, 6, none⟩) HZ.out HNZO.out _, fun h0_ => absurd ((up_self b 17).symm.trans h0_) (by decide), fun _ => blk_put HO.out 6 (.slice a15_ (pl ++ [(n1, k1, lo1, hi1, tx1)]).length c15_) rfl, fun h0_ => absurd ((hon 15 (by kernel_rfl)).symm.trans h0_) (by decide), fun _ => R_block H15.out rfl HO.out (by decide) ((KeepBut.refl _ bo none).set_ 6 _), fun _ h1_ => absurd ((hon 15 (by kernel_rfl)).symm.trans h1_) (by decide), Q_X14_, Q_X15_⟩
            exact steps_nil
          · rintro b a w' hall ⟨b14_, a15_, c15_, m14_, m15_, ha, Q_HW, Q_R0, Q_R3, Q_R5, Q_R8, Q_R10, Q_R12, Q_HZ, Q_HO, Q_HO2, Q_HP, Q_H15, Q_HC, Q_X14_, Q_X15_⟩
            clear HO HP HW HZ R0
            have hb1_ := hall 1 (by kernel_rfl)
            have hb3_ := hall 3 (by kernel_rfl)
            have hb5_ := hall 5 (by kernel_rfl)
            have hb6_ := hall 6 (by kernel_rfl)
            have hb8_ := hall 8 (by kernel_rfl)
            have hb10_ := hall 10 (by kernel_rfl)
            have hb12_ := hall 12 (by kernel_rfl)
            have hb13_ := hall 13 (by kernel_rfl)
            have hb14_ := hall 14 (by kernel_rfl)
            have hb15_ := hall 15 (by kernel_rfl)
            have hb16_ := hall 16 (by kernel_rfl)
            have hb17_ := hall 17 (by kernel_rfl)
            subst ha
            obtain rfl := Q_X14_ hb14_
            obtain rfl := Q_X15_ hb15_
            simp only [putSel, hb1_, hb3_, hb5_, hb6_, hb8_, hb10_, hb12_, hb13_, hb14_, hb15_, hb16_, hb17_, if_true, Act.put, List.setIfInBounds_toArray, List.set_cons_zero, List.set_cons_succ]
            have HW := Aside0.mk Q_HW
            clear Q_HW
            clear Q_R0
            clear Q_R3
            clear Q_R5
            clear Q_R8
            clear Q_R10
            have R12 := Aside0.mk (Q_R12 hb12_)
            clear Q_R12
            have HZ := Aside0.mk Q_HZ
            clear Q_HZ
            clear Q_HO
            have HO2 := Aside0.mk (Q_HO2 hb17_)
            clear Q_HO2
            clear Q_HP
            have H15 := Aside0.mk (Q_H15 hb15_)
            clear Q_H15
            clear Q_HC
            clear hall hb1_ hb3_ hb5_ hb6_ hb8_ hb10_ hb12_ hb13_ hb14_ hb15_ hb16_ hb17_
            have hwk2 : IntKind.i64.wrap (((k + 1 : Nat) : Int) - 1) = (k : Int) := by rw [Go.IntWalk.i64_in _ (by omega)]; omega
            go_wp2
            go_roundw
            case rel => exact ⟨k, s5, pl ++ [(n1, k1, lo1, hi1, tx1)], _, _, by go_num, by simp only [List.length_append, List.length_singleton]; omega, EN, R12, HW, HZ, HO2, H15⟩
            case measure => simp [intOf]
  case rest =>
    obtain ⟨aP, cP, R7, HW, HZ, HO, HP⟩ := hcut
    have hbm := rd_bound E8.out R7.out
    obtain ⟨znn, rfl⟩ : ∃ n : Nat, zn = (n : Int) := ⟨zn.toNat, by omega⟩
    have hwm2 : IntKind.i64.wrap (znn : Int) = (znn : Int) := Go.IntWalk.i64_in _ (by omega)
    have hzn : znn ≤ 255 := by omega
    rw [Int.toNat_natCast] at hul
    replace E9 := Lib.hid (show rdMany rdAt znn t8 [] = (uu, t9) by have := E9.out; rwa [Int.toNat_natCast] at this)
    clear hbm hwm
    go_upto_block 2 with (have hI0 := R7.out; clear R7; go_at_call 90; refine (rdB_calls E8.out g w0 _ hI0 HW.out).mono ?_; rintro e wd ⟨rfl, hI, hB2, hKp⟩; have R8 := Aside0.mk hI; replace HW := Aside0.mk hB2; replace HZ := Aside0.mk (KeepBut.blk hKp HZ.out HNZG.out (by simp)); replace HO := Aside0.mk (KeepBut.blk hKp HO.out HNG.out (by simp)); replace HP := Aside0.mk (R_reader HP.out rfl hI0 (by decide) hKp); clear hI hB2 hKp hI0)
    go_cut [5] (fun v wx => ∃ aA cA, Aside0 (IsRs w0 wx g t9) ∧ Aside0 (Below w0.heap.size w0 wx) ∧ Aside0 (wx.heap[bz]? = some (.cells zr 30 (0, 0))) ∧ Aside0 (wx.heap[bo]? = some (.cells #[.int .i64 zk, .int .i64 zc, .int .i64 zq, .int .i64 zh, .int .i64 za, .int .i64 zt, .slice aP pp.length cP, .slice aA uu.length cA, .slice none 0 0] 30 (0, 0))) ∧ Aside0 (Kd.R kCo 44 wx w0.heap.size (fun _ => True) (.slice aP pp.length cP) pp) ∧ Aside0 (Kd.R kAt 59 wx w0.heap.size (fun _ => True) (.slice aA uu.length cA) uu))
    case first =>
      go_wp2_with fail
      go_loopw [5] (fun i wr => ∃ (kk : Nat) (s0 : Rs) (al : List At) (aA : Option Addr) (cA : Nat), i = .int .i64 (kk : Int) ∧ kk + al.length ≤ 255 ∧ Aside0 (rdMany rdAt kk s0 al = (uu, t9)) ∧ Aside0 (IsRs w0 wr g s0) ∧ Aside0 (Below w0.heap.size w0 wr) ∧ Aside0 (wr.heap[bz]? = some (.cells zr 30 (0, 0))) ∧ Aside0 (wr.heap[bo]? = some (.cells #[.int .i64 zk, .int .i64 zc, .int .i64 zq, .int .i64 zh, .int .i64 za, .int .i64 zt, .slice aP pp.length cP, .slice aA al.length cA, .slice none 0 0] 30 (0, 0))) ∧ Aside0 (Kd.R kCo 44 wr w0.heap.size (fun _ => True) (.slice aP pp.length cP) pp) ∧ Aside0 (Kd.R kAt 59 wr w0.heap.size (fun _ => True) (.slice aA al.length cA) al)) (fun i _ => (intOf i).toNat)
      case atStart => exact ⟨znn, t8, [], none, 0, rfl, by simpa using hzn, ⟨E9.out⟩, R8, HW, HZ, HO, HP, ⟨Kd.R_nil _ _ _ _ _⟩⟩
      case round =>
        obtain ⟨kk, s0, al, aA, cA, rfl, hk, EK, R0, HW, HZ, HO, HP, HA⟩ := hrel
        by_cases hk0 : kk = 0
        · subst hk0
          obtain ⟨rfl, rfl⟩ : al = uu ∧ s0 = t9 := by have := EK.out; simpa [rdMany] using this
          have hd0 : decide (((0 : Nat) : Int) > 0) = false := by decide
          go_wp2_with fail
          go_meet
          case rel => exact ⟨aA, cA, R0, HW, HZ, HO, HP, HA⟩
        · have hd0 : decide ((kk : Int) > 0) = true := decide_eq_true (by omega)
          by_cases hbd : s0.2 = true
          · have hnb : (!s0.2) = false := by rw [hbd]; rfl
            obtain ⟨rfl, rfl⟩ : al = uu ∧ s0 = t9 := by have := EK.out; rw [rdMany_bad _ _ _ _ hbd] at this; simpa using this
            clear hbd
            go_wp2_with (go_at_call 92; refine (good_calls g _ _ w0 _ R0.out).mono ?_; rintro e w3 ⟨rfl, rfl⟩)
            go_meet
            case rel => exact ⟨aA, cA, R0, HW, HZ, HO, HP, HA⟩
          · replace hbd : s0.2 = false := by simpa using hbd
            have hnb : (!s0.2) = true := by rw [hbd]; rfl
            obtain ⟨k, rfl⟩ : ∃ k, kk = k + 1 := ⟨kk - 1, by omega⟩
            obtain ⟨n1, s1, e1⟩ : ∃ x t, rdT s0 = (x, t) := ⟨_, _, rfl⟩
            obtain ⟨k1, s2, e2⟩ : ∃ x t, rdB s1 = (x, t) := ⟨_, _, rfl⟩
            obtain ⟨m1, s3, e3⟩ : ∃ x t, rdN s2 = (x, t) := ⟨_, _, rfl⟩
            obtain ⟨tx1, s4, e4⟩ : ∃ x t, rdT s3 = (x, t) := ⟨_, _, rfl⟩
            obtain ⟨fb, hfb⟩ : ∃ b, (k1 == 1) = b := ⟨_, rfl⟩
            have EN := Aside0.mk (show rdMany rdAt k s4 (al ++ [(n1, fb, m1, tx1)]) = (uu, t9) by have := EK.out; rw [rdMany_step _ _ _ _ hbd, rdAt_of e1 e2 e3 e4, hfb] at this; exact this)
            have E1 := Lib.hid e1
            have E2 := Lib.hid e2
            have E3 := Lib.hid e3
            have E4 := Lib.hid e4
            have hal2 : al.length ≤ 255 := by omega
            clear e1 e2 e3 e4 hbd EK
            go_upto_region 10 with (first
              | (go_at_call 92; refine (good_calls g _ _ w0 _ R0.out).mono ?_; rintro e w3 ⟨rfl, rfl⟩)
              | (have hI0 := R0.out; clear R0; go_at_call 93; refine (rdT_calls E1.out g w0 _ hI0 HW.out).mono ?_; rintro e w5 ⟨rfl, hI, hB2, hKp⟩; have R1 := Aside0.mk hI; replace HW := Aside0.mk hB2; replace HZ := Aside0.mk (KeepBut.blk hKp HZ.out HNZG.out (by simp)); replace HO := Aside0.mk (KeepBut.blk hKp HO.out HNG.out (by simp)); replace HP := Aside0.mk (R_reader HP.out rfl hI0 (by decide) hKp); replace HA := Aside0.mk (R_reader HA.out rfl hI0 (by decide) hKp); clear hI hB2 hKp hI0))
            have HQ := Aside0.mk (blk_new w5 (.cells #[.string n1, .bool false, .int .i64 0, .string ⟨#[]⟩] 59))
            have HNAQ := Aside0.mk (show some w5.heap.size ≠ (Value.slice aA al.length cA).ownBlock from fun e_ => absurd (Kd.R_lt HA.out _ e_.symm) (Nat.lt_irrefl _))
            have hnq := IsRd.lt R1.out
            have hoq := blk_lt HO.out
            have hzq := blk_lt HZ.out
            have hgq := HW.out.size
            replace R1 := Aside0.mk (IsRd.alloc R1.out (.cells #[.string n1, .bool false, .int .i64 0, .string ⟨#[]⟩] 59))
            replace HW := Aside0.mk (below_alloc HW.out (.cells #[.string n1, .bool false, .int .i64 0, .string ⟨#[]⟩] 59))
            replace HZ := Aside0.mk (blk_alloc HZ.out (.cells #[.string n1, .bool false, .int .i64 0, .string ⟨#[]⟩] 59))
            replace HO := Aside0.mk (blk_alloc HO.out (.cells #[.string n1, .bool false, .int .i64 0, .string ⟨#[]⟩] 59))
            replace HP := Aside0.mk (Kd.R_alloc HP.out (.cells #[.string n1, .bool false, .int .i64 0, .string ⟨#[]⟩] 59))
            replace HA := Aside0.mk (Kd.R_alloc HA.out (.cells #[.string n1, .bool false, .int .i64 0, .string ⟨#[]⟩] 59))
            generalize (w5.alloc (.cells #[.string n1, .bool false, .int .i64 0, .string ⟨#[]⟩] 59)) = wq at *
            generalize w5.heap.size = bq at *
            have HNQ := Aside0.mk (show bq ≠ g by omega)
            have HNGQ := Aside0.mk (show g ≠ bq by omega)
            have HNOQ := Aside0.mk (show bo ≠ bq by omega)
            have HNZQ := Aside0.mk (show bz ≠ bq by omega)
            have HGQ := Aside0.mk (show w0.heap.size ≤ bq by omega)
            clear hnq hoq hzq hgq
            go_upto_region 11 with (first
              | (have hI0 := R1.out; clear R1; go_at_call 90; refine (rdB_calls E2.out g w0 _ hI0 HW.out).mono ?_; rintro e w6 ⟨rfl, hI, hB2, hKp⟩; have R2 := Aside0.mk hI; replace HW := Aside0.mk hB2; replace HZ := Aside0.mk (KeepBut.blk hKp HZ.out HNZG.out (by simp)); replace HO := Aside0.mk (KeepBut.blk hKp HO.out HNG.out (by simp)); replace HP := Aside0.mk (R_reader HP.out rfl hI0 (by decide) hKp); replace HA := Aside0.mk (R_reader HA.out rfl hI0 (by decide) hKp); replace HQ := Aside0.mk (KeepBut.blk hKp HQ.out HNQ.out (by simp)); clear hI hB2 hKp hI0)
              | (have hI0 := R2.out; clear R2; go_at_call 91; refine (rdN_calls E3.out g w0 _ hI0 HW.out).mono ?_; rintro e w7 ⟨rfl, hI, hB2, hKp⟩; have R3 := Aside0.mk hI; replace HW := Aside0.mk hB2; replace HZ := Aside0.mk (KeepBut.blk hKp HZ.out HNZG.out (by simp)); replace HO := Aside0.mk (KeepBut.blk hKp HO.out HNG.out (by simp)); replace HP := Aside0.mk (R_reader HP.out rfl hI0 (by decide) hKp); replace HA := Aside0.mk (R_reader HA.out rfl hI0 (by decide) hKp); replace HQ := Aside0.mk (KeepBut.blk hKp HQ.out HNQ.out (by simp)); clear hI hB2 hKp hI0)
              | (have hI0 := R3.out; clear R3; go_at_call 93; refine (rdT_calls E4.out g w0 _ hI0 HW.out).mono ?_; rintro e w8 ⟨rfl, hI, hB2, hKp⟩; have R4 := Aside0.mk hI; replace HW := Aside0.mk hB2; replace HZ := Aside0.mk (KeepBut.blk hKp HZ.out HNZG.out (by simp)); replace HO := Aside0.mk (KeepBut.blk hKp HO.out HNG.out (by simp)); replace HP := Aside0.mk (R_reader HP.out rfl hI0 (by decide) hKp); replace HA := Aside0.mk (R_reader HA.out rfl hI0 (by decide) hKp); replace HQ := Aside0.mk (KeepBut.blk hKp HQ.out HNQ.out (by simp)); have hqv := HQ.out; have z1 := (blk_cell hqv 1).trans (rfl : _ = some (Value.bool false)); have z2 := (blk_cell hqv 2).trans (rfl : _ = some (Value.int .i64 0)); have z3 := (blk_cell hqv 3).trans (rfl : _ = some (Value.string ⟨#[]⟩)); have f1 := blk_frozen hqv 1; have f2 := blk_frozen hqv 2; have f3 := blk_frozen hqv 3; have hlq := blk_lt hqv; clear hqv; clear hI hB2 hKp hI0))
            clear z1 z2 z3 f1 f2 f3 hlq
            have R5 := Aside0.mk (rd_set (rd_set (rd_set R4.out HNGQ.out (j := 1) (.bool fb)) HNGQ.out (j := 2) (.int .i64 m1)) HNGQ.out (j := 3) (.string tx1))
            have HQ3 : Aside0 ((((w8.setCell ⟨bq, 1, none⟩ (.bool fb)).setCell ⟨bq, 2, none⟩ (.int .i64 m1)).setCell ⟨bq, 3, none⟩ (.string tx1)).heap[bq]? = some (.cells #[.string n1, .bool fb, .int .i64 m1, .string tx1] 59 (0, 0))) := Aside0.mk (blk_put (blk_put (cs' := #[.string n1, .bool fb, .int .i64 m1, .string ⟨#[]⟩]) (blk_put (cs' := #[.string n1, .bool fb, .int .i64 0, .string ⟨#[]⟩]) HQ.out 1 (.bool fb) rfl) 2 (.int .i64 m1) rfl) 3 (.string tx1) rfl)
            have HK3 := ((((KeepBut.refl w8 bq none).set_ 1 (.bool fb)).set_ 2 (.int .i64 m1)).set_ 3 (.string tx1))
            replace HW := Aside0.mk (below_set (below_set (below_set HW.out HGQ.out (j := 1) (v := .bool fb)) HGQ.out (j := 2) (v := .int .i64 m1)) HGQ.out (j := 3) (v := .string tx1))
            replace HZ := Aside0.mk (KeepBut.blk HK3 HZ.out HNZQ.out (by simp))
            replace HO := Aside0.mk (KeepBut.blk HK3 HO.out HNOQ.out (by simp))
            replace HP := Aside0.mk (R_block HP.out rfl HQ.out (by decide) HK3)
            replace HA := Aside0.mk (R_apart HA.out rfl HNAQ.out HK3)
            clear HK3 HQ R4
            generalize (((w8.setCell ⟨bq, 1, none⟩ (.bool fb)).setCell ⟨bq, 2, none⟩ (.int .i64 m1)).setCell ⟨bq, 3, none⟩ (.string tx1)) = ws at *
            have q7 := (blk_cell HO.out 7).trans (rfl : _ = some (Value.slice aA al.length cA))
            have y0 := (blk_cell HQ3.out 0).trans (rfl : _ = some (Value.string n1))
            have y1 := (blk_cell HQ3.out 1).trans (rfl : _ = some (Value.bool fb))
            have y2 := (blk_cell HQ3.out 2).trans (rfl : _ = some (Value.int .i64 m1))
            have y3 := (blk_cell HQ3.out 3).trans (rfl : _ = some (Value.string tx1))
            have hwk2 : IntKind.i64.wrap (((k + 1 : Nat) : Int) - 1) = (k : Int) := by rw [Go.IntWalk.i64_in _ (by omega)]; omega
            go_wp2_with ((with_reducible refine gate_builtin (b := .append) (xs := #[.tmp 74, .tmp 76]) rfl ?_); at_builtin; refine Kd.R_append (kAt) (w0 := w0) (w0.heap.size) rfl (.tmp 74) (.tmp 76) 28 59 (.agg #[(.string ⟨#[]⟩), (.bool false), (.int .i64 0), (.string ⟨#[]⟩)]) 48 rfl Tryd.underlying28 infoAt rfl (by decide) (by omega) (.slice aA al.length cA) (al) ((n1, fb, m1, tx1)) [.string n1, .bool fb, .int .i64 m1, .string tx1] (fun _ => True) (fun _ => False) rfl ?aX ?aP (fun _ hk => hk.elim) ?aF ?aO ?aB ?aS ?aL ?_; (case aX => first | rfl | (simp [Act.eval]; done)); (case aP => exact rfl); (case aB => exact (by repeat (with_reducible first | exact HW.out | apply below_alloc | apply pw_below_drewN | apply below_drew1))); (case aF => exact (fun _ _ => trivial)); (case aO => exact (by (with_reducible repeat (first | apply Kd.R_alloc | apply Kd.R_drewN | apply Kd.R_drew)); exact HA.out)); (case aS => exact (below_size (by repeat (with_reducible first | exact HW.out | apply below_alloc | apply pw_below_drewN | apply below_drew1)))); (case aL => omega); intro v1 w1 ho hb hg hat; obtain ⟨A1, c1, rfl⟩ := Kd.R_slice ho; have R6 := Aside0.mk (IsRd.grown R5.out hg (rd_ne HA.out R5.out (by decide))); have HZ1 := Aside0.mk (blk_grown HZ.out hg (R_ne HA.out HZ.out (by decide))); have ho1 := blk_grown HO.out hg (R_ne HA.out HO.out (by decide)); have z7 := (blk_cell ho1 7).trans (rfl : _ = some (Value.slice aA al.length cA)); have f7 := blk_frozen ho1 7; have hlo := blk_lt ho1; have HO1 := Aside0.mk ho1; have HP1 := Aside0.mk (Kd.R_over HP.out HA.out co_at hg); have HA1 := Aside0.mk ho; have HW1 := Aside0.mk hb; clear ho hb hg hat ho1 q7 y0 y1 y2 y3)
            go_roundw
            case rel => exact ⟨k, s4, al ++ [(n1, fb, m1, tx1)], A1, c1, by go_num, by simp only [List.length_append, List.length_singleton]; omega, EN, ⟨rd_set R6.out HNG2.out _⟩, ⟨below_set HW1.out HGE.out⟩, ⟨blk_far (p := ⟨bo, 7, none⟩) HZ1.out HNZO.out _⟩, ⟨by rw [show (al ++ [(n1, fb, m1, tx1)]).length = al.length + 1 by simp]; exact blk_put HO1.out 7 _ rfl⟩, ⟨R_block HP1.out rfl HO1.out (by decide) ((KeepBut.refl _ bo none).set_ 7 _)⟩, ⟨R_block HA1.out rfl HO1.out (by decide) ((KeepBut.refl _ bo none).set_ 7 _)⟩⟩
            case measure => simp [intOf]
    case rest =>
      obtain ⟨aA, cA, R9, HW, HZ, HO, HP, HA⟩ := hcut
      subst hzr
      have hr255 : rr.size ≤ 255 := rdT_size E10.out R9.out.1
      have HNGZ := Aside0.mk (fun e_ : g = bz => HNZG.out e_.symm)
      go_upto_region 13 with (have hI0 := R9.out; clear R9; go_at_call 93; refine (rdT_calls E10.out g w0 _ hI0 HW.out).mono ?_; rintro e w9 ⟨rfl, hI, hB2, hKp⟩; have R10 := Aside0.mk hI; replace HW := Aside0.mk hB2; replace HZ := Aside0.mk (KeepBut.blk hKp HZ.out HNZG.out (by simp)); replace HO := Aside0.mk (KeepBut.blk hKp HO.out HNG.out (by simp)); replace HP := Aside0.mk (R_reader HP.out rfl hI0 (by decide) hKp); replace HA := Aside0.mk (R_reader HA.out rfl hI0 (by decide) hKp); clear hI hB2 hKp hI0)
      by_cases hE : rr.toList.isEmpty = true
      · have hne : (!rr.toList.isEmpty) = false := by rw [hE]; rfl
        have hb0 : bytesOf rr = [] := by rw [ByteArray.toList_eq] at hE; unfold bytesOf; rw [List.isEmpty_iff.1 hE]; rfl
        go_upto_region 15 with fail
        have q0 := (blk_cell HO.out 0).trans (rfl : _ = some (Value.int .i64 zk))
        have q1 := (blk_cell HO.out 1).trans (rfl : _ = some (Value.int .i64 zc))
        have q2 := (blk_cell HO.out 2).trans (rfl : _ = some (Value.int .i64 zq))
        have q3 := (blk_cell HO.out 3).trans (rfl : _ = some (Value.int .i64 zh))
        have q4 := (blk_cell HO.out 4).trans (rfl : _ = some (Value.int .i64 za))
        have q5 := (blk_cell HO.out 5).trans (rfl : _ = some (Value.int .i64 zt))
        have q6 := (blk_cell HO.out 6).trans (rfl : _ = some (Value.slice aP pp.length cP))
        have q7 := (blk_cell HO.out 7).trans (rfl : _ = some (Value.slice aA uu.length cA))
        have q8 := (blk_cell HO.out 8).trans (rfl : _ = some (Value.slice none 0 0))
        have z0 := (blk_cell HZ.out 0).trans (rfl : _ = some (Value.int .i64 0))
        have z1 := (blk_cell HZ.out 1).trans (rfl : _ = some (Value.int .i64 0))
        have z2 := (blk_cell HZ.out 2).trans (rfl : _ = some (Value.int .i64 0))
        have z3 := (blk_cell HZ.out 3).trans (rfl : _ = some (Value.int .i64 0))
        have z4 := (blk_cell HZ.out 4).trans (rfl : _ = some (Value.int .i64 0))
        have z5 := (blk_cell HZ.out 5).trans (rfl : _ = some (Value.int .i64 0))
        have z6 := (blk_cell HZ.out 6).trans (rfl : _ = some (Value.slice none 0 0))
        have z7 := (blk_cell HZ.out 7).trans (rfl : _ = some (Value.slice none 0 0))
        have z8 := (blk_cell HZ.out 8).trans (rfl : _ = some (Value.slice none 0 0))
        have f0 := blk_frozen HZ.out 0
        have f1 := blk_frozen HZ.out 1
        have f2 := blk_frozen HZ.out 2
        have f3 := blk_frozen HZ.out 3
        have f4 := blk_frozen HZ.out 4
        have f5 := blk_frozen HZ.out 5
        have f6 := blk_frozen HZ.out 6
        have f7 := blk_frozen HZ.out 7
        have f8 := blk_frozen HZ.out 8
        have hl1 := blk_lt HO.out
        have hl2 := blk_lt HZ.out
        obtain ⟨hk9, hb9, hw9⟩ := put9 HZ.out (.int .i64 zk) (.int .i64 zc) (.int .i64 zq) (.int .i64 zh) (.int .i64 za) (.int .i64 zt) (.slice aP pp.length cP) (.slice aA uu.length cA) (.slice none 0 0)
        have RE := Aside0.mk (IsRd.keep R10.out hk9 HNGZ.out)
        have PE := Aside0.mk (R_block HP.out rfl HZ.out (by decide) hk9)
        have AE := Aside0.mk (R_block HA.out rfl HZ.out (by decide) hk9)
        have WE := Aside0.mk (hw9 w0 HW.out HGZ.out)
        have ZE := Aside0.mk hb9
        have CE := Aside0.mk (show Kd.C (Kd.int .u8) (((((((((w9.setCell ⟨bz, 0, none⟩ (.int .i64 zk)).setCell ⟨bz, 1, none⟩ (.int .i64 zc)).setCell ⟨bz, 2, none⟩ (.int .i64 zq)).setCell ⟨bz, 3, none⟩ (.int .i64 zh)).setCell ⟨bz, 4, none⟩ (.int .i64 za)).setCell ⟨bz, 5, none⟩ (.int .i64 zt)).setCell ⟨bz, 6, none⟩ (.slice aP pp.length cP)).setCell ⟨bz, 7, none⟩ (.slice aA uu.length cA)).setCell ⟨bz, 8, none⟩ (.slice none 0 0)) none (bytesOf rr).length (bytesOf rr) by rw [hb0]; exact nilR _)
        clear hk9 hb9 hw9 R10 HP HA HW
        go_wp2
        generalize (((((((((w9.setCell ⟨bz, 0, none⟩ (.int .i64 zk)).setCell ⟨bz, 1, none⟩ (.int .i64 zc)).setCell ⟨bz, 2, none⟩ (.int .i64 zq)).setCell ⟨bz, 3, none⟩ (.int .i64 zh)).setCell ⟨bz, 4, none⟩ (.int .i64 za)).setCell ⟨bz, 5, none⟩ (.int .i64 zt)).setCell ⟨bz, 6, none⟩ (.slice aP pp.length cP)).setCell ⟨bz, 7, none⟩ (.slice aA uu.length cA)).setCell ⟨bz, 8, none⟩ (.slice none 0 0)) = wE at RE PE AE WE ZE CE ⊢
        clear q0 z0 f0 q1 z1 f1 q2 z2 f2 q3 z3 f3 q4 z4 f4 q5 z5 f5 q6 z6 f6 q7 z7 f7 q8 z8 f8
        clear hl1 hl2 HO HZ
        have q0 := (blk_cell ZE.out 0).trans (rfl : _ = some (Value.int .i64 zk))
        have q1 := (blk_cell ZE.out 1).trans (rfl : _ = some (Value.int .i64 zc))
        have q2 := (blk_cell ZE.out 2).trans (rfl : _ = some (Value.int .i64 zq))
        have q3 := (blk_cell ZE.out 3).trans (rfl : _ = some (Value.int .i64 zh))
        have q4 := (blk_cell ZE.out 4).trans (rfl : _ = some (Value.int .i64 za))
        have q5 := (blk_cell ZE.out 5).trans (rfl : _ = some (Value.int .i64 zt))
        have q6 := (blk_cell ZE.out 6).trans (rfl : _ = some (Value.slice aP pp.length cP))
        have q7 := (blk_cell ZE.out 7).trans (rfl : _ = some (Value.slice aA uu.length cA))
        have q8 := (blk_cell ZE.out 8).trans (rfl : _ = some (Value.slice none 0 0))
        obtain ⟨a6, c6, e6, _, hC6⟩ := Kd.R_reads PE.out
        obtain ⟨a7, c7, e7, _, hC7⟩ := Kd.R_reads AE.out
        injection e6 with e6
        injection e7 with e7
        subst e6 e7
        refine bodyPost_ret (v := opV zk zc zq zh za zt aP pp.length cP aA uu.length cA none 0 0) (by simp [results, Tryd.results64, go_sem, q0, q1, q2, q3, q4, q5, q6, q7, q8]) rfl ⟨aP, cP, aA, cA, none, 0, ?_, ⟨hC6, hC7, CE.out⟩, RE.out, WE.out, past_of PE.out, past_of AE.out, Past.none _⟩
        simp only [oW, hb0]
        rfl
      · have hne : (!rr.toList.isEmpty) = true := by simpa using hE
        have hrs : rr.size ≤ 255 := hr255
        have kb := print_bytes (P := Tryd.prog) 9 22 5 Tryd.underlying9 Tryd.underlying22 Tryd.underlying5 rr w9
        have hBw := bytes_below (Below.refl w9.heap.size w9) (Nat.le_refl _) 5 rr
        have HRd := Aside0.mk (bytes_reads w9 5 rr (by omega))
        have hbo := blk_lt HO.out
        have hbz := blk_lt HZ.out
        have HGB := Aside0.mk (HW.out.size)
        have HNBO := Aside0.mk (show w9.heap.size ≠ bo by omega)
        have HNBZ := Aside0.mk (show w9.heap.size ≠ bz by omega)
        replace R10 := Aside0.mk (IsRd.below R10.out hBw)
        replace HZ := Aside0.mk (blk_below HZ.out hBw)
        replace HO := Aside0.mk (blk_below HO.out hBw)
        replace HP := Aside0.mk (Kd.R_below HP.out hBw)
        replace HA := Aside0.mk (Kd.R_below HA.out hBw)
        replace HW := Aside0.mk (below_step HW.out hBw)
        clear hBw hbo hbz
        have z8 := (blk_cell HO.out 8).trans (rfl : _ = some (Value.slice none 0 0))
        have f8 := blk_frozen HO.out 8
        have hl0 := blk_lt HO.out
        generalize Lib.bytesWorld w9 5 rr = wB at *
        generalize grownCap w9 rr.size 0 5 = cB at *
        generalize hbB : w9.heap.size = bB at *
        clear hbB
        go_upto_region 15 with fail
        clear z8 f8 hl0 kb
        have HK8 := (KeepBut.refl wB bo none).set_ 8 (.slice (some ⟨bB, 0, none⟩) rr.size cB)
        replace R10 := Aside0.mk (rd_set R10.out HNG2.out (j := 8) (.slice (some ⟨bB, 0, none⟩) rr.size cB))
        replace HP := Aside0.mk (R_block HP.out rfl HO.out (by decide) HK8)
        replace HA := Aside0.mk (R_block HA.out rfl HO.out (by decide) HK8)
        replace HZ := Aside0.mk (KeepBut.blk HK8 HZ.out HNZO.out (by simp))
        replace HRd := Aside0.mk (ReadsInt.keep HRd.out HK8 (fun ad e_ _ => by cases e_; exact HNBO.out))
        replace HW := Aside0.mk (below_set HW.out HGE.out (j := 8) (v := .slice (some ⟨bB, 0, none⟩) rr.size cB))
        have ho8 : Aside0 ((wB.setCell ⟨bo, 8, none⟩ (.slice (some ⟨bB, 0, none⟩) rr.size cB)).heap[bo]? = some (.cells #[.int .i64 zk, .int .i64 zc, .int .i64 zq, .int .i64 zh, .int .i64 za, .int .i64 zt, .slice aP pp.length cP, .slice aA uu.length cA, .slice (some ⟨bB, 0, none⟩) rr.size cB] 30 (0, 0))) := Aside0.mk (blk_put HO.out 8 (.slice (some ⟨bB, 0, none⟩) rr.size cB) rfl)
        clear HK8 HO
        have HO := ho8
        clear ho8
        generalize wB.setCell ⟨bo, 8, none⟩ (.slice (some ⟨bB, 0, none⟩) rr.size cB) = wS at *
        have q0 := (blk_cell HO.out 0).trans (rfl : _ = some (Value.int .i64 zk))
        have q1 := (blk_cell HO.out 1).trans (rfl : _ = some (Value.int .i64 zc))
        have q2 := (blk_cell HO.out 2).trans (rfl : _ = some (Value.int .i64 zq))
        have q3 := (blk_cell HO.out 3).trans (rfl : _ = some (Value.int .i64 zh))
        have q4 := (blk_cell HO.out 4).trans (rfl : _ = some (Value.int .i64 za))
        have q5 := (blk_cell HO.out 5).trans (rfl : _ = some (Value.int .i64 zt))
        have q6 := (blk_cell HO.out 6).trans (rfl : _ = some (Value.slice aP pp.length cP))
        have q7 := (blk_cell HO.out 7).trans (rfl : _ = some (Value.slice aA uu.length cA))
        have q8 := (blk_cell HO.out 8).trans (rfl : _ = some (Value.slice (some ⟨bB, 0, none⟩) rr.size cB))
        have z0 := (blk_cell HZ.out 0).trans (rfl : _ = some (Value.int .i64 0))
        have z1 := (blk_cell HZ.out 1).trans (rfl : _ = some (Value.int .i64 0))
        have z2 := (blk_cell HZ.out 2).trans (rfl : _ = some (Value.int .i64 0))
        have z3 := (blk_cell HZ.out 3).trans (rfl : _ = some (Value.int .i64 0))
        have z4 := (blk_cell HZ.out 4).trans (rfl : _ = some (Value.int .i64 0))
        have z5 := (blk_cell HZ.out 5).trans (rfl : _ = some (Value.int .i64 0))
        have z6 := (blk_cell HZ.out 6).trans (rfl : _ = some (Value.slice none 0 0))
        have z7 := (blk_cell HZ.out 7).trans (rfl : _ = some (Value.slice none 0 0))
        have z8 := (blk_cell HZ.out 8).trans (rfl : _ = some (Value.slice none 0 0))
        have f0 := blk_frozen HZ.out 0
        have f1 := blk_frozen HZ.out 1
        have f2 := blk_frozen HZ.out 2
        have f3 := blk_frozen HZ.out 3
        have f4 := blk_frozen HZ.out 4
        have f5 := blk_frozen HZ.out 5
        have f6 := blk_frozen HZ.out 6
        have f7 := blk_frozen HZ.out 7
        have f8 := blk_frozen HZ.out 8
        have hl1 := blk_lt HO.out
        have hl2 := blk_lt HZ.out
        obtain ⟨hk9, hb9, hw9⟩ := put9 HZ.out (.int .i64 zk) (.int .i64 zc) (.int .i64 zq) (.int .i64 zh) (.int .i64 za) (.int .i64 zt) (.slice aP pp.length cP) (.slice aA uu.length cA) (.slice (some ⟨bB, 0, none⟩) rr.size cB)
        have RE := Aside0.mk (IsRd.keep R10.out hk9 HNGZ.out)
        have PE := Aside0.mk (R_block HP.out rfl HZ.out (by decide) hk9)
        have AE := Aside0.mk (R_block HA.out rfl HZ.out (by decide) hk9)
        have WE := Aside0.mk (hw9 w0 HW.out HGZ.out)
        have ZE := Aside0.mk hb9
        have CE := Aside0.mk (show Kd.C (Kd.int .u8) (((((((((wS.setCell ⟨bz, 0, none⟩ (.int .i64 zk)).setCell ⟨bz, 1, none⟩ (.int .i64 zc)).setCell ⟨bz, 2, none⟩ (.int .i64 zq)).setCell ⟨bz, 3, none⟩ (.int .i64 zh)).setCell ⟨bz, 4, none⟩ (.int .i64 za)).setCell ⟨bz, 5, none⟩ (.int .i64 zt)).setCell ⟨bz, 6, none⟩ (.slice aP pp.length cP)).setCell ⟨bz, 7, none⟩ (.slice aA uu.length cA)).setCell ⟨bz, 8, none⟩ (.slice (some ⟨bB, 0, none⟩) rr.size cB)) (some ⟨bB, 0, none⟩) (bytesOf rr).length (bytesOf rr) by rw [bytesOf_length]; exact Kd.C_of_reads (d := (0 : Int)) (h1 := fun _ => rfl) (ReadsInt.keep HRd.out hk9 (fun ad e_ _ => by cases e_; exact HNBZ.out)))
        clear hk9 hb9 hw9 R10 HP HA HW
        go_wp2
        generalize (((((((((wS.setCell ⟨bz, 0, none⟩ (.int .i64 zk)).setCell ⟨bz, 1, none⟩ (.int .i64 zc)).setCell ⟨bz, 2, none⟩ (.int .i64 zq)).setCell ⟨bz, 3, none⟩ (.int .i64 zh)).setCell ⟨bz, 4, none⟩ (.int .i64 za)).setCell ⟨bz, 5, none⟩ (.int .i64 zt)).setCell ⟨bz, 6, none⟩ (.slice aP pp.length cP)).setCell ⟨bz, 7, none⟩ (.slice aA uu.length cA)).setCell ⟨bz, 8, none⟩ (.slice (some ⟨bB, 0, none⟩) rr.size cB)) = wE at RE PE AE WE ZE CE ⊢
        clear q0 z0 f0 q1 z1 f1 q2 z2 f2 q3 z3 f3 q4 z4 f4 q5 z5 f5 q6 z6 f6 q7 z7 f7 q8 z8 f8
        clear hl1 hl2 HO HZ
        have q0 := (blk_cell ZE.out 0).trans (rfl : _ = some (Value.int .i64 zk))
        have q1 := (blk_cell ZE.out 1).trans (rfl : _ = some (Value.int .i64 zc))
        have q2 := (blk_cell ZE.out 2).trans (rfl : _ = some (Value.int .i64 zq))
        have q3 := (blk_cell ZE.out 3).trans (rfl : _ = some (Value.int .i64 zh))
        have q4 := (blk_cell ZE.out 4).trans (rfl : _ = some (Value.int .i64 za))
        have q5 := (blk_cell ZE.out 5).trans (rfl : _ = some (Value.int .i64 zt))
        have q6 := (blk_cell ZE.out 6).trans (rfl : _ = some (Value.slice aP pp.length cP))
        have q7 := (blk_cell ZE.out 7).trans (rfl : _ = some (Value.slice aA uu.length cA))
        have q8 := (blk_cell ZE.out 8).trans (rfl : _ = some (Value.slice (some ⟨bB, 0, none⟩) rr.size cB))
        obtain ⟨a6, c6, e6, _, hC6⟩ := Kd.R_reads PE.out
        obtain ⟨a7, c7, e7, _, hC7⟩ := Kd.R_reads AE.out
        injection e6 with e6
        injection e7 with e7
        subst e6 e7
        refine bodyPost_ret (v := opV zk zc zq zh za zt aP pp.length cP aA uu.length cA (some ⟨bB, 0, none⟩) rr.size cB) (by simp [results, Tryd.results64, go_sem, q0, q1, q2, q3, q4, q5, q6, q7, q8]) rfl ⟨aP, cP, aA, cA, some ⟨bB, 0, none⟩, cB, ?_, ⟨hC6, hC7, CE.out⟩, RE.out, WE.out, past_of PE.out, past_of AE.out, fun ad e_ => by cases e_; exact HGB.out⟩
        simp only [oW, bytesOf_length]
end Go.Proofs.YtbplemhjhpfkgaaDoor.Cd

/-
 The reference's RightTuple: what it says of any row of attributes.
-/
import Derived.Test.YtbplemhjhpfkgaaDoorZRefOne
import Derived.Test.YtbplemhjhpfkgaaDoorZWireOne
namespace Go.Proofs.YtbplemhjhpfkgaaDoor.Wr
open Go.RowKit YtbplemhjhpfkgaaDoorW.PrintWords YtbplemhjhpfkgaaDoorW.PrintLast YtbplemhjhpfkgaaDoorW.PrintMore Rd
open Go.Proofs.YtbplemhjhpfkgaaDoor.Cd (Co At kAt kAt at_Co at_At)
set_option linter.unusedVariables false
set_option linter.unusedSimpArgs false
def wrrt_badReg.T4 : Bool × List (List Nat × List Nat) := (true, [([], []), ([0], [0]), ([1], [1]), ([2], [2]), ([3, 2], [3]), ([4], [4]), ([5, 4], [4, 5]), ([6, 4, 4], [4, 6]), ([7, 4], [4, 7]), ([4, 8], [4, 8]), ([9, 7], [9]), ([10], [10]), ([11, 10], [10, 11]), ([12, 10, 10], [10, 12]), ([13], [13]), ([13], [13]), ([15, 13], [13, 15]), ([14, 16, 13], [13, 14, 16]), ([17, 13], [13, 17]), ([18, 13], [13, 18]), ([13], [13]), ([20, 13], [13, 20]), ([19, 21, 13], [13, 19, 21]), ([13, 22, 10], [10, 13, 22]), ([10, 23], [10, 23])])
def wrrt_badReg.B4 : List Nat := [0, 1, 3, 7, 15, 31, 63, 127, 255, 511, 1023, 2047, 4095, 8191, 16383, 16383, 49151, 131071, 262143, 524287, 16383, 1064959, 4194303, 8388607, 16777215]
theorem wrrt_badReg.tab4 : rtab .any (opsOf Tryd.f73 4) = wrrt_badReg.T4 := by kernel_rfl
theorem wrrt_badReg.bits4 : waitsOk wrrt_badReg.T4.2 wrrt_badReg.B4 = true := by kernel_rfl
def wrrt_bad2Reg.T4 : Bool × List (List Nat × List Nat) := (true, [([], []), ([0], [0]), ([1], [1]), ([2], [2]), ([3, 2], [3]), ([4], [4]), ([5, 4], [4, 5]), ([6, 4, 4], [4, 6]), ([7, 4], [4, 7]), ([4, 8], [4, 8]), ([9, 7], [9]), ([10], [10]), ([11, 10], [10, 11]), ([12, 10, 10], [10, 12]), ([13], [13]), ([13], [13]), ([15, 13], [13, 15]), ([14, 16, 13], [13, 14, 16]), ([17, 13], [13, 17]), ([18, 13], [13, 18]), ([13], [13]), ([20, 13], [13, 20]), ([19, 21, 13], [13, 19, 21]), ([13, 22, 10], [10, 13, 22]), ([10, 23], [10, 23])])
def wrrt_bad2Reg.B4 : List Nat := [0, 1, 3, 7, 15, 31, 63, 127, 255, 511, 1023, 2047, 4095, 8191, 16383, 16383, 49151, 131071, 262143, 524287, 16383, 1064959, 4194303, 8388607, 16777215]
theorem wrrt_bad2Reg.tab4 : rtab .any (opsOf Tryd.f73 4) = wrrt_bad2Reg.T4 := by kernel_rfl
theorem wrrt_bad2Reg.bits4 : waitsOk wrrt_bad2Reg.T4.2 wrrt_bad2Reg.B4 = true := by kernel_rfl
def wrrt_firstReg.T4 : Bool × List (List Nat × List Nat) := (true, [([], []), ([0], [0]), ([1], [1]), ([2], [2]), ([3, 2], [3]), ([4], [4]), ([5, 4], [4, 5]), ([6, 4, 4], [4, 6]), ([7, 4], [4, 7]), ([4, 8], [4, 8]), ([9, 7], [9]), ([10], [10]), ([11, 10], [10, 11]), ([12, 10, 10], [10, 12]), ([13], [13]), ([13], [13]), ([15, 13], [13, 15]), ([14, 16, 13], [13, 14, 16]), ([17, 13], [13, 17]), ([18, 13], [13, 18]), ([13], [13]), ([20, 13], [13, 20]), ([19, 21, 13], [13, 19, 21]), ([13, 22, 10], [10, 13, 22]), ([10, 23], [10, 23])])
def wrrt_firstReg.B4 : List Nat := [0, 1, 3, 7, 15, 31, 63, 127, 255, 511, 1023, 2047, 4095, 8191, 16383, 16383, 49151, 131071, 262143, 524287, 16383, 1064959, 4194303, 8388607, 16777215]
theorem wrrt_firstReg.tab4 : rtab .any (opsOf Tryd.f73 4) = wrrt_firstReg.T4 := by kernel_rfl
theorem wrrt_firstReg.bits4 : waitsOk wrrt_firstReg.T4.2 wrrt_firstReg.B4 = true := by kernel_rfl
def wrrt_okReg.T4 : Bool × List (List Nat × List Nat) := (true, [([], []), ([0], [0]), ([1], [1]), ([2], [2]), ([3, 2], [3]), ([4], [4]), ([5, 4], [4, 5]), ([6, 4, 4], [4, 6]), ([7, 4], [4, 7]), ([4, 8], [4, 8]), ([9, 7], [9]), ([10], [10]), ([11, 10], [10, 11]), ([12, 10, 10], [10, 12]), ([13], [13]), ([13], [13]), ([15, 13], [13, 15]), ([14, 16, 13], [13, 14, 16]), ([17, 13], [13, 17]), ([18, 13], [13, 18]), ([13], [13]), ([20, 13], [13, 20]), ([19, 21, 13], [13, 19, 21]), ([13, 22, 10], [10, 13, 22]), ([10, 23], [10, 23])])
def wrrt_okReg.B4 : List Nat := [0, 1, 3, 7, 15, 31, 63, 127, 255, 511, 1023, 2047, 4095, 8191, 16383, 16383, 49151, 131071, 262143, 524287, 16383, 1064959, 4194303, 8388607, 16777215]
theorem wrrt_okReg.tab4 : rtab .any (opsOf Tryd.f73 4) = wrrt_okReg.T4 := by kernel_rfl
theorem wrrt_okReg.bits4 : waitsOk wrrt_okReg.T4.2 wrrt_okReg.B4 = true := by kernel_rfl
set_option maxRecDepth 100000 in
set_option maxHeartbeats 16000000 in
theorem rtup_calls (A : Option Addr) (c : Nat) (l : List At) (w : World) (h : Kd.C kAt w A l.length l) (hs : ∀ x ∈ l, Sm x.1) :
  Calls Tryd.prog 73 #[.slice A l.length c] w fun e w' => e = .returned (.bool (tupOk l)) ∧ Below w.heap.size w w' := by
 have hm : l.length ≤ 9223372036854775807 := h.2.1; have HL := sd h; have HS := sd hs; clear h hs
 go_enter Tryd.func73, Tryd.ntmps73
 go_wp2
 go_loopw [7] (fun i wr => ∃ j : Nat, j ≤ l.length ∧ i = .int .i64 (j : Int) ∧ Aside0 ((List.range j).all (stepA l) = true) ∧ Aside0 (Below w.heap.size w wr)) (fun i _ => l.length - (intOf i).toNat)
 case atStart => exact ⟨0, Nat.zero_le _, rfl, ⟨rfl⟩, ⟨Below.refl _ _⟩⟩
 case round =>
  obtain ⟨j, hj, rfl, HAll, HWr⟩ := hrel
  by_cases hlt : j < l.length
  ·obtain ⟨ad, x, rfl, hx, d0, d1, d2, d3⟩ := at_At (Kd.C_below HL.out HWr.out) j hlt; have HSM : Hid (Sm x.1) := Lib.hid (HS.out x (List.mem_of_getElem? hx)); have HG := Lib.hid (getA_of hx); obtain ⟨nm, it, n, tx⟩ := x; clear hx; have HP := sd (blk_new wr (.cells #[.string nm, .bool it, .int .i64 n, .string tx] 59)); have HW := sd (below_alloc HWr.out (.cells #[.string nm, .bool it, .int .i64 n, .string tx] 59))
   go_upto_region 4 with fail
   clear d0 d1 d2 d3; generalize wr.alloc (.cells #[.string nm, .bool it, .int .i64 n, .string tx] 59) = wb at *; clear HWr
   go_cut [36] from 12 to 36 (fun v wx => v = .bool (!stepA l j) ∧ Aside0 (Below w.heap.size w wx))
   case first =>
    obtain ⟨b, hb⟩ : ∃ b, nameOk nm = b := ⟨_, rfl⟩; have HV := Lib.hid hb; clear hb; cases b
    case false =>
     have HF : Hid (stepA l j = false) := Lib.hid (by unfold stepA; rw [HG.out]; show (nameOk nm && valOk it n tx && _) = _; rw [HV.out]; rfl); refine start_ (n := 25) (S := fun w' => True) (ds := []) #[false, false, false, false, false, false, false, false, false, false, false, false, false, false, false, false, false, false, false, false, false, false, false, false, false] (by kernel_rfl) rfl rfl trivial (fun hHeld => ?_); refine with_tabW wrrt_badReg.tab4 wrrt_badReg.bits4 (fun HT_ HW_ => ?_); refine inv_at [0, 1, 2, 3, 4, 5, 6, 7, 8, 9, 10, 11, 12, 13, 14, 15, 16, 17, 18, 19, 20, 21, 22, 23, 24] (fun a0_ b a w' => a = putSel a0_ b [(0, 12, .pointer (some ⟨wr.heap.size, 0, none⟩)), (1, 13, .string nm), (2, 14, .bool false), (3, 15, .bool true), (4, 16, .bool true), (5, 17, undef), (6, 18, undef), (7, 19, undef), (8, 20, undef), (9, 21, .bool true), (10, 22, .bool true), (11, 23, undef), (12, 24, undef), (13, 25, undef), (14, 26, undef), (15, 27, undef), (16, 28, undef), (17, 29, undef), (18, 30, undef), (19, 31, undef), (20, 32, undef), (21, 33, undef), (22, 34, undef), (23, 35, undef), (24, 36, .bool true)] ∧ (Below w.heap.size w w') ∧ (w'.heap[wr.heap.size]? = some (.cells #[.string nm, .bool it, .int .i64 n, .string tx] 59 (0, 0)))) HT_.out HW_.out (by kernel_rfl) (by kernel_rfl) ?_ ?_ ?_
     ·exact ⟨by simp only [putSel, Bool.false_eq_true, if_false], below_drew HW.out, HP.out⟩
     ·skip
      clear HP HW; refine steps_cons ?_ ?_
      ·rintro b a w' ⟨ha, QHW, QHP⟩ hb_ hon hoff; refine ⟨_, rfl, fun K hK => ?_⟩; have e4 := ef ha 4 (.pointer (some ⟨wr.heap.size, 0, none⟩)); replace ha := sd ha; have HW := sd QHW; have HP := sd QHP; refine value_ (w1 := w') (v := .pointer (some ⟨wr.heap.size, 0, none⟩)) (by rfl) rfl ?_ ?_
       ·go_simp; (try simp only [i64_w]); try rfl
       refine hK.out _ _ ⟨uk ha.out 0 hb_ rfl rfl rfl, QHW, QHP⟩
      refine steps_cons ?_ ?_
      ·rintro b a w' ⟨ha, QHW, QHP⟩ hb_ hon hoff; refine ⟨_, rfl, fun K hK => ?_⟩; have e12 := ek ha 0 0 12 (.pointer (some ⟨wr.heap.size, 0, none⟩)) hon; replace ha := sd ha; have HW := sd QHW; have HP := sd QHP; have q0 := (blk_cell HP.out 0).trans (rfl : _ = some (Value.string nm)); refine value_ (w1 := w') (v := .string nm) (by rfl) rfl ?_ ?_
       ·go_simp; (try simp only [i64_w]); try rfl
       refine hK.out _ _ ⟨uk ha.out 1 hb_ rfl rfl rfl, QHW, QHP⟩
      refine steps_cons ?_ ?_
      ·rintro b a w' ⟨ha, QHW, QHP⟩ hb_ hon hoff; refine ⟨_, rfl, fun K hK => ?_⟩; have e13 := ek ha 1 1 13 (.string nm) hon; replace ha := sd ha; have HW := sd QHW; have HP := sd QHP; refine goes_ Tryd.func98 (by kernel_rfl) rfl #[.string nm] (by rfl) rfl rfl (ev1 e13) ?_; refine (rname_calls nm HSM.out w').mono ?_; rintro e w2 ⟨he, hB⟩; rw [HV.out] at he; subst he; refine ⟨_, rfl, ?_⟩; refine hK.out _ _ ⟨uk ha.out 2 hb_ rfl rfl rfl, below_step HW.out hB, blk_below HP.out hB⟩
      refine steps_cons ?_ ?_
      ·rintro b a w' ⟨ha, QHW, QHP⟩ hb_ hon hoff; refine ⟨_, rfl, fun K hK => ?_⟩; have e14 := ek ha 2 2 14 (.bool false) hon; replace ha := sd ha; have HW := sd QHW; have HP := sd QHP; refine value_ (w1 := w') (v := .bool true) (by rfl) rfl ?_ ?_
       ·go_simp; (try simp only [i64_w]); try rfl
       refine hK.out _ _ ⟨uk ha.out 3 hb_ rfl rfl rfl, QHW, QHP⟩
      refine steps_cons ?_ ?_
      ·rintro b a w' ⟨ha, QHW, QHP⟩ hb_ hon hoff; refine ⟨_, rfl, fun K hK => ?_⟩; have e15 := ek ha 3 3 15 (.bool true) hon; replace ha := sd ha; have HW := sd QHW; have HP := sd QHP; refine value_ (w1 := w') (v := .bool true) (by rfl) rfl ?_ ?_
       ·go_simp; (try simp only [i64_w]); try rfl
       refine hK.out _ _ ⟨uk ha.out 4 hb_ rfl rfl rfl, QHW, QHP⟩
      refine steps_cons ?_ ?_
      ·rintro b a w' ⟨ha, QHW, QHP⟩ hb_ hon hoff; refine ⟨_, rfl, fun K hK => ?_⟩; have e16 := ek ha 4 4 16 (.bool true) hon; replace ha := sd ha; have HW := sd QHW; have HP := sd QHP; refine off_ (wanted_off rfl rfl rfl (e16.trans (by first | rfl | (simp [*]; done)))) ?_; refine hK.out _ _ ⟨uk ha.out 5 hb_ rfl rfl rfl, QHW, QHP⟩
      refine steps_cons ?_ ?_
      ·rintro b a w' ⟨ha, QHW, QHP⟩ hb_ hon hoff; refine ⟨_, rfl, fun K hK => ?_⟩; have e16 := ek ha 4 4 16 (.bool true) hon; replace ha := sd ha; have HW := sd QHW; have HP := sd QHP; refine off_ (wanted_off rfl rfl rfl (e16.trans (by first | rfl | (simp [*]; done)))) ?_; refine hK.out _ _ ⟨uk ha.out 6 hb_ rfl rfl rfl, QHW, QHP⟩
      refine steps_cons ?_ ?_
      ·rintro b a w' ⟨ha, QHW, QHP⟩ hb_ hon hoff; refine ⟨_, rfl, fun K hK => ?_⟩; have e16 := ek ha 4 4 16 (.bool true) hon; replace ha := sd ha; have HW := sd QHW; have HP := sd QHP; refine off_ (wanted_off rfl rfl rfl (e16.trans (by first | rfl | (simp [*]; done)))) ?_; refine hK.out _ _ ⟨uk ha.out 7 hb_ rfl rfl rfl, QHW, QHP⟩
      refine steps_cons ?_ ?_
      ·rintro b a w' ⟨ha, QHW, QHP⟩ hb_ hon hoff; refine ⟨_, rfl, fun K hK => ?_⟩; have e16 := ek ha 4 4 16 (.bool true) hon; replace ha := sd ha; have HW := sd QHW; have HP := sd QHP; refine off_ (wanted_off rfl rfl rfl (e16.trans (by first | rfl | (simp [*]; done)))) ?_; refine hK.out _ _ ⟨uk ha.out 8 hb_ rfl rfl rfl, QHW, QHP⟩
      refine steps_cons ?_ ?_
      ·rintro b a w' ⟨ha, QHW, QHP⟩ hb_ hon hoff; refine ⟨_, rfl, fun K hK => ?_⟩; have e16 := ek ha 4 4 16 (.bool true) hon; have e20 := ek ha 8 8 20 (undef) hon; replace ha := sd ha; have HW := sd QHW; have HP := sd QHP; refine value_ (w1 := w') (v := .bool true) (by rfl) rfl ?_ ?_
       ·go_simp; (try simp only [i64_w]); try rfl
       refine hK.out _ _ ⟨uk ha.out 9 hb_ rfl rfl rfl, QHW, QHP⟩
      refine steps_cons ?_ ?_
      ·rintro b a w' ⟨ha, QHW, QHP⟩ hb_ hon hoff; refine ⟨_, rfl, fun K hK => ?_⟩; have e21 := ek ha 9 9 21 (.bool true) hon; replace ha := sd ha; have HW := sd QHW; have HP := sd QHP; refine value_ (w1 := w') (v := .bool true) (by rfl) rfl ?_ ?_
       ·go_simp; (try simp only [i64_w]); try rfl
       refine hK.out _ _ ⟨uk ha.out 10 hb_ rfl rfl rfl, QHW, QHP⟩
      refine steps_cons ?_ ?_
      ·rintro b a w' ⟨ha, QHW, QHP⟩ hb_ hon hoff; refine ⟨_, rfl, fun K hK => ?_⟩; have e22 := ek ha 10 10 22 (.bool true) hon; replace ha := sd ha; have HW := sd QHW; have HP := sd QHP; refine off_ (wanted_off rfl rfl rfl (e22.trans (by first | rfl | (simp [*]; done)))) ?_; refine hK.out _ _ ⟨uk ha.out 11 hb_ rfl rfl rfl, QHW, QHP⟩
      refine steps_cons ?_ ?_
      ·rintro b a w' ⟨ha, QHW, QHP⟩ hb_ hon hoff; refine ⟨_, rfl, fun K hK => ?_⟩; have e22 := ek ha 10 10 22 (.bool true) hon; replace ha := sd ha; have HW := sd QHW; have HP := sd QHP; refine off_ (wanted_off rfl rfl rfl (e22.trans (by first | rfl | (simp [*]; done)))) ?_; refine hK.out _ _ ⟨uk ha.out 12 hb_ rfl rfl rfl, QHW, QHP⟩
      refine steps_cons ?_ ?_
      ·rintro b a w' ⟨ha, QHW, QHP⟩ hb_ hon hoff; refine ⟨_, rfl, fun K hK => ?_⟩; have e22 := ek ha 10 10 22 (.bool true) hon; replace ha := sd ha; have HW := sd QHW; have HP := sd QHP; refine off_ (wanted_off rfl rfl rfl (e22.trans (by first | rfl | (simp [*]; done)))) ?_; refine hK.out _ _ ⟨uk ha.out 13 hb_ rfl rfl rfl, QHW, QHP⟩
      refine steps_cons ?_ ?_
      ·rintro b a w' ⟨ha, QHW, QHP⟩ hb_ hon hoff; refine ⟨_, rfl, fun K hK => ?_⟩; have e25 := ek ha 13 13 25 (undef) hon; replace ha := sd ha; have HW := sd QHW; have HP := sd QHP; refine off_ (wanted_undef rfl rfl rfl e25) ?_; refine hK.out _ _ ⟨uk ha.out 14 hb_ rfl rfl rfl, QHW, QHP⟩
      refine steps_cons ?_ ?_
      ·rintro b a w' ⟨ha, QHW, QHP⟩ hb_ hon hoff; refine ⟨_, rfl, fun K hK => ?_⟩; have e25 := ek ha 13 13 25 (undef) hon; replace ha := sd ha; have HW := sd QHW; have HP := sd QHP; refine off_ (wanted_undef rfl rfl rfl e25) ?_; refine hK.out _ _ ⟨uk ha.out 15 hb_ rfl rfl rfl, QHW, QHP⟩
      refine steps_cons ?_ ?_
      ·rintro b a w' ⟨ha, QHW, QHP⟩ hb_ hon hoff; refine ⟨_, rfl, fun K hK => ?_⟩; have e25 := ek ha 13 13 25 (undef) hon; replace ha := sd ha; have HW := sd QHW; have HP := sd QHP; refine off_ (wanted_undef rfl rfl rfl e25) ?_; refine hK.out _ _ ⟨uk ha.out 16 hb_ rfl rfl rfl, QHW, QHP⟩
      refine steps_cons ?_ ?_
      ·rintro b a w' ⟨ha, QHW, QHP⟩ hb_ hon hoff; refine ⟨_, rfl, fun K hK => ?_⟩; have e25 := ek ha 13 13 25 (undef) hon; replace ha := sd ha; have HW := sd QHW; have HP := sd QHP; refine off_ (wanted_undef rfl rfl rfl e25) ?_; refine hK.out _ _ ⟨uk ha.out 17 hb_ rfl rfl rfl, QHW, QHP⟩
      refine steps_cons ?_ ?_
      ·rintro b a w' ⟨ha, QHW, QHP⟩ hb_ hon hoff; refine ⟨_, rfl, fun K hK => ?_⟩; have e25 := ek ha 13 13 25 (undef) hon; replace ha := sd ha; have HW := sd QHW; have HP := sd QHP; refine off_ (wanted_undef rfl rfl rfl e25) ?_; refine hK.out _ _ ⟨uk ha.out 18 hb_ rfl rfl rfl, QHW, QHP⟩
      refine steps_cons ?_ ?_
      ·rintro b a w' ⟨ha, QHW, QHP⟩ hb_ hon hoff; refine ⟨_, rfl, fun K hK => ?_⟩; have e25 := ek ha 13 13 25 (undef) hon; replace ha := sd ha; have HW := sd QHW; have HP := sd QHP; refine off_ (wanted_undef rfl rfl rfl e25) ?_; refine hK.out _ _ ⟨uk ha.out 19 hb_ rfl rfl rfl, QHW, QHP⟩
      refine steps_cons ?_ ?_
      ·rintro b a w' ⟨ha, QHW, QHP⟩ hb_ hon hoff; refine ⟨_, rfl, fun K hK => ?_⟩; have e25 := ek ha 13 13 25 (undef) hon; replace ha := sd ha; have HW := sd QHW; have HP := sd QHP; refine off_ (wanted_undef rfl rfl rfl e25) ?_; refine hK.out _ _ ⟨uk ha.out 20 hb_ rfl rfl rfl, QHW, QHP⟩
      refine steps_cons ?_ ?_
      ·rintro b a w' ⟨ha, QHW, QHP⟩ hb_ hon hoff; refine ⟨_, rfl, fun K hK => ?_⟩; have e25 := ek ha 13 13 25 (undef) hon; replace ha := sd ha; have HW := sd QHW; have HP := sd QHP; refine off_ (wanted_undef rfl rfl rfl e25) ?_; refine hK.out _ _ ⟨uk ha.out 21 hb_ rfl rfl rfl, QHW, QHP⟩
      refine steps_cons ?_ ?_
      ·rintro b a w' ⟨ha, QHW, QHP⟩ hb_ hon hoff; refine ⟨_, rfl, fun K hK => ?_⟩; have e25 := ek ha 13 13 25 (undef) hon; replace ha := sd ha; have HW := sd QHW; have HP := sd QHP; refine off_ (wanted_undef rfl rfl rfl e25) ?_; refine hK.out _ _ ⟨uk ha.out 22 hb_ rfl rfl rfl, QHW, QHP⟩
      refine steps_cons ?_ ?_
      ·rintro b a w' ⟨ha, QHW, QHP⟩ hb_ hon hoff; refine ⟨_, rfl, fun K hK => ?_⟩; have e22 := ek ha 10 10 22 (.bool true) hon; replace ha := sd ha; have HW := sd QHW; have HP := sd QHP; refine off_ (wanted_off rfl rfl rfl (e22.trans (by first | rfl | (simp [*]; done)))) ?_; refine hK.out _ _ ⟨uk ha.out 23 hb_ rfl rfl rfl, QHW, QHP⟩
      refine steps_cons ?_ ?_
      ·rintro b a w' ⟨ha, QHW, QHP⟩ hb_ hon hoff; refine ⟨_, rfl, fun K hK => ?_⟩; have e22 := ek ha 10 10 22 (.bool true) hon; have e35 := ek ha 23 23 35 (undef) hon; replace ha := sd ha; have HW := sd QHW; have HP := sd QHP; refine value_ (w1 := w') (v := .bool true) (by rfl) rfl ?_ ?_
       ·go_simp; (try simp only [i64_w]); try rfl
       refine hK.out _ _ ⟨uk ha.out 24 hb_ rfl rfl rfl, QHW, QHP⟩
      exact steps_nil
     ·rintro b a w' hall ⟨ha, QHW, QHP⟩; clear HP HW; have hb0_ := hall 0 (by kernel_rfl); have hb1_ := hall 1 (by kernel_rfl); have hb2_ := hall 2 (by kernel_rfl); have hb3_ := hall 3 (by kernel_rfl); have hb4_ := hall 4 (by kernel_rfl); have hb5_ := hall 5 (by kernel_rfl); have hb6_ := hall 6 (by kernel_rfl); have hb7_ := hall 7 (by kernel_rfl); have hb8_ := hall 8 (by kernel_rfl); have hb9_ := hall 9 (by kernel_rfl); have hb10_ := hall 10 (by kernel_rfl); have hb11_ := hall 11 (by kernel_rfl); have hb12_ := hall 12 (by kernel_rfl); have hb13_ := hall 13 (by kernel_rfl); have hb14_ := hall 14 (by kernel_rfl); have hb15_ := hall 15 (by kernel_rfl); have hb16_ := hall 16 (by kernel_rfl); have hb17_ := hall 17 (by kernel_rfl); have hb18_ := hall 18 (by kernel_rfl); have hb19_ := hall 19 (by kernel_rfl); have hb20_ := hall 20 (by kernel_rfl); have hb21_ := hall 21 (by kernel_rfl); have hb22_ := hall 22 (by kernel_rfl); have hb23_ := hall 23 (by kernel_rfl); have hb24_ := hall 24 (by kernel_rfl); subst ha; simp only [putSel, hb0_, hb1_, hb2_, hb3_, hb4_, hb5_, hb6_, hb7_, hb8_, hb9_, hb10_, hb11_, hb12_, hb13_, hb14_, hb15_, hb16_, hb17_, hb18_, hb19_, hb20_, hb21_, hb22_, hb23_, hb24_, if_true, Act.put, List.setIfInBounds_toArray, List.set_cons_zero, List.set_cons_succ]; have HW := sd QHW; clear QHW; have HP := sd QHP; clear QHP; clear hall hb0_ hb1_ hb2_ hb3_ hb4_ hb5_ hb6_ hb7_ hb8_ hb9_ hb10_ hb11_ hb12_ hb13_ hb14_ hb15_ hb16_ hb17_ hb18_ hb19_ hb20_ hb21_ hb22_ hb23_ hb24_; go_wp2; go_meet
      case rel => exact ⟨by rw [HF.out]; rfl, HW⟩
    case true =>
     obtain ⟨b2, hb2⟩ : ∃ b, valOk it n tx = b := ⟨_, rfl⟩; have HV2 := Lib.hid hb2; clear hb2; cases b2
     case false =>
      have HF : Hid (stepA l j = false) := Lib.hid (by unfold stepA; rw [HG.out]; show (nameOk nm && valOk it n tx && _) = _; rw [HV.out, HV2.out]; rfl); refine start_ (n := 25) (S := fun w' => True) (ds := []) #[false, false, false, false, false, false, false, false, false, false, false, false, false, false, false, false, false, false, false, false, false, false, false, false, false] (by kernel_rfl) rfl rfl trivial (fun hHeld => ?_); refine with_tabW wrrt_bad2Reg.tab4 wrrt_bad2Reg.bits4 (fun HT_ HW_ => ?_); refine inv_at [0, 1, 2, 3, 4, 5, 6, 7, 8, 9, 10, 11, 12, 13, 14, 15, 16, 17, 18, 19, 20, 21, 22, 23, 24] (fun a0_ b a w' => a = putSel a0_ b [(0, 12, .pointer (some ⟨wr.heap.size, 0, none⟩)), (1, 13, .string nm), (2, 14, .bool true), (3, 15, .bool false), (4, 16, .bool false), (5, 17, .pointer (some ⟨wr.heap.size, 1, none⟩)), (6, 18, .agg #[.bool it, .int .i64 n, .string tx]), (7, 19, .bool false), (8, 20, .bool true), (9, 21, .bool true), (10, 22, .bool true), (11, 23, undef), (12, 24, undef), (13, 25, undef), (14, 26, undef), (15, 27, undef), (16, 28, undef), (17, 29, undef), (18, 30, undef), (19, 31, undef), (20, 32, undef), (21, 33, undef), (22, 34, undef), (23, 35, undef), (24, 36, .bool true)] ∧ (Below w.heap.size w w') ∧ (w'.heap[wr.heap.size]? = some (.cells #[.string nm, .bool it, .int .i64 n, .string tx] 59 (0, 0)))) HT_.out HW_.out (by kernel_rfl) (by kernel_rfl) ?_ ?_ ?_
      ·exact ⟨by simp only [putSel, Bool.false_eq_true, if_false], below_drew HW.out, HP.out⟩
      ·skip
       clear HP HW; refine steps_cons ?_ ?_
       ·rintro b a w' ⟨ha, QHW, QHP⟩ hb_ hon hoff; refine ⟨_, rfl, fun K hK => ?_⟩; have e4 := ef ha 4 (.pointer (some ⟨wr.heap.size, 0, none⟩)); replace ha := sd ha; have HW := sd QHW; have HP := sd QHP; refine value_ (w1 := w') (v := .pointer (some ⟨wr.heap.size, 0, none⟩)) (by rfl) rfl ?_ ?_
        ·go_simp; (try simp only [i64_w]); try rfl
        refine hK.out _ _ ⟨uk ha.out 0 hb_ rfl rfl rfl, QHW, QHP⟩
       refine steps_cons ?_ ?_
       ·rintro b a w' ⟨ha, QHW, QHP⟩ hb_ hon hoff; refine ⟨_, rfl, fun K hK => ?_⟩; have e12 := ek ha 0 0 12 (.pointer (some ⟨wr.heap.size, 0, none⟩)) hon; replace ha := sd ha; have HW := sd QHW; have HP := sd QHP; have q0 := (blk_cell HP.out 0).trans (rfl : _ = some (Value.string nm)); refine value_ (w1 := w') (v := .string nm) (by rfl) rfl ?_ ?_
        ·go_simp; (try simp only [i64_w]); try rfl
        refine hK.out _ _ ⟨uk ha.out 1 hb_ rfl rfl rfl, QHW, QHP⟩
       refine steps_cons ?_ ?_
       ·rintro b a w' ⟨ha, QHW, QHP⟩ hb_ hon hoff; refine ⟨_, rfl, fun K hK => ?_⟩; have e13 := ek ha 1 1 13 (.string nm) hon; replace ha := sd ha; have HW := sd QHW; have HP := sd QHP; refine goes_ Tryd.func98 (by kernel_rfl) rfl #[.string nm] (by rfl) rfl rfl (ev1 e13) ?_; refine (rname_calls nm HSM.out w').mono ?_; rintro e w2 ⟨he, hB⟩; rw [HV.out] at he; subst he; refine ⟨_, rfl, ?_⟩; refine hK.out _ _ ⟨uk ha.out 2 hb_ rfl rfl rfl, below_step HW.out hB, blk_below HP.out hB⟩
       refine steps_cons ?_ ?_
       ·rintro b a w' ⟨ha, QHW, QHP⟩ hb_ hon hoff; refine ⟨_, rfl, fun K hK => ?_⟩; have e14 := ek ha 2 2 14 (.bool true) hon; replace ha := sd ha; have HW := sd QHW; have HP := sd QHP; refine value_ (w1 := w') (v := .bool false) (by rfl) rfl ?_ ?_
        ·go_simp; (try simp only [i64_w]); try rfl
        refine hK.out _ _ ⟨uk ha.out 3 hb_ rfl rfl rfl, QHW, QHP⟩
       refine steps_cons ?_ ?_
       ·rintro b a w' ⟨ha, QHW, QHP⟩ hb_ hon hoff; refine ⟨_, rfl, fun K hK => ?_⟩; have e15 := ek ha 3 3 15 (.bool false) hon; replace ha := sd ha; have HW := sd QHW; have HP := sd QHP; refine value_ (w1 := w') (v := .bool false) (by rfl) rfl ?_ ?_
        ·go_simp; (try simp only [i64_w]); try rfl
        refine hK.out _ _ ⟨uk ha.out 4 hb_ rfl rfl rfl, QHW, QHP⟩
       refine steps_cons ?_ ?_
       ·rintro b a w' ⟨ha, QHW, QHP⟩ hb_ hon hoff; refine ⟨_, rfl, fun K hK => ?_⟩; have e4 := ef ha 4 (.pointer (some ⟨wr.heap.size, 0, none⟩)); have e16 := ek ha 4 4 16 (.bool false) hon; replace ha := sd ha; have HW := sd QHW; have HP := sd QHP; refine value_ (w1 := w') (v := .pointer (some ⟨wr.heap.size, 1, none⟩)) (wanted_on rfl rfl rfl (e16.trans (by first | rfl | (simp [*]; done)))) rfl ?_ ?_
        ·go_simp; (try simp only [i64_w]); try rfl
        refine hK.out _ _ ⟨uk ha.out 5 hb_ rfl rfl rfl, QHW, QHP⟩
       refine steps_cons ?_ ?_
       ·rintro b a w' ⟨ha, QHW, QHP⟩ hb_ hon hoff; refine ⟨_, rfl, fun K hK => ?_⟩; have e17 := ek ha 5 5 17 (.pointer (some ⟨wr.heap.size, 1, none⟩)) hon; have e16 := ek ha 4 4 16 (.bool false) hon; replace ha := sd ha; have HW := sd QHW; have HP := sd QHP; have q1 := (blk_cell HP.out 1).trans (rfl : _ = some (Value.bool it)); have q2 := (blk_cell HP.out 2).trans (rfl : _ = some (Value.int .i64 n)); have q3 := (blk_cell HP.out 3).trans (rfl : _ = some (Value.string tx)); refine value_ (w1 := w') (v := .agg #[.bool it, .int .i64 n, .string tx]) (wanted_on rfl rfl rfl (e16.trans (by first | rfl | (simp [*]; done)))) rfl ?_ ?_
        ·go_simp; (try simp only [i64_w]); try rfl
        refine hK.out _ _ ⟨uk ha.out 6 hb_ rfl rfl rfl, QHW, QHP⟩
       refine steps_cons ?_ ?_
       ·rintro b a w' ⟨ha, QHW, QHP⟩ hb_ hon hoff; refine ⟨_, rfl, fun K hK => ?_⟩; have e18 := ek ha 6 6 18 (.agg #[.bool it, .int .i64 n, .string tx]) hon; have e16 := ek ha 4 4 16 (.bool false) hon; replace ha := sd ha; have HW := sd QHW; have HP := sd QHP; refine goes_ Tryd.func99 (by kernel_rfl) rfl #[.agg #[.bool it, .int .i64 n, .string tx]] (wanted_on rfl rfl rfl e16) rfl rfl (ev1 e18) ?_; refine (rval_calls it n tx w').mono ?_; rintro e w2 ⟨he, hB⟩; rw [HV2.out] at he; subst he; refine ⟨_, rfl, ?_⟩; refine hK.out _ _ ⟨uk ha.out 7 hb_ rfl rfl rfl, below_step HW.out hB, blk_below HP.out hB⟩
       refine steps_cons ?_ ?_
       ·rintro b a w' ⟨ha, QHW, QHP⟩ hb_ hon hoff; refine ⟨_, rfl, fun K hK => ?_⟩; have e19 := ek ha 7 7 19 (.bool false) hon; have e16 := ek ha 4 4 16 (.bool false) hon; replace ha := sd ha; have HW := sd QHW; have HP := sd QHP; refine value_ (w1 := w') (v := .bool true) (wanted_on rfl rfl rfl (e16.trans (by first | rfl | (simp [*]; done)))) rfl ?_ ?_
        ·go_simp; (try simp only [i64_w]); try rfl
        refine hK.out _ _ ⟨uk ha.out 8 hb_ rfl rfl rfl, QHW, QHP⟩
       refine steps_cons ?_ ?_
       ·rintro b a w' ⟨ha, QHW, QHP⟩ hb_ hon hoff; refine ⟨_, rfl, fun K hK => ?_⟩; have e16 := ek ha 4 4 16 (.bool false) hon; have e20 := ek ha 8 8 20 (.bool true) hon; replace ha := sd ha; have HW := sd QHW; have HP := sd QHP; refine value_ (w1 := w') (v := .bool true) (by rfl) rfl ?_ ?_
        ·go_simp; (try simp only [i64_w]); try rfl
        refine hK.out _ _ ⟨uk ha.out 9 hb_ rfl rfl rfl, QHW, QHP⟩
       refine steps_cons ?_ ?_
       ·rintro b a w' ⟨ha, QHW, QHP⟩ hb_ hon hoff; refine ⟨_, rfl, fun K hK => ?_⟩; have e21 := ek ha 9 9 21 (.bool true) hon; replace ha := sd ha; have HW := sd QHW; have HP := sd QHP; refine value_ (w1 := w') (v := .bool true) (by rfl) rfl ?_ ?_
        ·go_simp; (try simp only [i64_w]); try rfl
        refine hK.out _ _ ⟨uk ha.out 10 hb_ rfl rfl rfl, QHW, QHP⟩
       refine steps_cons ?_ ?_
       ·rintro b a w' ⟨ha, QHW, QHP⟩ hb_ hon hoff; refine ⟨_, rfl, fun K hK => ?_⟩; have e22 := ek ha 10 10 22 (.bool true) hon; replace ha := sd ha; have HW := sd QHW; have HP := sd QHP; refine off_ (wanted_off rfl rfl rfl (e22.trans (by first | rfl | (simp [*]; done)))) ?_; refine hK.out _ _ ⟨uk ha.out 11 hb_ rfl rfl rfl, QHW, QHP⟩
       refine steps_cons ?_ ?_
       ·rintro b a w' ⟨ha, QHW, QHP⟩ hb_ hon hoff; refine ⟨_, rfl, fun K hK => ?_⟩; have e22 := ek ha 10 10 22 (.bool true) hon; replace ha := sd ha; have HW := sd QHW; have HP := sd QHP; refine off_ (wanted_off rfl rfl rfl (e22.trans (by first | rfl | (simp [*]; done)))) ?_; refine hK.out _ _ ⟨uk ha.out 12 hb_ rfl rfl rfl, QHW, QHP⟩
       refine steps_cons ?_ ?_
       ·rintro b a w' ⟨ha, QHW, QHP⟩ hb_ hon hoff; refine ⟨_, rfl, fun K hK => ?_⟩; have e22 := ek ha 10 10 22 (.bool true) hon; replace ha := sd ha; have HW := sd QHW; have HP := sd QHP; refine off_ (wanted_off rfl rfl rfl (e22.trans (by first | rfl | (simp [*]; done)))) ?_; refine hK.out _ _ ⟨uk ha.out 13 hb_ rfl rfl rfl, QHW, QHP⟩
       refine steps_cons ?_ ?_
       ·rintro b a w' ⟨ha, QHW, QHP⟩ hb_ hon hoff; refine ⟨_, rfl, fun K hK => ?_⟩; have e25 := ek ha 13 13 25 (undef) hon; replace ha := sd ha; have HW := sd QHW; have HP := sd QHP; refine off_ (wanted_undef rfl rfl rfl e25) ?_; refine hK.out _ _ ⟨uk ha.out 14 hb_ rfl rfl rfl, QHW, QHP⟩
       refine steps_cons ?_ ?_
       ·rintro b a w' ⟨ha, QHW, QHP⟩ hb_ hon hoff; refine ⟨_, rfl, fun K hK => ?_⟩; have e25 := ek ha 13 13 25 (undef) hon; replace ha := sd ha; have HW := sd QHW; have HP := sd QHP; refine off_ (wanted_undef rfl rfl rfl e25) ?_; refine hK.out _ _ ⟨uk ha.out 15 hb_ rfl rfl rfl, QHW, QHP⟩
       refine steps_cons ?_ ?_
       ·rintro b a w' ⟨ha, QHW, QHP⟩ hb_ hon hoff; refine ⟨_, rfl, fun K hK => ?_⟩; have e25 := ek ha 13 13 25 (undef) hon; replace ha := sd ha; have HW := sd QHW; have HP := sd QHP; refine off_ (wanted_undef rfl rfl rfl e25) ?_; refine hK.out _ _ ⟨uk ha.out 16 hb_ rfl rfl rfl, QHW, QHP⟩
       refine steps_cons ?_ ?_
       ·rintro b a w' ⟨ha, QHW, QHP⟩ hb_ hon hoff; refine ⟨_, rfl, fun K hK => ?_⟩; have e25 := ek ha 13 13 25 (undef) hon; replace ha := sd ha; have HW := sd QHW; have HP := sd QHP; refine off_ (wanted_undef rfl rfl rfl e25) ?_; refine hK.out _ _ ⟨uk ha.out 17 hb_ rfl rfl rfl, QHW, QHP⟩
       refine steps_cons ?_ ?_
       ·rintro b a w' ⟨ha, QHW, QHP⟩ hb_ hon hoff; refine ⟨_, rfl, fun K hK => ?_⟩; have e25 := ek ha 13 13 25 (undef) hon; replace ha := sd ha; have HW := sd QHW; have HP := sd QHP; refine off_ (wanted_undef rfl rfl rfl e25) ?_; refine hK.out _ _ ⟨uk ha.out 18 hb_ rfl rfl rfl, QHW, QHP⟩
       refine steps_cons ?_ ?_
       ·rintro b a w' ⟨ha, QHW, QHP⟩ hb_ hon hoff; refine ⟨_, rfl, fun K hK => ?_⟩; have e25 := ek ha 13 13 25 (undef) hon; replace ha := sd ha; have HW := sd QHW; have HP := sd QHP; refine off_ (wanted_undef rfl rfl rfl e25) ?_; refine hK.out _ _ ⟨uk ha.out 19 hb_ rfl rfl rfl, QHW, QHP⟩
       refine steps_cons ?_ ?_
       ·rintro b a w' ⟨ha, QHW, QHP⟩ hb_ hon hoff; refine ⟨_, rfl, fun K hK => ?_⟩; have e25 := ek ha 13 13 25 (undef) hon; replace ha := sd ha; have HW := sd QHW; have HP := sd QHP; refine off_ (wanted_undef rfl rfl rfl e25) ?_; refine hK.out _ _ ⟨uk ha.out 20 hb_ rfl rfl rfl, QHW, QHP⟩
       refine steps_cons ?_ ?_
       ·rintro b a w' ⟨ha, QHW, QHP⟩ hb_ hon hoff; refine ⟨_, rfl, fun K hK => ?_⟩; have e25 := ek ha 13 13 25 (undef) hon; replace ha := sd ha; have HW := sd QHW; have HP := sd QHP; refine off_ (wanted_undef rfl rfl rfl e25) ?_; refine hK.out _ _ ⟨uk ha.out 21 hb_ rfl rfl rfl, QHW, QHP⟩
       refine steps_cons ?_ ?_
       ·rintro b a w' ⟨ha, QHW, QHP⟩ hb_ hon hoff; refine ⟨_, rfl, fun K hK => ?_⟩; have e25 := ek ha 13 13 25 (undef) hon; replace ha := sd ha; have HW := sd QHW; have HP := sd QHP; refine off_ (wanted_undef rfl rfl rfl e25) ?_; refine hK.out _ _ ⟨uk ha.out 22 hb_ rfl rfl rfl, QHW, QHP⟩
       refine steps_cons ?_ ?_
       ·rintro b a w' ⟨ha, QHW, QHP⟩ hb_ hon hoff; refine ⟨_, rfl, fun K hK => ?_⟩; have e22 := ek ha 10 10 22 (.bool true) hon; replace ha := sd ha; have HW := sd QHW; have HP := sd QHP; refine off_ (wanted_off rfl rfl rfl (e22.trans (by first | rfl | (simp [*]; done)))) ?_; refine hK.out _ _ ⟨uk ha.out 23 hb_ rfl rfl rfl, QHW, QHP⟩
       refine steps_cons ?_ ?_
       ·rintro b a w' ⟨ha, QHW, QHP⟩ hb_ hon hoff; refine ⟨_, rfl, fun K hK => ?_⟩; have e22 := ek ha 10 10 22 (.bool true) hon; have e35 := ek ha 23 23 35 (undef) hon; replace ha := sd ha; have HW := sd QHW; have HP := sd QHP; refine value_ (w1 := w') (v := .bool true) (by rfl) rfl ?_ ?_
        ·go_simp; (try simp only [i64_w]); try rfl
        refine hK.out _ _ ⟨uk ha.out 24 hb_ rfl rfl rfl, QHW, QHP⟩
       exact steps_nil
      ·rintro b a w' hall ⟨ha, QHW, QHP⟩; clear HP HW; have hb0_ := hall 0 (by kernel_rfl); have hb1_ := hall 1 (by kernel_rfl); have hb2_ := hall 2 (by kernel_rfl); have hb3_ := hall 3 (by kernel_rfl); have hb4_ := hall 4 (by kernel_rfl); have hb5_ := hall 5 (by kernel_rfl); have hb6_ := hall 6 (by kernel_rfl); have hb7_ := hall 7 (by kernel_rfl); have hb8_ := hall 8 (by kernel_rfl); have hb9_ := hall 9 (by kernel_rfl); have hb10_ := hall 10 (by kernel_rfl); have hb11_ := hall 11 (by kernel_rfl); have hb12_ := hall 12 (by kernel_rfl); have hb13_ := hall 13 (by kernel_rfl); have hb14_ := hall 14 (by kernel_rfl); have hb15_ := hall 15 (by kernel_rfl); have hb16_ := hall 16 (by kernel_rfl); have hb17_ := hall 17 (by kernel_rfl); have hb18_ := hall 18 (by kernel_rfl); have hb19_ := hall 19 (by kernel_rfl); have hb20_ := hall 20 (by kernel_rfl); have hb21_ := hall 21 (by kernel_rfl); have hb22_ := hall 22 (by kernel_rfl); have hb23_ := hall 23 (by kernel_rfl); have hb24_ := hall 24 (by kernel_rfl); subst ha; simp only [putSel, hb0_, hb1_, hb2_, hb3_, hb4_, hb5_, hb6_, hb7_, hb8_, hb9_, hb10_, hb11_, hb12_, hb13_, hb14_, hb15_, hb16_, hb17_, hb18_, hb19_, hb20_, hb21_, hb22_, hb23_, hb24_, if_true, Act.put, List.setIfInBounds_toArray, List.set_cons_zero, List.set_cons_succ]; have HW := sd QHW; clear QHW; have HP := sd QHP; clear QHP; clear hall hb0_ hb1_ hb2_ hb3_ hb4_ hb5_ hb6_ hb7_ hb8_ hb9_ hb10_ hb11_ hb12_ hb13_ hb14_ hb15_ hb16_ hb17_ hb18_ hb19_ hb20_ hb21_ hb22_ hb23_ hb24_; go_wp2; go_meet
       case rel => exact ⟨by rw [HF.out]; rfl, HW⟩
     case true =>
       by_cases j0 : j = 0
       ·have HJ0 : Hid (j = 0) := Lib.hid j0; have HF : Hid (stepA l j = true) := Lib.hid (by unfold stepA; rw [HG.out]; show (nameOk nm && valOk it n tx && _) = _; rw [HV.out, HV2.out, decide_eq_true j0]; rfl); clear j0; refine start_ (n := 25) (S := fun w' => True) (ds := []) #[false, false, false, false, false, false, false, false, false, false, false, false, false, false, false, false, false, false, false, false, false, false, false, false, false] (by kernel_rfl) rfl rfl trivial (fun hHeld => ?_); refine with_tabW wrrt_firstReg.tab4 wrrt_firstReg.bits4 (fun HT_ HW_ => ?_); refine inv_at [0, 1, 2, 3, 4, 5, 6, 7, 8, 9, 10, 11, 12, 13, 14, 15, 16, 17, 18, 19, 20, 21, 22, 23, 24] (fun a0_ b a w' => a = putSel a0_ b [(0, 12, .pointer (some ⟨wr.heap.size, 0, none⟩)), (1, 13, .string nm), (2, 14, .bool true), (3, 15, .bool false), (4, 16, .bool false), (5, 17, .pointer (some ⟨wr.heap.size, 1, none⟩)), (6, 18, .agg #[.bool it, .int .i64 n, .string tx]), (7, 19, .bool true), (8, 20, .bool false), (9, 21, .bool false), (10, 22, .bool false), (11, 23, .int .i64 (j : Int)), (12, 24, .bool false), (13, 25, .bool false), (14, 26, undef), (15, 27, undef), (16, 28, undef), (17, 29, undef), (18, 30, undef), (19, 31, undef), (20, 32, undef), (21, 33, undef), (22, 34, undef), (23, 35, .bool false), (24, 36, .bool false)] ∧ (Below w.heap.size w w') ∧ (w'.heap[wr.heap.size]? = some (.cells #[.string nm, .bool it, .int .i64 n, .string tx] 59 (0, 0)))) HT_.out HW_.out (by kernel_rfl) (by kernel_rfl) ?_ ?_ ?_
        ·exact ⟨by simp only [putSel, Bool.false_eq_true, if_false], below_drew HW.out, HP.out⟩
        ·skip
         clear HP HW; refine steps_cons ?_ ?_
         ·rintro b a w' ⟨ha, QHW, QHP⟩ hb_ hon hoff; refine ⟨_, rfl, fun K hK => ?_⟩; have e4 := ef ha 4 (.pointer (some ⟨wr.heap.size, 0, none⟩)); replace ha := sd ha; have HW := sd QHW; have HP := sd QHP; refine value_ (w1 := w') (v := .pointer (some ⟨wr.heap.size, 0, none⟩)) (by rfl) rfl ?_ ?_
          ·go_simp; (try simp only [i64_w]); try rfl
          refine hK.out _ _ ⟨uk ha.out 0 hb_ rfl rfl rfl, QHW, QHP⟩
         refine steps_cons ?_ ?_
         ·rintro b a w' ⟨ha, QHW, QHP⟩ hb_ hon hoff; refine ⟨_, rfl, fun K hK => ?_⟩; have e12 := ek ha 0 0 12 (.pointer (some ⟨wr.heap.size, 0, none⟩)) hon; replace ha := sd ha; have HW := sd QHW; have HP := sd QHP; have q0 := (blk_cell HP.out 0).trans (rfl : _ = some (Value.string nm)); refine value_ (w1 := w') (v := .string nm) (by rfl) rfl ?_ ?_
          ·go_simp; (try simp only [i64_w]); try rfl
          refine hK.out _ _ ⟨uk ha.out 1 hb_ rfl rfl rfl, QHW, QHP⟩
         refine steps_cons ?_ ?_
         ·rintro b a w' ⟨ha, QHW, QHP⟩ hb_ hon hoff; refine ⟨_, rfl, fun K hK => ?_⟩; have e13 := ek ha 1 1 13 (.string nm) hon; replace ha := sd ha; have HW := sd QHW; have HP := sd QHP; refine goes_ Tryd.func98 (by kernel_rfl) rfl #[.string nm] (by rfl) rfl rfl (ev1 e13) ?_; refine (rname_calls nm HSM.out w').mono ?_; rintro e w2 ⟨he, hB⟩; rw [HV.out] at he; subst he; refine ⟨_, rfl, ?_⟩; refine hK.out _ _ ⟨uk ha.out 2 hb_ rfl rfl rfl, below_step HW.out hB, blk_below HP.out hB⟩
         refine steps_cons ?_ ?_
         ·rintro b a w' ⟨ha, QHW, QHP⟩ hb_ hon hoff; refine ⟨_, rfl, fun K hK => ?_⟩; have e14 := ek ha 2 2 14 (.bool true) hon; replace ha := sd ha; have HW := sd QHW; have HP := sd QHP; refine value_ (w1 := w') (v := .bool false) (by rfl) rfl ?_ ?_
          ·go_simp; (try simp only [i64_w]); try rfl
          refine hK.out _ _ ⟨uk ha.out 3 hb_ rfl rfl rfl, QHW, QHP⟩
         refine steps_cons ?_ ?_
         ·rintro b a w' ⟨ha, QHW, QHP⟩ hb_ hon hoff; refine ⟨_, rfl, fun K hK => ?_⟩; have e15 := ek ha 3 3 15 (.bool false) hon; replace ha := sd ha; have HW := sd QHW; have HP := sd QHP; refine value_ (w1 := w') (v := .bool false) (by rfl) rfl ?_ ?_
          ·go_simp; (try simp only [i64_w]); try rfl
          refine hK.out _ _ ⟨uk ha.out 4 hb_ rfl rfl rfl, QHW, QHP⟩
         refine steps_cons ?_ ?_
         ·rintro b a w' ⟨ha, QHW, QHP⟩ hb_ hon hoff; refine ⟨_, rfl, fun K hK => ?_⟩; have e4 := ef ha 4 (.pointer (some ⟨wr.heap.size, 0, none⟩)); have e16 := ek ha 4 4 16 (.bool false) hon; replace ha := sd ha; have HW := sd QHW; have HP := sd QHP; refine value_ (w1 := w') (v := .pointer (some ⟨wr.heap.size, 1, none⟩)) (wanted_on rfl rfl rfl (e16.trans (by first | rfl | (simp [*]; done)))) rfl ?_ ?_
          ·go_simp; (try simp only [i64_w]); try rfl
          refine hK.out _ _ ⟨uk ha.out 5 hb_ rfl rfl rfl, QHW, QHP⟩
         refine steps_cons ?_ ?_
         ·rintro b a w' ⟨ha, QHW, QHP⟩ hb_ hon hoff; refine ⟨_, rfl, fun K hK => ?_⟩; have e17 := ek ha 5 5 17 (.pointer (some ⟨wr.heap.size, 1, none⟩)) hon; have e16 := ek ha 4 4 16 (.bool false) hon; replace ha := sd ha; have HW := sd QHW; have HP := sd QHP; have q1 := (blk_cell HP.out 1).trans (rfl : _ = some (Value.bool it)); have q2 := (blk_cell HP.out 2).trans (rfl : _ = some (Value.int .i64 n)); have q3 := (blk_cell HP.out 3).trans (rfl : _ = some (Value.string tx)); refine value_ (w1 := w') (v := .agg #[.bool it, .int .i64 n, .string tx]) (wanted_on rfl rfl rfl (e16.trans (by first | rfl | (simp [*]; done)))) rfl ?_ ?_
          ·go_simp; (try simp only [i64_w]); try rfl
          refine hK.out _ _ ⟨uk ha.out 6 hb_ rfl rfl rfl, QHW, QHP⟩
         refine steps_cons ?_ ?_
         ·rintro b a w' ⟨ha, QHW, QHP⟩ hb_ hon hoff; refine ⟨_, rfl, fun K hK => ?_⟩; have e18 := ek ha 6 6 18 (.agg #[.bool it, .int .i64 n, .string tx]) hon; have e16 := ek ha 4 4 16 (.bool false) hon; replace ha := sd ha; have HW := sd QHW; have HP := sd QHP; refine goes_ Tryd.func99 (by kernel_rfl) rfl #[.agg #[.bool it, .int .i64 n, .string tx]] (wanted_on rfl rfl rfl e16) rfl rfl (ev1 e18) ?_; refine (rval_calls it n tx w').mono ?_; rintro e w2 ⟨he, hB⟩; rw [HV2.out] at he; subst he; refine ⟨_, rfl, ?_⟩; refine hK.out _ _ ⟨uk ha.out 7 hb_ rfl rfl rfl, below_step HW.out hB, blk_below HP.out hB⟩
         refine steps_cons ?_ ?_
         ·rintro b a w' ⟨ha, QHW, QHP⟩ hb_ hon hoff; refine ⟨_, rfl, fun K hK => ?_⟩; have e19 := ek ha 7 7 19 (.bool true) hon; have e16 := ek ha 4 4 16 (.bool false) hon; replace ha := sd ha; have HW := sd QHW; have HP := sd QHP; refine value_ (w1 := w') (v := .bool false) (wanted_on rfl rfl rfl (e16.trans (by first | rfl | (simp [*]; done)))) rfl ?_ ?_
          ·go_simp; (try simp only [i64_w]); try rfl
          refine hK.out _ _ ⟨uk ha.out 8 hb_ rfl rfl rfl, QHW, QHP⟩
         refine steps_cons ?_ ?_
         ·rintro b a w' ⟨ha, QHW, QHP⟩ hb_ hon hoff; refine ⟨_, rfl, fun K hK => ?_⟩; have e16 := ek ha 4 4 16 (.bool false) hon; have e20 := ek ha 8 8 20 (.bool false) hon; replace ha := sd ha; have HW := sd QHW; have HP := sd QHP; refine value_ (w1 := w') (v := .bool false) (by rfl) rfl ?_ ?_
          ·go_simp; (try simp only [i64_w]); try rfl
          refine hK.out _ _ ⟨uk ha.out 9 hb_ rfl rfl rfl, QHW, QHP⟩
         refine steps_cons ?_ ?_
         ·rintro b a w' ⟨ha, QHW, QHP⟩ hb_ hon hoff; refine ⟨_, rfl, fun K hK => ?_⟩; have e21 := ek ha 9 9 21 (.bool false) hon; replace ha := sd ha; have HW := sd QHW; have HP := sd QHP; refine value_ (w1 := w') (v := .bool false) (by rfl) rfl ?_ ?_
          ·go_simp; (try simp only [i64_w]); try rfl
          refine hK.out _ _ ⟨uk ha.out 10 hb_ rfl rfl rfl, QHW, QHP⟩
         refine steps_cons ?_ ?_
         ·rintro b a w' ⟨ha, QHW, QHP⟩ hb_ hon hoff; refine ⟨_, rfl, fun K hK => ?_⟩; have e3 := ef ha 3 (.int .i64 (j : Int)); have e22 := ek ha 10 10 22 (.bool false) hon; replace ha := sd ha; have HW := sd QHW; have HP := sd QHP; refine value_ (w1 := w') (v := .int .i64 (j : Int)) (wanted_on rfl rfl rfl (e22.trans (by first | rfl | (simp [*]; done)))) rfl ?_ ?_
          ·go_simp; (try simp only [i64_w]); try rfl
          refine hK.out _ _ ⟨uk ha.out 11 hb_ rfl rfl rfl, QHW, QHP⟩
         refine steps_cons ?_ ?_
         ·rintro b a w' ⟨ha, QHW, QHP⟩ hb_ hon hoff; refine ⟨_, rfl, fun K hK => ?_⟩; have e23 := ek ha 11 11 23 (.int .i64 (j : Int)) hon; have e22 := ek ha 10 10 22 (.bool false) hon; replace ha := sd ha; have HW := sd QHW; have HP := sd QHP; have hz := HJ0.out; refine value_ (w1 := w') (v := .bool false) (wanted_on rfl rfl rfl (e22.trans (by first | rfl | (simp [*]; done)))) rfl ?_ ?_
          ·go_simp; (try simp only [i64_w]); try rfl
          refine hK.out _ _ ⟨uk ha.out 12 hb_ rfl rfl rfl, QHW, QHP⟩
         refine steps_cons ?_ ?_
         ·rintro b a w' ⟨ha, QHW, QHP⟩ hb_ hon hoff; refine ⟨_, rfl, fun K hK => ?_⟩; have e24 := ek ha 12 12 24 (.bool false) hon; have e22 := ek ha 10 10 22 (.bool false) hon; replace ha := sd ha; have HW := sd QHW; have HP := sd QHP; refine value_ (w1 := w') (v := .bool false) (wanted_on rfl rfl rfl (e22.trans (by first | rfl | (simp [*]; done)))) rfl ?_ ?_
          ·go_simp; (try simp only [i64_w]); try rfl
          refine hK.out _ _ ⟨uk ha.out 13 hb_ rfl rfl rfl, QHW, QHP⟩
         refine steps_cons ?_ ?_
         ·rintro b a w' ⟨ha, QHW, QHP⟩ hb_ hon hoff; refine ⟨_, rfl, fun K hK => ?_⟩; have e25 := ek ha 13 13 25 (.bool false) hon; replace ha := sd ha; have HW := sd QHW; have HP := sd QHP; refine off_ (wanted_off rfl rfl rfl (e25.trans (by first | rfl | (simp [*]; done)))) ?_; refine hK.out _ _ ⟨uk ha.out 14 hb_ rfl rfl rfl, QHW, QHP⟩
         refine steps_cons ?_ ?_
         ·rintro b a w' ⟨ha, QHW, QHP⟩ hb_ hon hoff; refine ⟨_, rfl, fun K hK => ?_⟩; have e25 := ek ha 13 13 25 (.bool false) hon; replace ha := sd ha; have HW := sd QHW; have HP := sd QHP; refine off_ (wanted_off rfl rfl rfl (e25.trans (by first | rfl | (simp [*]; done)))) ?_; refine hK.out _ _ ⟨uk ha.out 15 hb_ rfl rfl rfl, QHW, QHP⟩
         refine steps_cons ?_ ?_
         ·rintro b a w' ⟨ha, QHW, QHP⟩ hb_ hon hoff; refine ⟨_, rfl, fun K hK => ?_⟩; have e25 := ek ha 13 13 25 (.bool false) hon; replace ha := sd ha; have HW := sd QHW; have HP := sd QHP; refine off_ (wanted_off rfl rfl rfl (e25.trans (by first | rfl | (simp [*]; done)))) ?_; refine hK.out _ _ ⟨uk ha.out 16 hb_ rfl rfl rfl, QHW, QHP⟩
         refine steps_cons ?_ ?_
         ·rintro b a w' ⟨ha, QHW, QHP⟩ hb_ hon hoff; refine ⟨_, rfl, fun K hK => ?_⟩; have e25 := ek ha 13 13 25 (.bool false) hon; replace ha := sd ha; have HW := sd QHW; have HP := sd QHP; refine off_ (wanted_off rfl rfl rfl (e25.trans (by first | rfl | (simp [*]; done)))) ?_; refine hK.out _ _ ⟨uk ha.out 17 hb_ rfl rfl rfl, QHW, QHP⟩
         refine steps_cons ?_ ?_
         ·rintro b a w' ⟨ha, QHW, QHP⟩ hb_ hon hoff; refine ⟨_, rfl, fun K hK => ?_⟩; have e25 := ek ha 13 13 25 (.bool false) hon; replace ha := sd ha; have HW := sd QHW; have HP := sd QHP; refine off_ (wanted_off rfl rfl rfl (e25.trans (by first | rfl | (simp [*]; done)))) ?_; refine hK.out _ _ ⟨uk ha.out 18 hb_ rfl rfl rfl, QHW, QHP⟩
         refine steps_cons ?_ ?_
         ·rintro b a w' ⟨ha, QHW, QHP⟩ hb_ hon hoff; refine ⟨_, rfl, fun K hK => ?_⟩; have e25 := ek ha 13 13 25 (.bool false) hon; replace ha := sd ha; have HW := sd QHW; have HP := sd QHP; refine off_ (wanted_off rfl rfl rfl (e25.trans (by first | rfl | (simp [*]; done)))) ?_; refine hK.out _ _ ⟨uk ha.out 19 hb_ rfl rfl rfl, QHW, QHP⟩
         refine steps_cons ?_ ?_
         ·rintro b a w' ⟨ha, QHW, QHP⟩ hb_ hon hoff; refine ⟨_, rfl, fun K hK => ?_⟩; have e25 := ek ha 13 13 25 (.bool false) hon; replace ha := sd ha; have HW := sd QHW; have HP := sd QHP; refine off_ (wanted_off rfl rfl rfl (e25.trans (by first | rfl | (simp [*]; done)))) ?_; refine hK.out _ _ ⟨uk ha.out 20 hb_ rfl rfl rfl, QHW, QHP⟩
         refine steps_cons ?_ ?_
         ·rintro b a w' ⟨ha, QHW, QHP⟩ hb_ hon hoff; refine ⟨_, rfl, fun K hK => ?_⟩; have e25 := ek ha 13 13 25 (.bool false) hon; replace ha := sd ha; have HW := sd QHW; have HP := sd QHP; refine off_ (wanted_off rfl rfl rfl (e25.trans (by first | rfl | (simp [*]; done)))) ?_; refine hK.out _ _ ⟨uk ha.out 21 hb_ rfl rfl rfl, QHW, QHP⟩
         refine steps_cons ?_ ?_
         ·rintro b a w' ⟨ha, QHW, QHP⟩ hb_ hon hoff; refine ⟨_, rfl, fun K hK => ?_⟩; have e25 := ek ha 13 13 25 (.bool false) hon; replace ha := sd ha; have HW := sd QHW; have HP := sd QHP; refine off_ (wanted_off rfl rfl rfl (e25.trans (by first | rfl | (simp [*]; done)))) ?_; refine hK.out _ _ ⟨uk ha.out 22 hb_ rfl rfl rfl, QHW, QHP⟩
         refine steps_cons ?_ ?_
         ·rintro b a w' ⟨ha, QHW, QHP⟩ hb_ hon hoff; refine ⟨_, rfl, fun K hK => ?_⟩; have e25 := ek ha 13 13 25 (.bool false) hon; have e34 := ek ha 22 22 34 (undef) hon; have e22 := ek ha 10 10 22 (.bool false) hon; replace ha := sd ha; have HW := sd QHW; have HP := sd QHP; refine value_ (w1 := w') (v := .bool false) (wanted_on rfl rfl rfl (e22.trans (by first | rfl | (simp [*]; done)))) rfl ?_ ?_
          ·go_simp; (try simp only [i64_w]); try rfl
          refine hK.out _ _ ⟨uk ha.out 23 hb_ rfl rfl rfl, QHW, QHP⟩
         refine steps_cons ?_ ?_
         ·rintro b a w' ⟨ha, QHW, QHP⟩ hb_ hon hoff; refine ⟨_, rfl, fun K hK => ?_⟩; have e22 := ek ha 10 10 22 (.bool false) hon; have e35 := ek ha 23 23 35 (.bool false) hon; replace ha := sd ha; have HW := sd QHW; have HP := sd QHP; refine value_ (w1 := w') (v := .bool false) (by rfl) rfl ?_ ?_
          ·go_simp; (try simp only [i64_w]); try rfl
          refine hK.out _ _ ⟨uk ha.out 24 hb_ rfl rfl rfl, QHW, QHP⟩
         exact steps_nil
        ·rintro b a w' hall ⟨ha, QHW, QHP⟩; clear HP HW; have hb0_ := hall 0 (by kernel_rfl); have hb1_ := hall 1 (by kernel_rfl); have hb2_ := hall 2 (by kernel_rfl); have hb3_ := hall 3 (by kernel_rfl); have hb4_ := hall 4 (by kernel_rfl); have hb5_ := hall 5 (by kernel_rfl); have hb6_ := hall 6 (by kernel_rfl); have hb7_ := hall 7 (by kernel_rfl); have hb8_ := hall 8 (by kernel_rfl); have hb9_ := hall 9 (by kernel_rfl); have hb10_ := hall 10 (by kernel_rfl); have hb11_ := hall 11 (by kernel_rfl); have hb12_ := hall 12 (by kernel_rfl); have hb13_ := hall 13 (by kernel_rfl); have hb14_ := hall 14 (by kernel_rfl); have hb15_ := hall 15 (by kernel_rfl); have hb16_ := hall 16 (by kernel_rfl); have hb17_ := hall 17 (by kernel_rfl); have hb18_ := hall 18 (by kernel_rfl); have hb19_ := hall 19 (by kernel_rfl); have hb20_ := hall 20 (by kernel_rfl); have hb21_ := hall 21 (by kernel_rfl); have hb22_ := hall 22 (by kernel_rfl); have hb23_ := hall 23 (by kernel_rfl); have hb24_ := hall 24 (by kernel_rfl); subst ha; simp only [putSel, hb0_, hb1_, hb2_, hb3_, hb4_, hb5_, hb6_, hb7_, hb8_, hb9_, hb10_, hb11_, hb12_, hb13_, hb14_, hb15_, hb16_, hb17_, hb18_, hb19_, hb20_, hb21_, hb22_, hb23_, hb24_, if_true, Act.put, List.setIfInBounds_toArray, List.set_cons_zero, List.set_cons_succ]; have HW := sd QHW; clear QHW; have HP := sd QHP; clear QHP; clear hall hb0_ hb1_ hb2_ hb3_ hb4_ hb5_ hb6_ hb7_ hb8_ hb9_ hb10_ hb11_ hb12_ hb13_ hb14_ hb15_ hb16_ hb17_ hb18_ hb19_ hb20_ hb21_ hb22_ hb23_ hb24_; go_wp2; go_meet
         case rel => exact ⟨by rw [HF.out]; rfl, HW⟩
       ·have HJ0 : Hid (0 < j) := Lib.hid (by omega); obtain ⟨q, hq⟩ : ∃ q : Nat, j = q + 1 := ⟨j - 1, by omega⟩; have HQ1 : Hid (IntKind.i64.wrap ((j : Int) - 1) = (q : Int)) := Lib.hid (by rw [i64_w]; unfold wrap64; omega); have HQ2 : Hid (q < l.length) := Lib.hid (by omega); obtain ⟨ad', y, he, hy, e0, _, _, _⟩ := at_At HL.out q (by omega); obtain rfl : ad = ad' := Option.some.inj he; have HY := sd e0; have HGy := Lib.hid (getA_of hy); obtain ⟨ym, yit, yn, ytx⟩ := y; clear he hy e0; obtain ⟨bl, hbl⟩ : ∃ bl, Op.bytesLess ym.toList nm.toList = bl := ⟨_, rfl⟩; have HBL := Lib.hid hbl
        have HF : Hid (stepA l j = bl) := Lib.hid (by
         unfold stepA; rw [HG.out, decide_eq_false j0, show j - 1 = q by omega, HGy.out]
         show (nameOk nm && valOk it n tx && (false || Op.bytesLess ym.toList nm.toList)) = bl
         rw [HV.out, HV2.out]; rw [hbl]; simp)
        clear hbl j0 hq; refine start_ (n := 25) (S := fun w' => True) (ds := []) #[false, false, false, false, false, false, false, false, false, false, false, false, false, false, false, false, false, false, false, false, false, false, false, false, false] (by kernel_rfl) rfl rfl trivial (fun hHeld => ?_); refine with_tabW wrrt_okReg.tab4 wrrt_okReg.bits4 (fun HT_ HW_ => ?_); refine inv_at [0, 1, 2, 3, 4, 5, 6, 7, 8, 9, 10, 11, 12, 13, 14, 15, 16, 17, 18, 19, 20, 21, 22, 23, 24] (fun a0_ b a w' => a = putSel a0_ b [(0, 12, .pointer (some ⟨wr.heap.size, 0, none⟩)), (1, 13, .string nm), (2, 14, .bool true), (3, 15, .bool false), (4, 16, .bool false), (5, 17, .pointer (some ⟨wr.heap.size, 1, none⟩)), (6, 18, .agg #[.bool it, .int .i64 n, .string tx]), (7, 19, .bool true), (8, 20, .bool false), (9, 21, .bool false), (10, 22, .bool false), (11, 23, .int .i64 (j : Int)), (12, 24, .bool true), (13, 25, .bool true), (14, 26, .slice (some ad) l.length c), (15, 27, .int .i64 (j : Int)), (16, 28, .int .i64 (q : Int)), (17, 29, .pointer (some (ad.add (q * 4)))), (18, 30, .pointer (some (ad.add (q * 4)))), (19, 31, .string ym), (20, 32, .pointer (some ⟨wr.heap.size, 0, none⟩)), (21, 33, .string nm), (22, 34, .bool (!bl)), (23, 35, .bool (!bl)), (24, 36, .bool (!bl))] ∧ (Below w.heap.size w w') ∧ (w'.heap[wr.heap.size]? = some (.cells #[.string nm, .bool it, .int .i64 n, .string tx] 59 (0, 0)))) HT_.out HW_.out (by kernel_rfl) (by kernel_rfl) ?_ ?_ ?_
        ·exact ⟨by simp only [putSel, Bool.false_eq_true, if_false], below_drew HW.out, HP.out⟩
        ·skip
         clear HP HW; refine steps_cons ?_ ?_
         ·rintro b a w' ⟨ha, QHW, QHP⟩ hb_ hon hoff; refine ⟨_, rfl, fun K hK => ?_⟩; have e4 := ef ha 4 (.pointer (some ⟨wr.heap.size, 0, none⟩)); replace ha := sd ha; have HW := sd QHW; have HP := sd QHP; refine value_ (w1 := w') (v := .pointer (some ⟨wr.heap.size, 0, none⟩)) (by rfl) rfl ?_ ?_
          ·go_simp; (try simp only [i64_w]); try rfl
          refine hK.out _ _ ⟨uk ha.out 0 hb_ rfl rfl rfl, QHW, QHP⟩
         refine steps_cons ?_ ?_
         ·rintro b a w' ⟨ha, QHW, QHP⟩ hb_ hon hoff; refine ⟨_, rfl, fun K hK => ?_⟩; have e12 := ek ha 0 0 12 (.pointer (some ⟨wr.heap.size, 0, none⟩)) hon; replace ha := sd ha; have HW := sd QHW; have HP := sd QHP; have q0 := (blk_cell HP.out 0).trans (rfl : _ = some (Value.string nm)); refine value_ (w1 := w') (v := .string nm) (by rfl) rfl ?_ ?_
          ·go_simp; (try simp only [i64_w]); try rfl
          refine hK.out _ _ ⟨uk ha.out 1 hb_ rfl rfl rfl, QHW, QHP⟩
         refine steps_cons ?_ ?_
         ·rintro b a w' ⟨ha, QHW, QHP⟩ hb_ hon hoff; refine ⟨_, rfl, fun K hK => ?_⟩; have e13 := ek ha 1 1 13 (.string nm) hon; replace ha := sd ha; have HW := sd QHW; have HP := sd QHP; refine goes_ Tryd.func98 (by kernel_rfl) rfl #[.string nm] (by rfl) rfl rfl (ev1 e13) ?_; refine (rname_calls nm HSM.out w').mono ?_; rintro e w2 ⟨he, hB⟩; rw [HV.out] at he; subst he; refine ⟨_, rfl, ?_⟩; refine hK.out _ _ ⟨uk ha.out 2 hb_ rfl rfl rfl, below_step HW.out hB, blk_below HP.out hB⟩
         refine steps_cons ?_ ?_
         ·rintro b a w' ⟨ha, QHW, QHP⟩ hb_ hon hoff; refine ⟨_, rfl, fun K hK => ?_⟩; have e14 := ek ha 2 2 14 (.bool true) hon; replace ha := sd ha; have HW := sd QHW; have HP := sd QHP; refine value_ (w1 := w') (v := .bool false) (by rfl) rfl ?_ ?_
          ·go_simp; (try simp only [i64_w]); try rfl
          refine hK.out _ _ ⟨uk ha.out 3 hb_ rfl rfl rfl, QHW, QHP⟩
         refine steps_cons ?_ ?_
         ·rintro b a w' ⟨ha, QHW, QHP⟩ hb_ hon hoff; refine ⟨_, rfl, fun K hK => ?_⟩; have e15 := ek ha 3 3 15 (.bool false) hon; replace ha := sd ha; have HW := sd QHW; have HP := sd QHP; refine value_ (w1 := w') (v := .bool false) (by rfl) rfl ?_ ?_
          ·go_simp; (try simp only [i64_w]); try rfl
          refine hK.out _ _ ⟨uk ha.out 4 hb_ rfl rfl rfl, QHW, QHP⟩
         refine steps_cons ?_ ?_
         ·rintro b a w' ⟨ha, QHW, QHP⟩ hb_ hon hoff; refine ⟨_, rfl, fun K hK => ?_⟩; have e4 := ef ha 4 (.pointer (some ⟨wr.heap.size, 0, none⟩)); have e16 := ek ha 4 4 16 (.bool false) hon; replace ha := sd ha; have HW := sd QHW; have HP := sd QHP; refine value_ (w1 := w') (v := .pointer (some ⟨wr.heap.size, 1, none⟩)) (wanted_on rfl rfl rfl (e16.trans (by first | rfl | (simp [*]; done)))) rfl ?_ ?_
          ·go_simp; (try simp only [i64_w]); try rfl
          refine hK.out _ _ ⟨uk ha.out 5 hb_ rfl rfl rfl, QHW, QHP⟩
         refine steps_cons ?_ ?_
         ·rintro b a w' ⟨ha, QHW, QHP⟩ hb_ hon hoff; refine ⟨_, rfl, fun K hK => ?_⟩; have e17 := ek ha 5 5 17 (.pointer (some ⟨wr.heap.size, 1, none⟩)) hon; have e16 := ek ha 4 4 16 (.bool false) hon; replace ha := sd ha; have HW := sd QHW; have HP := sd QHP; have q1 := (blk_cell HP.out 1).trans (rfl : _ = some (Value.bool it)); have q2 := (blk_cell HP.out 2).trans (rfl : _ = some (Value.int .i64 n)); have q3 := (blk_cell HP.out 3).trans (rfl : _ = some (Value.string tx)); refine value_ (w1 := w') (v := .agg #[.bool it, .int .i64 n, .string tx]) (wanted_on rfl rfl rfl (e16.trans (by first | rfl | (simp [*]; done)))) rfl ?_ ?_
          ·go_simp; (try simp only [i64_w]); try rfl
          refine hK.out _ _ ⟨uk ha.out 6 hb_ rfl rfl rfl, QHW, QHP⟩
         refine steps_cons ?_ ?_
         ·rintro b a w' ⟨ha, QHW, QHP⟩ hb_ hon hoff; refine ⟨_, rfl, fun K hK => ?_⟩; have e18 := ek ha 6 6 18 (.agg #[.bool it, .int .i64 n, .string tx]) hon; have e16 := ek ha 4 4 16 (.bool false) hon; replace ha := sd ha; have HW := sd QHW; have HP := sd QHP; refine goes_ Tryd.func99 (by kernel_rfl) rfl #[.agg #[.bool it, .int .i64 n, .string tx]] (wanted_on rfl rfl rfl e16) rfl rfl (ev1 e18) ?_; refine (rval_calls it n tx w').mono ?_; rintro e w2 ⟨he, hB⟩; rw [HV2.out] at he; subst he; refine ⟨_, rfl, ?_⟩; refine hK.out _ _ ⟨uk ha.out 7 hb_ rfl rfl rfl, below_step HW.out hB, blk_below HP.out hB⟩
         refine steps_cons ?_ ?_
         ·rintro b a w' ⟨ha, QHW, QHP⟩ hb_ hon hoff; refine ⟨_, rfl, fun K hK => ?_⟩; have e19 := ek ha 7 7 19 (.bool true) hon; have e16 := ek ha 4 4 16 (.bool false) hon; replace ha := sd ha; have HW := sd QHW; have HP := sd QHP; refine value_ (w1 := w') (v := .bool false) (wanted_on rfl rfl rfl (e16.trans (by first | rfl | (simp [*]; done)))) rfl ?_ ?_
          ·go_simp; (try simp only [i64_w]); try rfl
          refine hK.out _ _ ⟨uk ha.out 8 hb_ rfl rfl rfl, QHW, QHP⟩
         refine steps_cons ?_ ?_
         ·rintro b a w' ⟨ha, QHW, QHP⟩ hb_ hon hoff; refine ⟨_, rfl, fun K hK => ?_⟩; have e16 := ek ha 4 4 16 (.bool false) hon; have e20 := ek ha 8 8 20 (.bool false) hon; replace ha := sd ha; have HW := sd QHW; have HP := sd QHP; refine value_ (w1 := w') (v := .bool false) (by rfl) rfl ?_ ?_
          ·go_simp; (try simp only [i64_w]); try rfl
          refine hK.out _ _ ⟨uk ha.out 9 hb_ rfl rfl rfl, QHW, QHP⟩
         refine steps_cons ?_ ?_
         ·rintro b a w' ⟨ha, QHW, QHP⟩ hb_ hon hoff; refine ⟨_, rfl, fun K hK => ?_⟩; have e21 := ek ha 9 9 21 (.bool false) hon; replace ha := sd ha; have HW := sd QHW; have HP := sd QHP; refine value_ (w1 := w') (v := .bool false) (by rfl) rfl ?_ ?_
          ·go_simp; (try simp only [i64_w]); try rfl
          refine hK.out _ _ ⟨uk ha.out 10 hb_ rfl rfl rfl, QHW, QHP⟩
         refine steps_cons ?_ ?_
         ·rintro b a w' ⟨ha, QHW, QHP⟩ hb_ hon hoff; refine ⟨_, rfl, fun K hK => ?_⟩; have e3 := ef ha 3 (.int .i64 (j : Int)); have e22 := ek ha 10 10 22 (.bool false) hon; replace ha := sd ha; have HW := sd QHW; have HP := sd QHP; refine value_ (w1 := w') (v := .int .i64 (j : Int)) (wanted_on rfl rfl rfl (e22.trans (by first | rfl | (simp [*]; done)))) rfl ?_ ?_
          ·go_simp; (try simp only [i64_w]); try rfl
          refine hK.out _ _ ⟨uk ha.out 11 hb_ rfl rfl rfl, QHW, QHP⟩
         refine steps_cons ?_ ?_
         ·rintro b a w' ⟨ha, QHW, QHP⟩ hb_ hon hoff; refine ⟨_, rfl, fun K hK => ?_⟩; have e23 := ek ha 11 11 23 (.int .i64 (j : Int)) hon; have e22 := ek ha 10 10 22 (.bool false) hon; replace ha := sd ha; have HW := sd QHW; have HP := sd QHP; have hz := HJ0.out; refine value_ (w1 := w') (v := .bool true) (wanted_on rfl rfl rfl (e22.trans (by first | rfl | (simp [*]; done)))) rfl ?_ ?_
          ·go_simp; (try simp only [i64_w]); try rfl
          refine hK.out _ _ ⟨uk ha.out 12 hb_ rfl rfl rfl, QHW, QHP⟩
         refine steps_cons ?_ ?_
         ·rintro b a w' ⟨ha, QHW, QHP⟩ hb_ hon hoff; refine ⟨_, rfl, fun K hK => ?_⟩; have e24 := ek ha 12 12 24 (.bool true) hon; have e22 := ek ha 10 10 22 (.bool false) hon; replace ha := sd ha; have HW := sd QHW; have HP := sd QHP; refine value_ (w1 := w') (v := .bool true) (wanted_on rfl rfl rfl (e22.trans (by first | rfl | (simp [*]; done)))) rfl ?_ ?_
          ·go_simp; (try simp only [i64_w]); try rfl
          refine hK.out _ _ ⟨uk ha.out 13 hb_ rfl rfl rfl, QHW, QHP⟩
         refine steps_cons ?_ ?_
         ·rintro b a w' ⟨ha, QHW, QHP⟩ hb_ hon hoff; refine ⟨_, rfl, fun K hK => ?_⟩; have e0 := ef ha 0 (.slice (some ad) l.length c); have e25 := ek ha 13 13 25 (.bool true) hon; replace ha := sd ha; have HW := sd QHW; have HP := sd QHP; refine value_ (w1 := w') (v := .slice (some ad) l.length c) (wanted_on rfl rfl rfl (e25.trans (by first | rfl | (simp [*]; done)))) rfl ?_ ?_
          ·go_simp; (try simp only [i64_w]); try rfl
          refine hK.out _ _ ⟨uk ha.out 14 hb_ rfl rfl rfl, QHW, QHP⟩
         refine steps_cons ?_ ?_
         ·rintro b a w' ⟨ha, QHW, QHP⟩ hb_ hon hoff; refine ⟨_, rfl, fun K hK => ?_⟩; have e3 := ef ha 3 (.int .i64 (j : Int)); have e25 := ek ha 13 13 25 (.bool true) hon; replace ha := sd ha; have HW := sd QHW; have HP := sd QHP; refine value_ (w1 := w') (v := .int .i64 (j : Int)) (wanted_on rfl rfl rfl (e25.trans (by first | rfl | (simp [*]; done)))) rfl ?_ ?_
          ·go_simp; (try simp only [i64_w]); try rfl
          refine hK.out _ _ ⟨uk ha.out 15 hb_ rfl rfl rfl, QHW, QHP⟩
         refine steps_cons ?_ ?_
         ·rintro b a w' ⟨ha, QHW, QHP⟩ hb_ hon hoff; refine ⟨_, rfl, fun K hK => ?_⟩; have e27 := ek ha 15 15 27 (.int .i64 (j : Int)) hon; have e25 := ek ha 13 13 25 (.bool true) hon; replace ha := sd ha; have HW := sd QHW; have HP := sd QHP; have hq1 := HQ1.out; refine value_ (w1 := w') (v := .int .i64 (q : Int)) (wanted_on rfl rfl rfl (e25.trans (by first | rfl | (simp [*]; done)))) rfl ?_ ?_
          ·go_simp; (try simp only [i64_w]); try rfl
          refine hK.out _ _ ⟨uk ha.out 16 hb_ rfl rfl rfl, QHW, QHP⟩
         refine steps_cons ?_ ?_
         ·rintro b a w' ⟨ha, QHW, QHP⟩ hb_ hon hoff; refine ⟨_, rfl, fun K hK => ?_⟩; have e26 := ek ha 14 14 26 (.slice (some ad) l.length c) hon; have e28 := ek ha 16 16 28 (.int .i64 (q : Int)) hon; have e25 := ek ha 13 13 25 (.bool true) hon; replace ha := sd ha; have HW := sd QHW; have HP := sd QHP; have hq2 := HQ2.out; refine value_ (w1 := w') (v := .pointer (some (ad.add (q * 4)))) (wanted_on rfl rfl rfl (e25.trans (by first | rfl | (simp [*]; done)))) rfl ?_ ?_
          ·go_simp; (try simp only [i64_w]); try rfl
          refine hK.out _ _ ⟨uk ha.out 17 hb_ rfl rfl rfl, QHW, QHP⟩
         refine steps_cons ?_ ?_
         ·rintro b a w' ⟨ha, QHW, QHP⟩ hb_ hon hoff; refine ⟨_, rfl, fun K hK => ?_⟩; have e29 := ek ha 17 17 29 (.pointer (some (ad.add (q * 4)))) hon; have e25 := ek ha 13 13 25 (.bool true) hon; replace ha := sd ha; have HW := sd QHW; have HP := sd QHP; refine value_ (w1 := w') (v := .pointer (some (ad.add (q * 4)))) (wanted_on rfl rfl rfl (e25.trans (by first | rfl | (simp [*]; done)))) rfl ?_ ?_
          ·go_simp; (try simp only [i64_w]); try rfl
          refine hK.out _ _ ⟨uk ha.out 18 hb_ rfl rfl rfl, QHW, QHP⟩
         refine steps_cons ?_ ?_
         ·rintro b a w' ⟨ha, QHW, QHP⟩ hb_ hon hoff; refine ⟨_, rfl, fun K hK => ?_⟩; have e30 := ek ha 18 18 30 (.pointer (some (ad.add (q * 4)))) hon; have e25 := ek ha 13 13 25 (.bool true) hon; replace ha := sd ha; have HW := sd QHW; have HP := sd QHP; have q0 := cells_at HW.out HY.out; refine value_ (w1 := w') (v := .string ym) (wanted_on rfl rfl rfl (e25.trans (by first | rfl | (simp [*]; done)))) rfl ?_ ?_
          ·go_simp; (try simp only [i64_w]); try rfl
          refine hK.out _ _ ⟨uk ha.out 19 hb_ rfl rfl rfl, QHW, QHP⟩
         refine steps_cons ?_ ?_
         ·rintro b a w' ⟨ha, QHW, QHP⟩ hb_ hon hoff; refine ⟨_, rfl, fun K hK => ?_⟩; have e4 := ef ha 4 (.pointer (some ⟨wr.heap.size, 0, none⟩)); have e25 := ek ha 13 13 25 (.bool true) hon; replace ha := sd ha; have HW := sd QHW; have HP := sd QHP; refine value_ (w1 := w') (v := .pointer (some ⟨wr.heap.size, 0, none⟩)) (wanted_on rfl rfl rfl (e25.trans (by first | rfl | (simp [*]; done)))) rfl ?_ ?_
          ·go_simp; (try simp only [i64_w]); try rfl
          refine hK.out _ _ ⟨uk ha.out 20 hb_ rfl rfl rfl, QHW, QHP⟩
         refine steps_cons ?_ ?_
         ·rintro b a w' ⟨ha, QHW, QHP⟩ hb_ hon hoff; refine ⟨_, rfl, fun K hK => ?_⟩; have e32 := ek ha 20 20 32 (.pointer (some ⟨wr.heap.size, 0, none⟩)) hon; have e25 := ek ha 13 13 25 (.bool true) hon; replace ha := sd ha; have HW := sd QHW; have HP := sd QHP; have q0 := (blk_cell HP.out 0).trans (rfl : _ = some (Value.string nm)); refine value_ (w1 := w') (v := .string nm) (wanted_on rfl rfl rfl (e25.trans (by first | rfl | (simp [*]; done)))) rfl ?_ ?_
          ·go_simp; (try simp only [i64_w]); try rfl
          refine hK.out _ _ ⟨uk ha.out 21 hb_ rfl rfl rfl, QHW, QHP⟩
         refine steps_cons ?_ ?_
         ·rintro b a w' ⟨ha, QHW, QHP⟩ hb_ hon hoff; refine ⟨_, rfl, fun K hK => ?_⟩; have e31 := ek ha 19 19 31 (.string ym) hon; have e33 := ek ha 21 21 33 (.string nm) hon; have e25 := ek ha 13 13 25 (.bool true) hon; replace ha := sd ha; have HW := sd QHW; have HP := sd QHP; have hbl := HBL.out; refine value_ (w1 := w') (v := .bool (!bl)) (wanted_on rfl rfl rfl (e25.trans (by first | rfl | (simp [*]; done)))) rfl ?_ ?_
          ·go_simp; (try simp only [i64_w]); try rfl
          refine hK.out _ _ ⟨uk ha.out 22 hb_ rfl rfl rfl, QHW, QHP⟩
         refine steps_cons ?_ ?_
         ·rintro b a w' ⟨ha, QHW, QHP⟩ hb_ hon hoff; refine ⟨_, rfl, fun K hK => ?_⟩; have e25 := ek ha 13 13 25 (.bool true) hon; have e34 := ek ha 22 22 34 (.bool (!bl)) hon; have e22 := ek ha 10 10 22 (.bool false) hon; replace ha := sd ha; have HW := sd QHW; have HP := sd QHP; refine value_ (w1 := w') (v := .bool (!bl)) (wanted_on rfl rfl rfl (e22.trans (by first | rfl | (simp [*]; done)))) rfl ?_ ?_
          ·go_simp; (try simp only [i64_w]); try rfl
          refine hK.out _ _ ⟨uk ha.out 23 hb_ rfl rfl rfl, QHW, QHP⟩
         refine steps_cons ?_ ?_
         ·rintro b a w' ⟨ha, QHW, QHP⟩ hb_ hon hoff; refine ⟨_, rfl, fun K hK => ?_⟩; have e22 := ek ha 10 10 22 (.bool false) hon; have e35 := ek ha 23 23 35 (.bool (!bl)) hon; replace ha := sd ha; have HW := sd QHW; have HP := sd QHP; refine value_ (w1 := w') (v := .bool (!bl)) (by rfl) rfl ?_ ?_
          ·go_simp; (try simp only [i64_w]); try rfl
          refine hK.out _ _ ⟨uk ha.out 24 hb_ rfl rfl rfl, QHW, QHP⟩
         exact steps_nil
        ·rintro b a w' hall ⟨ha, QHW, QHP⟩; clear HP HW; have hb0_ := hall 0 (by kernel_rfl); have hb1_ := hall 1 (by kernel_rfl); have hb2_ := hall 2 (by kernel_rfl); have hb3_ := hall 3 (by kernel_rfl); have hb4_ := hall 4 (by kernel_rfl); have hb5_ := hall 5 (by kernel_rfl); have hb6_ := hall 6 (by kernel_rfl); have hb7_ := hall 7 (by kernel_rfl); have hb8_ := hall 8 (by kernel_rfl); have hb9_ := hall 9 (by kernel_rfl); have hb10_ := hall 10 (by kernel_rfl); have hb11_ := hall 11 (by kernel_rfl); have hb12_ := hall 12 (by kernel_rfl); have hb13_ := hall 13 (by kernel_rfl); have hb14_ := hall 14 (by kernel_rfl); have hb15_ := hall 15 (by kernel_rfl); have hb16_ := hall 16 (by kernel_rfl); have hb17_ := hall 17 (by kernel_rfl); have hb18_ := hall 18 (by kernel_rfl); have hb19_ := hall 19 (by kernel_rfl); have hb20_ := hall 20 (by kernel_rfl); have hb21_ := hall 21 (by kernel_rfl); have hb22_ := hall 22 (by kernel_rfl); have hb23_ := hall 23 (by kernel_rfl); have hb24_ := hall 24 (by kernel_rfl); subst ha; simp only [putSel, hb0_, hb1_, hb2_, hb3_, hb4_, hb5_, hb6_, hb7_, hb8_, hb9_, hb10_, hb11_, hb12_, hb13_, hb14_, hb15_, hb16_, hb17_, hb18_, hb19_, hb20_, hb21_, hb22_, hb23_, hb24_, if_true, Act.put, List.setIfInBounds_toArray, List.set_cons_zero, List.set_cons_succ]; have HW := sd QHW; clear QHW; have HP := sd QHP; clear QHP; clear hall hb0_ hb1_ hb2_ hb3_ hb4_ hb5_ hb6_ hb7_ hb8_ hb9_ hb10_ hb11_ hb12_ hb13_ hb14_ hb15_ hb16_ hb17_ hb18_ hb19_ hb20_ hb21_ hb22_ hb23_ hb24_; go_wp2; go_meet
         case rel => exact ⟨by rw [HF.out], HW⟩
   case rest =>
    obtain ⟨rfl, HWn⟩ := hcut; clear HW HP; obtain ⟨b, hb⟩ : ∃ b, stepA l j = b := ⟨_, rfl⟩; cases b
    case false =>
     have HF : Hid (tupOk l = false) := Lib.hid (by unfold tupOk; rw [range_not hb hlt]; rfl); rw [hb]; clear hb; go_wp2; go_ret; exact ⟨by rw [HF.out]; rfl, HWn.out⟩
    case true =>
     have HN := Lib.hid (range_snoc HAll.out hb); rw [hb]; clear hb; go_wp2
     go_roundw
     case rel => exact ⟨j + 1, by omega, by go_num, ⟨HN.out⟩, HWn⟩
     case measure => simp [intOf]; omega
  ·obtain rfl : j = l.length := by omega
   have HF : Hid (tupOk l = decide ((l.length : Int) ≤ 5)) := Lib.hid (by unfold tupOk; rw [HAll.out]; rfl); go_wp2; go_ret; exact ⟨by rw [HF.out]; rfl, HWr.out⟩
end Go.Proofs.YtbplemhjhpfkgaaDoor.Wr

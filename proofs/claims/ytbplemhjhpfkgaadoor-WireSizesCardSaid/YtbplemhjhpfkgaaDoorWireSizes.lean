/-
  WireSizes returns true.
-/
import Derived.Test.YtbplemhjhpfkgaaDoorWireBack
import Derived.Test.YtbplemhjhpfkgaaDoorWireRuns
import Derived.Test.YtbplemhjhpfkgaaDoorWireSame
import Derived.Test.YtbplemhjhpfkgaaDoorOpenKey
namespace Go.Proofs.YtbplemhjhpfkgaaDoor.Wr
open Go.RowKit Go.Proofs.YtbplemhjhpfkgaaDoorW.PrintWords Go.Proofs.YtbplemhjhpfkgaaDoorW.PrintLast Go.Proofs.YtbplemhjhpfkgaaDoorW.PrintMore Go.Proofs.YtbplemhjhpfkgaaDoor.Rd
open Go.Proofs.YtbplemhjhpfkgaaDoor.Cd (Co At kCo kAt at_Co at_At nilCo nilAt)
open Go.Proofs.YtbplemhjhpfkgaaDoor.Ft (Door Chain new_chain kind_calls place_calls chain_iface)
attribute [local go_sem] max2_int min2_int max_two min_two max_three min_three max_four min_four
set_option linter.unusedVariables false
set_option linter.unusedSimpArgs false
theorem msgB_lenS (m : MsgD) (h : rightM m = true) : 17 ≤ (msgB m).length ∧ (msgB m).length ≤ 10000 := by
  have hl : m.p.length ≤ 5 ∧ m.s.length ≤ 5 := by
    simp only [rightM, predOk, tupOk, Bool.and_eq_true, decide_eq_true_iff] at h
    omega
  have h1 := iB_le m.k m.ic m.is
  have h2 := pB_le m.k m.p
  have h3 := sB_le m.k m.s
  unfold msgB
  simp only [List.length_append, be8s_len, List.length_cons, List.length_nil]
  omega
theorem msgB_head (m : MsgD) (h : rightM m = true) : (msgB m).getD 0 0 = m.k := by
  have hk := (isRight h).k
  have : m.k % 256 = m.k := by omega
  simp [msgB, List.append_assoc, this]
/-- The i-th name of the greatest messages, their constraints, their attributes. -/
def nmS (i : Nat) : ByteArray := (⟨#[97, 97, 97, 97, 97, 97, 97, 97, 97, 97, 97]⟩ : ByteArray) ++ strOfNums [(97 + i : Int)]
def coS (i : Nat) : Co := (nmS i, 1, -9223372036854775808, 9223372036854775807, ⟨#[]⟩)
def atS (i : Nat) : At := (nmS i, true, 0, ⟨#[97, 98, 99, 100, 101, 102, 103, 104, 105, 106, 107, 108]⟩)
def bigP (k : Nat) : List Co := (List.range k).map coS
def pubA (k : Nat) : List At := (List.range k).map atS
theorem at_coW : ∀ q, q ∈ 59 :: kAt.E → q ≠ 44 := by intro q hq; simp [kAt, Go.Proofs.YtbplemhjhpfkgaaDoor.Cd.flat] at hq; subst hq; decide
theorem right_big (r0 : Int) (h0 : 0 ≤ r0) (h1 : r0 ≤ 31) : rightM ⟨3, 31, 9223372036854775807, r0, 0, bigP 5, []⟩ = true := by
  have e : predOk (bigP 5) = true := by kernel_rfl
  have z : tupOk [] = true := rfl
  have o : idOk r0 0 = true := by unfold idOk; rw [decide_eq_true h0, decide_eq_true (show r0 < 32 by omega)]; rfl
  have u : idOk 31 9223372036854775807 = true := by decide
  simp [rightM, kindOk, asksI, asksP, asksS, e, z, o, u]
theorem right_pub : rightM ⟨5, 31, 9223372036854775807, 0, 0, [], pubA 5⟩ = true := by
  have e : tupOk (pubA 5) = true := by kernel_rfl
  have z : predOk [] = true := rfl
  have o : idOk 0 0 = true := by decide
  have u : idOk 31 9223372036854775807 = true := by decide
  simp [rightM, kindOk, asksI, asksP, asksS, e, z, o, u]
theorem i64_max : InI64 9223372036854775807 := ⟨by decide, by decide⟩
theorem wf_big (r0 : Int) : WfM ⟨3, 31, 9223372036854775807, r0, 0, bigP 5, []⟩ :=
  ⟨i64_max, i64_0, fun y hy => by obtain ⟨j, _, rfl⟩ := List.mem_map.1 hy; exact ⟨⟨by show (-9223372036854775808 : Int) ≤ -9223372036854775808; decide, by show (-9223372036854775808 : Int) ≤ 9223372036854775807; decide⟩, ⟨by show (-9223372036854775808 : Int) ≤ 9223372036854775807; decide, by show (9223372036854775807 : Int) ≤ 9223372036854775807; decide⟩⟩, fun y hy => by cases hy⟩
theorem sm_all : ∀ i, i < 5 → Sm (nmS i) := by
  intro i h
  have e : ∀ i : Fin 5, (nmS i).size = 12 := by decide
  have := e ⟨i, h⟩
  unfold Sm
  simp only at this
  omega
theorem sm_bigP : ∀ x ∈ bigP 5, Sm x.1 := fun y hy => by obtain ⟨j, hj, rfl⟩ := List.mem_map.1 hy; exact sm_all j (List.mem_range.1 hj)
theorem sm_pubA : ∀ x ∈ pubA 5, Sm x.1 := fun y hy => by obtain ⟨j, hj, rfl⟩ := List.mem_map.1 hy; exact sm_all j (List.mem_range.1 hj)
theorem len_big (r0 : Int) : (msgB ⟨3, 31, 9223372036854775807, r0, 0, bigP 5, []⟩).length ≤ 600 := by
  have h1 := iB_le 3 r0 0
  have h2 : (pB 3 (bigP 5)).length ≤ 200 := by
    have e : (pB 3 (bigP 5)).length = 151 := by kernel_rfl
    omega
  have h3 := sB_le 3 []
  unfold msgB
  simp only [List.length_append, be8s_len, List.length_cons, List.length_nil] at h3 ⊢
  omega
theorem len_pub : (msgB ⟨5, 31, 9223372036854775807, 0, 0, [], pubA 5⟩).length ≤ 600 := by
  have e : (msgB ⟨5, 31, 9223372036854775807, 0, 0, [], pubA 5⟩).length = 169 := by kernel_rfl
  omega
def wstrueReg.T4 : Bool × List (List Nat × List Nat) := (true, [([], []), ([0], [0]), ([1], [1]), ([2], [2]), ([3, 2], [2, 3]), ([2, 4], [2, 4]), ([5, 2], [5]), ([6], [6]), ([7, 6], [6, 7]), ([8, 6], [6, 8]), ([6, 9], [6, 9]), ([10, 6], [10]), ([11], [11]), ([12, 11], [11, 12]), ([13, 11], [11, 13]), ([14, 11], [11, 14]), ([11], [11]), ([16, 11], [11, 16]), ([15, 17, 11], [11, 15, 17]), ([11, 18], [11, 18]), ([19, 11], [19]), ([20], [20]), ([21, 20], [20, 21]), ([20], [20]), ([23, 20], [20, 23]), ([22, 24, 20], [20, 22, 24]), ([25, 20, 20], [20, 25]), ([26], [26]), ([26], [26]), ([28, 26], [26, 28]), ([27, 29, 26], [26, 27, 29]), ([26], [26]), ([30, 31, 26, 26], [26, 30, 31]), ([26, 32, 20], [20, 26, 32]), ([20, 33], [20, 33])])
def wstrueReg.B4 : List Nat := [0, 1, 3, 7, 15, 31, 63, 127, 255, 511, 1023, 2047, 4095, 8191, 16383, 32767, 4095, 69631, 262143, 524287, 1048575, 2097151, 4194303, 2097151, 10485759, 33554431, 67108863, 134217727, 134217727, 402653183, 1073741823, 134217727, 4294967295, 8589934591, 17179869183]
theorem wstrueReg.tab4 : rtab .any (opsOf Tryd.f11 4) = wstrueReg.T4 := by kernel_rfl
theorem wstrueReg.bits4 : waitsOk wstrueReg.T4.2 wstrueReg.B4 = true := by kernel_rfl
def wsfalseReg.T4 : Bool × List (List Nat × List Nat) := (true, [([], []), ([0], [0]), ([1], [1]), ([2], [2]), ([3, 2], [2, 3]), ([2, 4], [2, 4]), ([5, 2], [5]), ([6], [6]), ([7, 6], [6, 7]), ([8, 6], [6, 8]), ([6, 9], [6, 9]), ([10, 6], [10]), ([11], [11]), ([12, 11], [11, 12]), ([13, 11], [11, 13]), ([14, 11], [11, 14]), ([11], [11]), ([16, 11], [11, 16]), ([15, 17, 11], [11, 15, 17]), ([11, 18], [11, 18]), ([19, 11], [19]), ([20], [20]), ([21, 20], [20, 21]), ([20], [20]), ([23, 20], [20, 23]), ([22, 24, 20], [20, 22, 24]), ([25, 20, 20], [20, 25]), ([26], [26]), ([26], [26]), ([28, 26], [26, 28]), ([27, 29, 26], [26, 27, 29]), ([26], [26]), ([30, 31, 26, 26], [26, 30, 31]), ([26, 32, 20], [20, 26, 32]), ([20, 33], [20, 33])])
def wsfalseReg.B4 : List Nat := [0, 1, 3, 7, 15, 31, 63, 127, 255, 511, 1023, 2047, 4095, 8191, 16383, 32767, 4095, 69631, 262143, 524287, 1048575, 2097151, 4194303, 2097151, 10485759, 33554431, 67108863, 134217727, 134217727, 402653183, 1073741823, 134217727, 4294967295, 8589934591, 17179869183]
theorem wsfalseReg.tab4 : rtab .any (opsOf Tryd.f11 4) = wsfalseReg.T4 := by kernel_rfl
theorem wsfalseReg.bits4 : waitsOk wsfalseReg.T4.2 wsfalseReg.B4 = true := by kernel_rfl
set_option maxRecDepth 100000 in
set_option maxHeartbeats 16000000 in
theorem wireSizes_calls (x y : KeyM) (n : Int) (w : World) (hg : Door w) (hx : KeyIn w x) (hy : KeyIn w y) :
    Calls Tryd.prog 11 #[kW x, kW y, .int .i64 n] w fun e w' => e = .returned (.bool true) ∧ Below w.heap.size w w' := by
  have HG := Aside0.mk hg
  have HXx := Aside0.mk hx
  have HXy := Aside0.mk hy
  clear hg hx hy
  have HB := Aside0.mk (below_alloc (below_alloc (Below.refl w.heap.size w) (.cells #[.int .i64 x.a0, .int .i64 x.a1, .int .i64 x.a2, .int .i64 x.a3, .int .i64 x.a4, .slice x.p.A x.p.l.length x.p.c, .slice x.q.A x.q.l.length x.q.c, .slice x.r.A x.r.l.length x.r.c, .slice x.s.A x.s.l.length x.s.c] 53)) (.cells #[.int .i64 y.a0, .int .i64 y.a1, .int .i64 y.a2, .int .i64 y.a3, .int .i64 y.a4, .slice y.p.A y.p.l.length y.p.c, .slice y.q.A y.q.l.length y.q.c, .slice y.r.A y.r.l.length y.r.c, .slice y.s.A y.s.l.length y.s.c] 53))
  have hyb := blk_new (w.alloc (.cells #[.int .i64 x.a0, .int .i64 x.a1, .int .i64 x.a2, .int .i64 x.a3, .int .i64 x.a4, .slice x.p.A x.p.l.length x.p.c, .slice x.q.A x.q.l.length x.q.c, .slice x.r.A x.r.l.length x.r.c, .slice x.s.A x.s.l.length x.s.c] 53)) (.cells #[.int .i64 y.a0, .int .i64 y.a1, .int .i64 y.a2, .int .i64 y.a3, .int .i64 y.a4, .slice y.p.A y.p.l.length y.p.c, .slice y.q.A y.q.l.length y.q.c, .slice y.r.A y.r.l.length y.r.c, .slice y.s.A y.s.l.length y.s.c] 53)
  rw [show (w.alloc (.cells #[.int .i64 x.a0, .int .i64 x.a1, .int .i64 x.a2, .int .i64 x.a3, .int .i64 x.a4, .slice x.p.A x.p.l.length x.p.c, .slice x.q.A x.q.l.length x.q.c, .slice x.r.A x.r.l.length x.r.c, .slice x.s.A x.s.l.length x.s.c] 53)).heap.size = w.heap.size + 1 by simp] at hyb
  have HYb := Aside0.mk hyb
  clear hyb
  go_enter Tryd.func11, Tryd.ntmps11
  go_upto_region 2 with (go_at_call 23; refine (msg_calls x.a0 x.a1 x.a2 x.a3 x.a4 x.p.A x.p.c x.p.l x.q.A x.q.c x.q.l x.r.A x.r.c x.r.l x.s.A x.s.c x.s.l _ (Kd.C_below HXx.out.p.C HB.out) HXx.out.p.le (Kd.C_below HXx.out.q.C HB.out) HXx.out.q.le (Kd.C_below HXx.out.r.C HB.out) HXx.out.r.le (Kd.C_below HXx.out.s.C HB.out) HXx.out.s.le).mono ?_; rintro e w1 ⟨m, D5, m5, D6, m6, rfl, hL, _, _, hr, hs, hwf, _, _, hB⟩; obtain ⟨k, tc, ts, ic, is, p, s⟩ := m; have HL := Aside0.mk hL; have HR1 := Lib.hid hr; have HS := Aside0.mk hs; have HWF1 := Aside0.mk hwf; have HM := Aside0.mk (blk_new w1 (.cells #[.int .i64 k, .int .i64 tc, .int .i64 ts, .int .i64 ic, .int .i64 is, .slice D5 p.length m5, .slice D6 s.length m6] 50)); have HYm := Aside0.mk (blk_alloc (blk_below HYb.out hB) (.cells #[.int .i64 k, .int .i64 tc, .int .i64 ts, .int .i64 ic, .int .i64 is, .slice D5 p.length m5, .slice D6 s.length m6] 50)); replace HB := Aside0.mk (below_step HB.out hB); have HB2 := Aside0.mk (below_alloc (Below.refl w1.heap.size w1) (.cells #[.int .i64 k, .int .i64 tc, .int .i64 ts, .int .i64 ic, .int .i64 is, .slice D5 p.length m5, .slice D6 s.length m6] 50)); clear hL hr hs hwf hB)
  generalize w1.alloc (.cells #[.int .i64 k, .int .i64 tc, .int .i64 ts, .int .i64 ic, .int .i64 is, .slice D5 p.length m5, .slice D6 s.length m6] 50) = wa at *
  replace HL := Aside0.mk (LiesM.below HL.out HB2.out)
  have HBa := Aside0.mk (below_step HB.out HB2.out)
  clear HB HB2
  generalize w1.heap.size = g7 at *
  generalize w.heap.size + 1 = gy at *
  have q0 := (blk_cell HM.out 0).trans (rfl : _ = some (Value.int .i64 k))
  have q1 := (blk_cell HM.out 1).trans (rfl : _ = some (Value.int .i64 tc))
  have q2 := (blk_cell HM.out 2).trans (rfl : _ = some (Value.int .i64 ts))
  have q3 := (blk_cell HM.out 3).trans (rfl : _ = some (Value.int .i64 ic))
  have q4 := (blk_cell HM.out 4).trans (rfl : _ = some (Value.int .i64 is))
  have q5 := (blk_cell HM.out 5).trans (rfl : _ = some (Value.slice D5 p.length m5))
  have q6 := (blk_cell HM.out 6).trans (rfl : _ = some (Value.slice D6 s.length m6))
  have hlm := blk_lt HM.out
  go_upto_region 3 with (go_at_call 21; refine (enc_right ⟨k, tc, ts, ic, is, p, s⟩ D5 m5 D6 m6 _ HL.out HS.out HR1.out).mono ?_; rintro e w2 ⟨v, rfl, hR, hB⟩; obtain ⟨A1, c1, rfl, hc1, hC1⟩ := Kd.R_reads hR; have HC1 := Aside0.mk hC1; replace HM := Aside0.mk (blk_below HM.out hB); replace HYm := Aside0.mk (blk_below HYm.out hB); have HW := Aside0.mk (below_step HBa.out hB); clear hR hB hC1)
  clear q0 q1 q2 q3 q4 q5 q6 hlm HBa HL
  have HLB := Lib.hid (msgB_lenS _ HR1.out)
  have HHD := Lib.hid (msgB_head _ HR1.out)
  obtain ⟨b1, hb1⟩ : ∃ b, msgB ⟨k, tc, ts, ic, is, p, s⟩ = b := ⟨_, rfl⟩
  rw [hb1] at HC1 hc1 HLB HHD ⊢
  have HE1 := Lib.hid hb1
  clear hb1
  have q0 := (blk_cell HYm.out 0).trans (rfl : _ = some (Value.int .i64 y.a0))
  have q1 := (blk_cell HYm.out 1).trans (rfl : _ = some (Value.int .i64 y.a1))
  have q2 := (blk_cell HYm.out 2).trans (rfl : _ = some (Value.int .i64 y.a2))
  have q3 := (blk_cell HYm.out 3).trans (rfl : _ = some (Value.int .i64 y.a3))
  have q4 := (blk_cell HYm.out 4).trans (rfl : _ = some (Value.int .i64 y.a4))
  have q5 := (blk_cell HYm.out 5).trans (rfl : _ = some (Value.slice y.p.A y.p.l.length y.p.c))
  have q6 := (blk_cell HYm.out 6).trans (rfl : _ = some (Value.slice y.q.A y.q.l.length y.q.c))
  have q7 := (blk_cell HYm.out 7).trans (rfl : _ = some (Value.slice y.r.A y.r.l.length y.r.c))
  have q8 := (blk_cell HYm.out 8).trans (rfl : _ = some (Value.slice y.s.A y.s.l.length y.s.c))
  have hly := blk_lt HYm.out
  go_upto_region 4 with (first
    | (replace HLo := HLo; go_at_call 21; refine (enc_right m D7 m7 D8 m8 _ HLo.out HSo.out HR2.out).mono ?_; rintro e wd ⟨v, rfl, hR, hB⟩; obtain ⟨b2, hb2⟩ : ∃ b, msgB m = b := ⟨_, rfl⟩; rw [hb2] at hR; obtain ⟨A2, c2, rfl, hc2, hC2⟩ := Kd.R_reads hR; have HC2 := Aside0.mk hC2; have HE2 := Lib.hid hb2; replace HC1 := Aside0.mk (Kd.C_below HC1.out hB); replace HM := Aside0.mk (blk_below HM.out hB); replace HW := Aside0.mk (below_step HW.out hB); clear hR hB hC2 hb2)
    | (go_at_call 23; refine (msg_calls y.a0 y.a1 y.a2 y.a3 y.a4 y.p.A y.p.c y.p.l y.q.A y.q.c y.q.l y.r.A y.r.c y.r.l y.s.A y.s.c y.s.l _ (Kd.C_below HXy.out.p.C HW.out) HXy.out.p.le (Kd.C_below HXy.out.q.C HW.out) HXy.out.q.le (Kd.C_below HXy.out.r.C HW.out) HXy.out.r.le (Kd.C_below HXy.out.s.C HW.out) HXy.out.s.le).mono ?_; rintro e w3 ⟨m, D7, m7, D8, m8, rfl, hL, _, _, hr, hs, hwf, _, _, hB⟩; have HLo := Aside0.mk hL; have HR2 := Lib.hid hr; have HSo := Aside0.mk hs; have HWF2 := Aside0.mk hwf; replace HC1 := Aside0.mk (Kd.C_below HC1.out hB); replace HM := Aside0.mk (blk_below HM.out hB); replace HW := Aside0.mk (below_step HW.out hB); clear hL hr hs hwf hB))
  clear q0 q1 q2 q3 q4 q5 q6 q7 q8 hly HYm HLo HSo
  have HW0 := HW
  clear HW
  have HW := Aside0.mk (Below.refl wd.heap.size wd)
  have H17 : Hid (17 ≤ b1.length) := Lib.hid HLB.out.1
  have HKW : Hid (IntKind.i64.wrap k = k) := Lib.hid (by have := (isRight HR1.out).k; simp only at this; exact Go.IntWalk.i64_in _ (by omega))
  obtain ⟨ad1, rfl, hq0⟩ := bytes_at HC1.out 0 (by have := HLB.out.1; omega)
  have HQ0 : Aside0 (wd.cell? ad1 = some (.int .u8 k)) := Aside0.mk (by rw [add_zero_] at hq0; rw [hq0, HHD.out])
  clear hq0
  have H0 : Hid (0 < b1.length) := Lib.hid (by have := HLB.out.1; omega)
  go_cut [69] from 35 to 69 (fun v wx => v = .bool false ∧ Aside0 (Below wd.heap.size wd wx))
  case first =>
    by_cases hgt : b1.length < b2.length
    · have HLG := Lib.hid hgt
      have HCUT : Hid (b1.length ≤ c2) := Lib.hid (by omega)
      have HSAME : Hid (∀ W, Below wd.heap.size wd W → Calls Tryd.prog 22 #[.slice A2 b1.length c2, .slice (some ad1) b1.length c1] W fun e w' => e = .returned (.bool false) ∧ Below W.heap.size W w') := Lib.hid (fun W hb => by
        have hlt : (b2.take b1.length).length = b1.length := by rw [List.length_take]; omega
        have hct := Kd.C_take HC2.out (show b1.length ≤ b2.length by omega)
        have hne : decide (b2.take b1.length = b1) = false := decide_eq_false (by
          have := msgB_free HR1.out HWF1.out HR2.out HWF2.out (by rw [HE1.out, HE2.out]; exact hgt)
          rwa [HE1.out, HE2.out] at this)
        have hsm := same_u8 A2 c2 (b2.take b1.length) (some ad1) c1 b1 W (Kd.C_below hct hb) (Kd.C_below HC1.out hb)
        rw [hlt, hne] at hsm
        exact hsm.mono (fun e w' h => ⟨h.1, Drawn0.below h.2⟩))
      clear hgt
      refine start_ (n := 35) (S := fun w' => True) (ds := []) #[false, false, false, false, false, false, false, false, false, false, false, false, false, false, false, false, false, false, false, false, false, false, false, false, false, false, false, false, false, false, false, false, false, false, false] (by kernel_rfl) rfl rfl trivial (fun hHeld => ?_)
      refine with_tabW wstrueReg.tab4 wstrueReg.bits4 (fun HT_ HW_ => ?_)
      refine inv_at [0, 1, 2, 3, 4, 5, 6, 7, 8, 9, 10, 11, 12, 13, 14, 15, 16, 17, 18, 19, 20, 21, 22, 23, 24, 25, 26, 27, 28, 29, 30, 31, 32, 33, 34] (fun a0_ b a w' => a = putSel a0_ b [(0, 35, .nilIface), (1, 36, .bool false), (2, 37, .bool false), (3, 38, .nilIface), (4, 39, .bool false), (5, 40, .bool false), (6, 41, .bool false), (7, 42, .slice (some ad1) b1.length c1), (8, 43, .int .i64 (b1.length : Int)), (9, 44, .bool false), (10, 45, .bool false), (11, 46, .bool false), (12, 47, .slice (some ad1) b1.length c1), (13, 48, .pointer (some ad1)), (14, 49, .int .u8 k), (15, 50, .int .i64 k), (16, 51, .pointer (some ⟨g7, 0, none⟩)), (17, 52, .int .i64 k), (18, 53, .bool false), (19, 54, .bool false), (20, 55, .bool false), (21, 56, .slice A2 b2.length c2), (22, 57, .int .i64 (b2.length : Int)), (23, 58, .slice (some ad1) b1.length c1), (24, 59, .int .i64 (b1.length : Int)), (25, 60, .bool true), (26, 61, .bool true), (27, 62, .slice A2 b2.length c2), (28, 63, .slice (some ad1) b1.length c1), (29, 64, .int .i64 (b1.length : Int)), (30, 65, .slice A2 b1.length c2), (31, 66, .slice (some ad1) b1.length c1), (32, 67, .bool false), (33, 68, .bool false), (34, 69, .bool false)] ∧ (Below wd.heap.size wd w')) HT_.out HW_.out (by kernel_rfl) (by kernel_rfl) ?_ ?_ ?_
      · exact ⟨by simp only [putSel, Bool.false_eq_true, if_false], below_drew HW.out⟩
      · skip
        clear HW
        refine steps_cons ?_ ?_
        · rintro b a w' ⟨ha, Q_HW⟩ hb_ hon hoff
          refine ⟨_, rfl, fun K hK => ?_⟩
          have e9 : a.tmps[9]? = some (.nilIface) := by rw [ha]; exact (putSel_off rfl).trans rfl
          replace ha := Aside0.mk ha
          have HW := Aside0.mk Q_HW
          refine value_ (w1 := w') (v := .nilIface) (by rfl) rfl ?_ ?_
          · go_simp
            (try simp only [i64_w])
            try rfl
          refine hK.out _ _ ⟨(by rw [ha.out]; exact putSel_upk 0 hb_ rfl rfl rfl), Q_HW⟩
        refine steps_cons ?_ ?_
        · rintro b a w' ⟨ha, Q_HW⟩ hb_ hon hoff
          refine ⟨_, rfl, fun K hK => ?_⟩
          have e35 : a.tmps[35]? = some (.nilIface) := by rw [ha]; exact putSel_on (e := (0, 35, .nilIface)) 0 rfl rfl (hon 0 (by kernel_rfl)) rfl
          replace ha := Aside0.mk ha
          have HW := Aside0.mk Q_HW
          refine value_ (w1 := w') (v := .bool false) (by rfl) rfl ?_ ?_
          · go_simp
            (try simp only [i64_w])
            try rfl
          refine hK.out _ _ ⟨(by rw [ha.out]; exact putSel_upk 1 hb_ rfl rfl rfl), Q_HW⟩
        refine steps_cons ?_ ?_
        · rintro b a w' ⟨ha, Q_HW⟩ hb_ hon hoff
          refine ⟨_, rfl, fun K hK => ?_⟩
          have e36 : a.tmps[36]? = some (.bool false) := by rw [ha]; exact putSel_on (e := (1, 36, .bool false)) 1 rfl rfl (hon 1 (by kernel_rfl)) rfl
          replace ha := Aside0.mk ha
          have HW := Aside0.mk Q_HW
          refine value_ (w1 := w') (v := .bool false) (by rfl) rfl ?_ ?_
          · go_simp
            (try simp only [i64_w])
            try rfl
          refine hK.out _ _ ⟨(by rw [ha.out]; exact putSel_upk 2 hb_ rfl rfl rfl), Q_HW⟩
        refine steps_cons ?_ ?_
        · rintro b a w' ⟨ha, Q_HW⟩ hb_ hon hoff
          refine ⟨_, rfl, fun K hK => ?_⟩
          have e11 : a.tmps[11]? = some (.nilIface) := by rw [ha]; exact (putSel_off rfl).trans rfl
          have e37 : a.tmps[37]? = some (.bool false) := by rw [ha]; exact putSel_on (e := (2, 37, .bool false)) 2 rfl rfl (hon 2 (by kernel_rfl)) rfl
          replace ha := Aside0.mk ha
          have HW := Aside0.mk Q_HW
          refine value_ (w1 := w') (v := .nilIface) (wanted_on rfl rfl rfl (e37.trans (by first | rfl | (simp [*]; done)))) rfl ?_ ?_
          · go_simp
            (try simp only [i64_w])
            try rfl
          refine hK.out _ _ ⟨(by rw [ha.out]; exact putSel_upk 3 hb_ rfl rfl rfl), Q_HW⟩
        refine steps_cons ?_ ?_
        · rintro b a w' ⟨ha, Q_HW⟩ hb_ hon hoff
          refine ⟨_, rfl, fun K hK => ?_⟩
          have e38 : a.tmps[38]? = some (.nilIface) := by rw [ha]; exact putSel_on (e := (3, 38, .nilIface)) 3 rfl rfl (hon 3 (by kernel_rfl)) rfl
          have e37 : a.tmps[37]? = some (.bool false) := by rw [ha]; exact putSel_on (e := (2, 37, .bool false)) 2 rfl rfl (hon 2 (by kernel_rfl)) rfl
          replace ha := Aside0.mk ha
          have HW := Aside0.mk Q_HW
          refine value_ (w1 := w') (v := .bool false) (wanted_on rfl rfl rfl (e37.trans (by first | rfl | (simp [*]; done)))) rfl ?_ ?_
          · go_simp
            (try simp only [i64_w])
            try rfl
          refine hK.out _ _ ⟨(by rw [ha.out]; exact putSel_upk 4 hb_ rfl rfl rfl), Q_HW⟩
        refine steps_cons ?_ ?_
        · rintro b a w' ⟨ha, Q_HW⟩ hb_ hon hoff
          refine ⟨_, rfl, fun K hK => ?_⟩
          have e37 : a.tmps[37]? = some (.bool false) := by rw [ha]; exact putSel_on (e := (2, 37, .bool false)) 2 rfl rfl (hon 2 (by kernel_rfl)) rfl
          have e39 : a.tmps[39]? = some (.bool false) := by rw [ha]; exact putSel_on (e := (4, 39, .bool false)) 4 rfl rfl (hon 4 (by kernel_rfl)) rfl
          replace ha := Aside0.mk ha
          have HW := Aside0.mk Q_HW
          refine value_ (w1 := w') (v := .bool false) (by rfl) rfl ?_ ?_
          · go_simp
            (try simp only [i64_w])
            try rfl
          refine hK.out _ _ ⟨(by rw [ha.out]; exact putSel_upk 5 hb_ rfl rfl rfl), Q_HW⟩
        refine steps_cons ?_ ?_
        · rintro b a w' ⟨ha, Q_HW⟩ hb_ hon hoff
          refine ⟨_, rfl, fun K hK => ?_⟩
          have e40 : a.tmps[40]? = some (.bool false) := by rw [ha]; exact putSel_on (e := (5, 40, .bool false)) 5 rfl rfl (hon 5 (by kernel_rfl)) rfl
          replace ha := Aside0.mk ha
          have HW := Aside0.mk Q_HW
          refine value_ (w1 := w') (v := .bool false) (by rfl) rfl ?_ ?_
          · go_simp
            (try simp only [i64_w])
            try rfl
          refine hK.out _ _ ⟨(by rw [ha.out]; exact putSel_upk 6 hb_ rfl rfl rfl), Q_HW⟩
        refine steps_cons ?_ ?_
        · rintro b a w' ⟨ha, Q_HW⟩ hb_ hon hoff
          refine ⟨_, rfl, fun K hK => ?_⟩
          have e8 : a.tmps[8]? = some (.slice (some ad1) b1.length c1) := by rw [ha]; exact (putSel_off rfl).trans rfl
          have e41 : a.tmps[41]? = some (.bool false) := by rw [ha]; exact putSel_on (e := (6, 41, .bool false)) 6 rfl rfl (hon 6 (by kernel_rfl)) rfl
          replace ha := Aside0.mk ha
          have HW := Aside0.mk Q_HW
          refine value_ (w1 := w') (v := .slice (some ad1) b1.length c1) (wanted_on rfl rfl rfl (e41.trans (by first | rfl | (simp [*]; done)))) rfl ?_ ?_
          · go_simp
            (try simp only [i64_w])
            try rfl
          refine hK.out _ _ ⟨(by rw [ha.out]; exact putSel_upk 7 hb_ rfl rfl rfl), Q_HW⟩
        refine steps_cons ?_ ?_
        · rintro b a w' ⟨ha, Q_HW⟩ hb_ hon hoff
          refine ⟨_, rfl, fun K hK => ?_⟩
          have e42 : a.tmps[42]? = some (.slice (some ad1) b1.length c1) := by rw [ha]; exact putSel_on (e := (7, 42, .slice (some ad1) b1.length c1)) 7 rfl rfl (hon 7 (by kernel_rfl)) rfl
          have e41 : a.tmps[41]? = some (.bool false) := by rw [ha]; exact putSel_on (e := (6, 41, .bool false)) 6 rfl rfl (hon 6 (by kernel_rfl)) rfl
          replace ha := Aside0.mk ha
          have HW := Aside0.mk Q_HW
          refine value_ (w1 := w') (v := .int .i64 (b1.length : Int)) (wanted_on rfl rfl rfl (e41.trans (by first | rfl | (simp [*]; done)))) rfl ?_ ?_
          · go_simp
            (try simp only [i64_w])
            try rfl
          refine hK.out _ _ ⟨(by rw [ha.out]; exact putSel_upk 8 hb_ rfl rfl rfl), Q_HW⟩
        refine steps_cons ?_ ?_
        · rintro b a w' ⟨ha, Q_HW⟩ hb_ hon hoff
          refine ⟨_, rfl, fun K hK => ?_⟩
          have e43 : a.tmps[43]? = some (.int .i64 (b1.length : Int)) := by rw [ha]; exact putSel_on (e := (8, 43, .int .i64 (b1.length : Int))) 8 rfl rfl (hon 8 (by kernel_rfl)) rfl
          have e41 : a.tmps[41]? = some (.bool false) := by rw [ha]; exact putSel_on (e := (6, 41, .bool false)) 6 rfl rfl (hon 6 (by kernel_rfl)) rfl
          replace ha := Aside0.mk ha
          have HW := Aside0.mk Q_HW
          have h17 : (17 : Int) ≤ (b1.length : Int) := (by have := H17.out; omega)
          refine value_ (w1 := w') (v := .bool false) (wanted_on rfl rfl rfl (e41.trans (by first | rfl | (simp [*]; done)))) rfl ?_ ?_
          · go_simp
            (try simp only [i64_w])
            try rfl
          refine hK.out _ _ ⟨(by rw [ha.out]; exact putSel_upk 9 hb_ rfl rfl rfl), Q_HW⟩
        refine steps_cons ?_ ?_
        · rintro b a w' ⟨ha, Q_HW⟩ hb_ hon hoff
          refine ⟨_, rfl, fun K hK => ?_⟩
          have e41 : a.tmps[41]? = some (.bool false) := by rw [ha]; exact putSel_on (e := (6, 41, .bool false)) 6 rfl rfl (hon 6 (by kernel_rfl)) rfl
          have e44 : a.tmps[44]? = some (.bool false) := by rw [ha]; exact putSel_on (e := (9, 44, .bool false)) 9 rfl rfl (hon 9 (by kernel_rfl)) rfl
          replace ha := Aside0.mk ha
          have HW := Aside0.mk Q_HW
          refine value_ (w1 := w') (v := .bool false) (by rfl) rfl ?_ ?_
          · go_simp
            (try simp only [i64_w])
            try rfl
          refine hK.out _ _ ⟨(by rw [ha.out]; exact putSel_upk 10 hb_ rfl rfl rfl), Q_HW⟩
        refine steps_cons ?_ ?_
        · rintro b a w' ⟨ha, Q_HW⟩ hb_ hon hoff
          refine ⟨_, rfl, fun K hK => ?_⟩
          have e45 : a.tmps[45]? = some (.bool false) := by rw [ha]; exact putSel_on (e := (10, 45, .bool false)) 10 rfl rfl (hon 10 (by kernel_rfl)) rfl
          replace ha := Aside0.mk ha
          have HW := Aside0.mk Q_HW
          refine value_ (w1 := w') (v := .bool false) (by rfl) rfl ?_ ?_
          · go_simp
            (try simp only [i64_w])
            try rfl
          refine hK.out _ _ ⟨(by rw [ha.out]; exact putSel_upk 11 hb_ rfl rfl rfl), Q_HW⟩
        refine steps_cons ?_ ?_
        · rintro b a w' ⟨ha, Q_HW⟩ hb_ hon hoff
          refine ⟨_, rfl, fun K hK => ?_⟩
          have e8 : a.tmps[8]? = some (.slice (some ad1) b1.length c1) := by rw [ha]; exact (putSel_off rfl).trans rfl
          have e46 : a.tmps[46]? = some (.bool false) := by rw [ha]; exact putSel_on (e := (11, 46, .bool false)) 11 rfl rfl (hon 11 (by kernel_rfl)) rfl
          replace ha := Aside0.mk ha
          have HW := Aside0.mk Q_HW
          refine value_ (w1 := w') (v := .slice (some ad1) b1.length c1) (wanted_on rfl rfl rfl (e46.trans (by first | rfl | (simp [*]; done)))) rfl ?_ ?_
          · go_simp
            (try simp only [i64_w])
            try rfl
          refine hK.out _ _ ⟨(by rw [ha.out]; exact putSel_upk 12 hb_ rfl rfl rfl), Q_HW⟩
        refine steps_cons ?_ ?_
        · rintro b a w' ⟨ha, Q_HW⟩ hb_ hon hoff
          refine ⟨_, rfl, fun K hK => ?_⟩
          have e47 : a.tmps[47]? = some (.slice (some ad1) b1.length c1) := by rw [ha]; exact putSel_on (e := (12, 47, .slice (some ad1) b1.length c1)) 12 rfl rfl (hon 12 (by kernel_rfl)) rfl
          have e46 : a.tmps[46]? = some (.bool false) := by rw [ha]; exact putSel_on (e := (11, 46, .bool false)) 11 rfl rfl (hon 11 (by kernel_rfl)) rfl
          replace ha := Aside0.mk ha
          have HW := Aside0.mk Q_HW
          have h0 := H0.out
          refine value_ (w1 := w') (v := .pointer (some ad1)) (wanted_on rfl rfl rfl (e46.trans (by first | rfl | (simp [*]; done)))) rfl ?_ ?_
          · go_simp
            (try simp only [i64_w])
            try rfl
          refine hK.out _ _ ⟨(by rw [ha.out]; exact putSel_upk 13 hb_ rfl rfl rfl), Q_HW⟩
        refine steps_cons ?_ ?_
        · rintro b a w' ⟨ha, Q_HW⟩ hb_ hon hoff
          refine ⟨_, rfl, fun K hK => ?_⟩
          have e48 : a.tmps[48]? = some (.pointer (some ad1)) := by rw [ha]; exact putSel_on (e := (13, 48, .pointer (some ad1))) 13 rfl rfl (hon 13 (by kernel_rfl)) rfl
          have e46 : a.tmps[46]? = some (.bool false) := by rw [ha]; exact putSel_on (e := (11, 46, .bool false)) 11 rfl rfl (hon 11 (by kernel_rfl)) rfl
          replace ha := Aside0.mk ha
          have HW := Aside0.mk Q_HW
          have q0 := cells_at HW.out HQ0.out
          refine value_ (w1 := w') (v := .int .u8 k) (wanted_on rfl rfl rfl (e46.trans (by first | rfl | (simp [*]; done)))) rfl ?_ ?_
          · go_simp
            (try simp only [i64_w])
            try rfl
          refine hK.out _ _ ⟨(by rw [ha.out]; exact putSel_upk 14 hb_ rfl rfl rfl), Q_HW⟩
        refine steps_cons ?_ ?_
        · rintro b a w' ⟨ha, Q_HW⟩ hb_ hon hoff
          refine ⟨_, rfl, fun K hK => ?_⟩
          have e49 : a.tmps[49]? = some (.int .u8 k) := by rw [ha]; exact putSel_on (e := (14, 49, .int .u8 k)) 14 rfl rfl (hon 14 (by kernel_rfl)) rfl
          have e46 : a.tmps[46]? = some (.bool false) := by rw [ha]; exact putSel_on (e := (11, 46, .bool false)) 11 rfl rfl (hon 11 (by kernel_rfl)) rfl
          replace ha := Aside0.mk ha
          have HW := Aside0.mk Q_HW
          have hk := HKW.out
          refine value_ (w1 := w') (v := .int .i64 k) (wanted_on rfl rfl rfl (e46.trans (by first | rfl | (simp [*]; done)))) rfl ?_ ?_
          · go_simp
            (try simp only [i64_w])
            try rfl
          refine hK.out _ _ ⟨(by rw [ha.out]; exact putSel_upk 15 hb_ rfl rfl rfl), Q_HW⟩
        refine steps_cons ?_ ?_
        · rintro b a w' ⟨ha, Q_HW⟩ hb_ hon hoff
          refine ⟨_, rfl, fun K hK => ?_⟩
          have e7 : a.tmps[7]? = some (.pointer (some ⟨g7, 0, none⟩)) := by rw [ha]; exact (putSel_off rfl).trans rfl
          have e46 : a.tmps[46]? = some (.bool false) := by rw [ha]; exact putSel_on (e := (11, 46, .bool false)) 11 rfl rfl (hon 11 (by kernel_rfl)) rfl
          replace ha := Aside0.mk ha
          have HW := Aside0.mk Q_HW
          refine value_ (w1 := w') (v := .pointer (some ⟨g7, 0, none⟩)) (wanted_on rfl rfl rfl (e46.trans (by first | rfl | (simp [*]; done)))) rfl ?_ ?_
          · go_simp
            (try simp only [i64_w])
            try rfl
          refine hK.out _ _ ⟨(by rw [ha.out]; exact putSel_upk 16 hb_ rfl rfl rfl), Q_HW⟩
        refine steps_cons ?_ ?_
        · rintro b a w' ⟨ha, Q_HW⟩ hb_ hon hoff
          refine ⟨_, rfl, fun K hK => ?_⟩
          have e51 : a.tmps[51]? = some (.pointer (some ⟨g7, 0, none⟩)) := by rw [ha]; exact putSel_on (e := (16, 51, .pointer (some ⟨g7, 0, none⟩))) 16 rfl rfl (hon 16 (by kernel_rfl)) rfl
          have e46 : a.tmps[46]? = some (.bool false) := by rw [ha]; exact putSel_on (e := (11, 46, .bool false)) 11 rfl rfl (hon 11 (by kernel_rfl)) rfl
          replace ha := Aside0.mk ha
          have HW := Aside0.mk Q_HW
          have q0 := (cells_at HW.out (blk_cell HM.out 0)).trans (rfl : _ = some (Value.int .i64 k))
          refine value_ (w1 := w') (v := .int .i64 k) (wanted_on rfl rfl rfl (e46.trans (by first | rfl | (simp [*]; done)))) rfl ?_ ?_
          · go_simp
            (try simp only [i64_w])
            try rfl
          refine hK.out _ _ ⟨(by rw [ha.out]; exact putSel_upk 17 hb_ rfl rfl rfl), Q_HW⟩
        refine steps_cons ?_ ?_
        · rintro b a w' ⟨ha, Q_HW⟩ hb_ hon hoff
          refine ⟨_, rfl, fun K hK => ?_⟩
          have e50 : a.tmps[50]? = some (.int .i64 k) := by rw [ha]; exact putSel_on (e := (15, 50, .int .i64 k)) 15 rfl rfl (hon 15 (by kernel_rfl)) rfl
          have e52 : a.tmps[52]? = some (.int .i64 k) := by rw [ha]; exact putSel_on (e := (17, 52, .int .i64 k)) 17 rfl rfl (hon 17 (by kernel_rfl)) rfl
          have e46 : a.tmps[46]? = some (.bool false) := by rw [ha]; exact putSel_on (e := (11, 46, .bool false)) 11 rfl rfl (hon 11 (by kernel_rfl)) rfl
          replace ha := Aside0.mk ha
          have HW := Aside0.mk Q_HW
          refine value_ (w1 := w') (v := .bool false) (wanted_on rfl rfl rfl (e46.trans (by first | rfl | (simp [*]; done)))) rfl ?_ ?_
          · go_simp
            (try simp only [i64_w])
            try rfl
          refine hK.out _ _ ⟨(by rw [ha.out]; exact putSel_upk 18 hb_ rfl rfl rfl), Q_HW⟩
        refine steps_cons ?_ ?_
        · rintro b a w' ⟨ha, Q_HW⟩ hb_ hon hoff
          refine ⟨_, rfl, fun K hK => ?_⟩
          have e46 : a.tmps[46]? = some (.bool false) := by rw [ha]; exact putSel_on (e := (11, 46, .bool false)) 11 rfl rfl (hon 11 (by kernel_rfl)) rfl
          have e53 : a.tmps[53]? = some (.bool false) := by rw [ha]; exact putSel_on (e := (18, 53, .bool false)) 18 rfl rfl (hon 18 (by kernel_rfl)) rfl
          replace ha := Aside0.mk ha
          have HW := Aside0.mk Q_HW
          refine value_ (w1 := w') (v := .bool false) (by rfl) rfl ?_ ?_
          · go_simp
            (try simp only [i64_w])
            try rfl
          refine hK.out _ _ ⟨(by rw [ha.out]; exact putSel_upk 19 hb_ rfl rfl rfl), Q_HW⟩
        refine steps_cons ?_ ?_
        · rintro b a w' ⟨ha, Q_HW⟩ hb_ hon hoff
          refine ⟨_, rfl, fun K hK => ?_⟩
          have e54 : a.tmps[54]? = some (.bool false) := by rw [ha]; exact putSel_on (e := (19, 54, .bool false)) 19 rfl rfl (hon 19 (by kernel_rfl)) rfl
          replace ha := Aside0.mk ha
          have HW := Aside0.mk Q_HW
          refine value_ (w1 := w') (v := .bool false) (by rfl) rfl ?_ ?_
          · go_simp
            (try simp only [i64_w])
            try rfl
          refine hK.out _ _ ⟨(by rw [ha.out]; exact putSel_upk 20 hb_ rfl rfl rfl), Q_HW⟩
        refine steps_cons ?_ ?_
        · rintro b a w' ⟨ha, Q_HW⟩ hb_ hon hoff
          refine ⟨_, rfl, fun K hK => ?_⟩
          have e10 : a.tmps[10]? = some (.slice A2 b2.length c2) := by rw [ha]; exact (putSel_off rfl).trans rfl
          have e55 : a.tmps[55]? = some (.bool false) := by rw [ha]; exact putSel_on (e := (20, 55, .bool false)) 20 rfl rfl (hon 20 (by kernel_rfl)) rfl
          replace ha := Aside0.mk ha
          have HW := Aside0.mk Q_HW
          refine value_ (w1 := w') (v := .slice A2 b2.length c2) (wanted_on rfl rfl rfl (e55.trans (by first | rfl | (simp [*]; done)))) rfl ?_ ?_
          · go_simp
            (try simp only [i64_w])
            try rfl
          refine hK.out _ _ ⟨(by rw [ha.out]; exact putSel_upk 21 hb_ rfl rfl rfl), Q_HW⟩
        refine steps_cons ?_ ?_
        · rintro b a w' ⟨ha, Q_HW⟩ hb_ hon hoff
          refine ⟨_, rfl, fun K hK => ?_⟩
          have e56 : a.tmps[56]? = some (.slice A2 b2.length c2) := by rw [ha]; exact putSel_on (e := (21, 56, .slice A2 b2.length c2)) 21 rfl rfl (hon 21 (by kernel_rfl)) rfl
          have e55 : a.tmps[55]? = some (.bool false) := by rw [ha]; exact putSel_on (e := (20, 55, .bool false)) 20 rfl rfl (hon 20 (by kernel_rfl)) rfl
          replace ha := Aside0.mk ha
          have HW := Aside0.mk Q_HW
          refine value_ (w1 := w') (v := .int .i64 (b2.length : Int)) (wanted_on rfl rfl rfl (e55.trans (by first | rfl | (simp [*]; done)))) rfl ?_ ?_
          · go_simp
            (try simp only [i64_w])
            try rfl
          refine hK.out _ _ ⟨(by rw [ha.out]; exact putSel_upk 22 hb_ rfl rfl rfl), Q_HW⟩
        refine steps_cons ?_ ?_
        · rintro b a w' ⟨ha, Q_HW⟩ hb_ hon hoff
          refine ⟨_, rfl, fun K hK => ?_⟩
          have e8 : a.tmps[8]? = some (.slice (some ad1) b1.length c1) := by rw [ha]; exact (putSel_off rfl).trans rfl
          have e55 : a.tmps[55]? = some (.bool false) := by rw [ha]; exact putSel_on (e := (20, 55, .bool false)) 20 rfl rfl (hon 20 (by kernel_rfl)) rfl
          replace ha := Aside0.mk ha
          have HW := Aside0.mk Q_HW
          refine value_ (w1 := w') (v := .slice (some ad1) b1.length c1) (wanted_on rfl rfl rfl (e55.trans (by first | rfl | (simp [*]; done)))) rfl ?_ ?_
          · go_simp
            (try simp only [i64_w])
            try rfl
          refine hK.out _ _ ⟨(by rw [ha.out]; exact putSel_upk 23 hb_ rfl rfl rfl), Q_HW⟩
        refine steps_cons ?_ ?_
        · rintro b a w' ⟨ha, Q_HW⟩ hb_ hon hoff
          refine ⟨_, rfl, fun K hK => ?_⟩
          have e58 : a.tmps[58]? = some (.slice (some ad1) b1.length c1) := by rw [ha]; exact putSel_on (e := (23, 58, .slice (some ad1) b1.length c1)) 23 rfl rfl (hon 23 (by kernel_rfl)) rfl
          have e55 : a.tmps[55]? = some (.bool false) := by rw [ha]; exact putSel_on (e := (20, 55, .bool false)) 20 rfl rfl (hon 20 (by kernel_rfl)) rfl
          replace ha := Aside0.mk ha
          have HW := Aside0.mk Q_HW
          refine value_ (w1 := w') (v := .int .i64 (b1.length : Int)) (wanted_on rfl rfl rfl (e55.trans (by first | rfl | (simp [*]; done)))) rfl ?_ ?_
          · go_simp
            (try simp only [i64_w])
            try rfl
          refine hK.out _ _ ⟨(by rw [ha.out]; exact putSel_upk 24 hb_ rfl rfl rfl), Q_HW⟩
        refine steps_cons ?_ ?_
        · rintro b a w' ⟨ha, Q_HW⟩ hb_ hon hoff
          refine ⟨_, rfl, fun K hK => ?_⟩
          have e57 : a.tmps[57]? = some (.int .i64 (b2.length : Int)) := by rw [ha]; exact putSel_on (e := (22, 57, .int .i64 (b2.length : Int))) 22 rfl rfl (hon 22 (by kernel_rfl)) rfl
          have e59 : a.tmps[59]? = some (.int .i64 (b1.length : Int)) := by rw [ha]; exact putSel_on (e := (24, 59, .int .i64 (b1.length : Int))) 24 rfl rfl (hon 24 (by kernel_rfl)) rfl
          have e55 : a.tmps[55]? = some (.bool false) := by rw [ha]; exact putSel_on (e := (20, 55, .bool false)) 20 rfl rfl (hon 20 (by kernel_rfl)) rfl
          replace ha := Aside0.mk ha
          have HW := Aside0.mk Q_HW
          have hlg := HLG.out
          refine value_ (w1 := w') (v := .bool true) (wanted_on rfl rfl rfl (e55.trans (by first | rfl | (simp [*]; done)))) rfl ?_ ?_
          · go_simp
            (try simp only [i64_w])
            try rfl
          refine hK.out _ _ ⟨(by rw [ha.out]; exact putSel_upk 25 hb_ rfl rfl rfl), Q_HW⟩
        refine steps_cons ?_ ?_
        · rintro b a w' ⟨ha, Q_HW⟩ hb_ hon hoff
          refine ⟨_, rfl, fun K hK => ?_⟩
          have e60 : a.tmps[60]? = some (.bool true) := by rw [ha]; exact putSel_on (e := (25, 60, .bool true)) 25 rfl rfl (hon 25 (by kernel_rfl)) rfl
          have e55 : a.tmps[55]? = some (.bool false) := by rw [ha]; exact putSel_on (e := (20, 55, .bool false)) 20 rfl rfl (hon 20 (by kernel_rfl)) rfl
          replace ha := Aside0.mk ha
          have HW := Aside0.mk Q_HW
          refine value_ (w1 := w') (v := .bool true) (wanted_on rfl rfl rfl (e55.trans (by first | rfl | (simp [*]; done)))) rfl ?_ ?_
          · go_simp
            (try simp only [i64_w])
            try rfl
          refine hK.out _ _ ⟨(by rw [ha.out]; exact putSel_upk 26 hb_ rfl rfl rfl), Q_HW⟩
        refine steps_cons ?_ ?_
        · rintro b a w' ⟨ha, Q_HW⟩ hb_ hon hoff
          refine ⟨_, rfl, fun K hK => ?_⟩
          have e10 : a.tmps[10]? = some (.slice A2 b2.length c2) := by rw [ha]; exact (putSel_off rfl).trans rfl
          have e61 : a.tmps[61]? = some (.bool true) := by rw [ha]; exact putSel_on (e := (26, 61, .bool true)) 26 rfl rfl (hon 26 (by kernel_rfl)) rfl
          replace ha := Aside0.mk ha
          have HW := Aside0.mk Q_HW
          refine value_ (w1 := w') (v := .slice A2 b2.length c2) (wanted_on rfl rfl rfl (e61.trans (by first | rfl | (simp [*]; done)))) rfl ?_ ?_
          · go_simp
            (try simp only [i64_w])
            try rfl
          refine hK.out _ _ ⟨(by rw [ha.out]; exact putSel_upk 27 hb_ rfl rfl rfl), Q_HW⟩
        refine steps_cons ?_ ?_
        · rintro b a w' ⟨ha, Q_HW⟩ hb_ hon hoff
          refine ⟨_, rfl, fun K hK => ?_⟩
          have e8 : a.tmps[8]? = some (.slice (some ad1) b1.length c1) := by rw [ha]; exact (putSel_off rfl).trans rfl
          have e61 : a.tmps[61]? = some (.bool true) := by rw [ha]; exact putSel_on (e := (26, 61, .bool true)) 26 rfl rfl (hon 26 (by kernel_rfl)) rfl
          replace ha := Aside0.mk ha
          have HW := Aside0.mk Q_HW
          refine value_ (w1 := w') (v := .slice (some ad1) b1.length c1) (wanted_on rfl rfl rfl (e61.trans (by first | rfl | (simp [*]; done)))) rfl ?_ ?_
          · go_simp
            (try simp only [i64_w])
            try rfl
          refine hK.out _ _ ⟨(by rw [ha.out]; exact putSel_upk 28 hb_ rfl rfl rfl), Q_HW⟩
        refine steps_cons ?_ ?_
        · rintro b a w' ⟨ha, Q_HW⟩ hb_ hon hoff
          refine ⟨_, rfl, fun K hK => ?_⟩
          have e63 : a.tmps[63]? = some (.slice (some ad1) b1.length c1) := by rw [ha]; exact putSel_on (e := (28, 63, .slice (some ad1) b1.length c1)) 28 rfl rfl (hon 28 (by kernel_rfl)) rfl
          have e61 : a.tmps[61]? = some (.bool true) := by rw [ha]; exact putSel_on (e := (26, 61, .bool true)) 26 rfl rfl (hon 26 (by kernel_rfl)) rfl
          replace ha := Aside0.mk ha
          have HW := Aside0.mk Q_HW
          refine value_ (w1 := w') (v := .int .i64 (b1.length : Int)) (wanted_on rfl rfl rfl (e61.trans (by first | rfl | (simp [*]; done)))) rfl ?_ ?_
          · go_simp
            (try simp only [i64_w])
            try rfl
          refine hK.out _ _ ⟨(by rw [ha.out]; exact putSel_upk 29 hb_ rfl rfl rfl), Q_HW⟩
        refine steps_cons ?_ ?_
        · rintro b a w' ⟨ha, Q_HW⟩ hb_ hon hoff
          refine ⟨_, rfl, fun K hK => ?_⟩
          have e62 : a.tmps[62]? = some (.slice A2 b2.length c2) := by rw [ha]; exact putSel_on (e := (27, 62, .slice A2 b2.length c2)) 27 rfl rfl (hon 27 (by kernel_rfl)) rfl
          have e64 : a.tmps[64]? = some (.int .i64 (b1.length : Int)) := by rw [ha]; exact putSel_on (e := (29, 64, .int .i64 (b1.length : Int))) 29 rfl rfl (hon 29 (by kernel_rfl)) rfl
          have e61 : a.tmps[61]? = some (.bool true) := by rw [ha]; exact putSel_on (e := (26, 61, .bool true)) 26 rfl rfl (hon 26 (by kernel_rfl)) rfl
          replace ha := Aside0.mk ha
          have HW := Aside0.mk Q_HW
          have hcut := HCUT.out
          refine value_ (w1 := w') (v := .slice A2 b1.length c2) (wanted_on rfl rfl rfl (e61.trans (by first | rfl | (simp [*]; done)))) rfl ?_ ?_
          · go_simp
            (try simp only [i64_w])
            try rfl
          refine hK.out _ _ ⟨(by rw [ha.out]; exact putSel_upk 30 hb_ rfl rfl rfl), Q_HW⟩
        refine steps_cons ?_ ?_
        · rintro b a w' ⟨ha, Q_HW⟩ hb_ hon hoff
          refine ⟨_, rfl, fun K hK => ?_⟩
          have e8 : a.tmps[8]? = some (.slice (some ad1) b1.length c1) := by rw [ha]; exact (putSel_off rfl).trans rfl
          have e61 : a.tmps[61]? = some (.bool true) := by rw [ha]; exact putSel_on (e := (26, 61, .bool true)) 26 rfl rfl (hon 26 (by kernel_rfl)) rfl
          replace ha := Aside0.mk ha
          have HW := Aside0.mk Q_HW
          refine value_ (w1 := w') (v := .slice (some ad1) b1.length c1) (wanted_on rfl rfl rfl (e61.trans (by first | rfl | (simp [*]; done)))) rfl ?_ ?_
          · go_simp
            (try simp only [i64_w])
            try rfl
          refine hK.out _ _ ⟨(by rw [ha.out]; exact putSel_upk 31 hb_ rfl rfl rfl), Q_HW⟩
        refine steps_cons ?_ ?_
        · rintro b a w' ⟨ha, Q_HW⟩ hb_ hon hoff
          refine ⟨_, rfl, fun K hK => ?_⟩
          have e65 : a.tmps[65]? = some (.slice A2 b1.length c2) := by rw [ha]; exact putSel_on (e := (30, 65, .slice A2 b1.length c2)) 30 rfl rfl (hon 30 (by kernel_rfl)) rfl
          have e66 : a.tmps[66]? = some (.slice (some ad1) b1.length c1) := by rw [ha]; exact putSel_on (e := (31, 66, .slice (some ad1) b1.length c1)) 31 rfl rfl (hon 31 (by kernel_rfl)) rfl
          have e61 : a.tmps[61]? = some (.bool true) := by rw [ha]; exact putSel_on (e := (26, 61, .bool true)) 26 rfl rfl (hon 26 (by kernel_rfl)) rfl
          replace ha := Aside0.mk ha
          have HW := Aside0.mk Q_HW
          refine goes_ Tryd.func22 (by kernel_rfl) rfl #[.slice A2 b1.length c2, .slice (some ad1) b1.length c1] (wanted_on rfl rfl rfl e61) rfl rfl (by simp only [List.map_toArray, List.map_cons, List.map_nil, Act.eval, Array.getD_eq_getD_getElem?, Option.getD_some, e65, e66]) ?_
          refine (HSAME.out w' HW.out).mono ?_
          rintro e w2 ⟨rfl, hB⟩
          refine ⟨_, rfl, ?_⟩
          refine hK.out _ _ ⟨(by rw [ha.out]; exact putSel_upk 32 hb_ rfl rfl rfl), below_step HW.out hB⟩
        refine steps_cons ?_ ?_
        · rintro b a w' ⟨ha, Q_HW⟩ hb_ hon hoff
          refine ⟨_, rfl, fun K hK => ?_⟩
          have e61 : a.tmps[61]? = some (.bool true) := by rw [ha]; exact putSel_on (e := (26, 61, .bool true)) 26 rfl rfl (hon 26 (by kernel_rfl)) rfl
          have e67 : a.tmps[67]? = some (.bool false) := by rw [ha]; exact putSel_on (e := (32, 67, .bool false)) 32 rfl rfl (hon 32 (by kernel_rfl)) rfl
          have e55 : a.tmps[55]? = some (.bool false) := by rw [ha]; exact putSel_on (e := (20, 55, .bool false)) 20 rfl rfl (hon 20 (by kernel_rfl)) rfl
          replace ha := Aside0.mk ha
          have HW := Aside0.mk Q_HW
          refine value_ (w1 := w') (v := .bool false) (wanted_on rfl rfl rfl (e55.trans (by first | rfl | (simp [*]; done)))) rfl ?_ ?_
          · go_simp
            (try simp only [i64_w])
            try rfl
          refine hK.out _ _ ⟨(by rw [ha.out]; exact putSel_upk 33 hb_ rfl rfl rfl), Q_HW⟩
        refine steps_cons ?_ ?_
        · rintro b a w' ⟨ha, Q_HW⟩ hb_ hon hoff
          refine ⟨_, rfl, fun K hK => ?_⟩
          have e55 : a.tmps[55]? = some (.bool false) := by rw [ha]; exact putSel_on (e := (20, 55, .bool false)) 20 rfl rfl (hon 20 (by kernel_rfl)) rfl
          have e68 : a.tmps[68]? = some (.bool false) := by rw [ha]; exact putSel_on (e := (33, 68, .bool false)) 33 rfl rfl (hon 33 (by kernel_rfl)) rfl
          replace ha := Aside0.mk ha
          have HW := Aside0.mk Q_HW
          refine value_ (w1 := w') (v := .bool false) (by rfl) rfl ?_ ?_
          · go_simp
            (try simp only [i64_w])
            try rfl
          refine hK.out _ _ ⟨(by rw [ha.out]; exact putSel_upk 34 hb_ rfl rfl rfl), Q_HW⟩
        exact steps_nil
      · rintro b a w' hall ⟨ha, Q_HW⟩
        clear HW
        have hb0_ := hall 0 (by kernel_rfl)
        have hb1_ := hall 1 (by kernel_rfl)
        have hb2_ := hall 2 (by kernel_rfl)
        have hb3_ := hall 3 (by kernel_rfl)
        have hb4_ := hall 4 (by kernel_rfl)
        have hb5_ := hall 5 (by kernel_rfl)
        have hb6_ := hall 6 (by kernel_rfl)
        have hb7_ := hall 7 (by kernel_rfl)
        have hb8_ := hall 8 (by kernel_rfl)
        have hb9_ := hall 9 (by kernel_rfl)
        have hb10_ := hall 10 (by kernel_rfl)
        have hb11_ := hall 11 (by kernel_rfl)
        have hb12_ := hall 12 (by kernel_rfl)
        have hb13_ := hall 13 (by kernel_rfl)
        have hb14_ := hall 14 (by kernel_rfl)
        have hb15_ := hall 15 (by kernel_rfl)
        have hb16_ := hall 16 (by kernel_rfl)
        have hb17_ := hall 17 (by kernel_rfl)
        have hb18_ := hall 18 (by kernel_rfl)
        have hb19_ := hall 19 (by kernel_rfl)
        have hb20_ := hall 20 (by kernel_rfl)
        have hb21_ := hall 21 (by kernel_rfl)
        have hb22_ := hall 22 (by kernel_rfl)
        have hb23_ := hall 23 (by kernel_rfl)
        have hb24_ := hall 24 (by kernel_rfl)
        have hb25_ := hall 25 (by kernel_rfl)
        have hb26_ := hall 26 (by kernel_rfl)
        have hb27_ := hall 27 (by kernel_rfl)
        have hb28_ := hall 28 (by kernel_rfl)
        have hb29_ := hall 29 (by kernel_rfl)
        have hb30_ := hall 30 (by kernel_rfl)
        have hb31_ := hall 31 (by kernel_rfl)
        have hb32_ := hall 32 (by kernel_rfl)
        have hb33_ := hall 33 (by kernel_rfl)
        have hb34_ := hall 34 (by kernel_rfl)
        subst ha
        simp only [putSel, hb0_, hb1_, hb2_, hb3_, hb4_, hb5_, hb6_, hb7_, hb8_, hb9_, hb10_, hb11_, hb12_, hb13_, hb14_, hb15_, hb16_, hb17_, hb18_, hb19_, hb20_, hb21_, hb22_, hb23_, hb24_, hb25_, hb26_, hb27_, hb28_, hb29_, hb30_, hb31_, hb32_, hb33_, hb34_, if_true, Act.put, List.setIfInBounds_toArray, List.set_cons_zero, List.set_cons_succ]
        have HW := Aside0.mk Q_HW
        clear Q_HW
        clear hall hb0_ hb1_ hb2_ hb3_ hb4_ hb5_ hb6_ hb7_ hb8_ hb9_ hb10_ hb11_ hb12_ hb13_ hb14_ hb15_ hb16_ hb17_ hb18_ hb19_ hb20_ hb21_ hb22_ hb23_ hb24_ hb25_ hb26_ hb27_ hb28_ hb29_ hb30_ hb31_ hb32_ hb33_ hb34_
        go_wp2
        go_meet
        case rel => exact ⟨rfl, HW⟩
    · have HLG : Hid (b2.length ≤ b1.length) := Lib.hid (by omega)
      clear hgt
      refine start_ (n := 35) (S := fun w' => True) (ds := []) #[false, false, false, false, false, false, false, false, false, false, false, false, false, false, false, false, false, false, false, false, false, false, false, false, false, false, false, false, false, false, false, false, false, false, false] (by kernel_rfl) rfl rfl trivial (fun hHeld => ?_)
      refine with_tabW wsfalseReg.tab4 wsfalseReg.bits4 (fun HT_ HW_ => ?_)
      refine inv_at [0, 1, 2, 3, 4, 5, 6, 7, 8, 9, 10, 11, 12, 13, 14, 15, 16, 17, 18, 19, 20, 21, 22, 23, 24, 25, 26, 27, 28, 29, 30, 31, 32, 33, 34] (fun a0_ b a w' => a = putSel a0_ b [(0, 35, .nilIface), (1, 36, .bool false), (2, 37, .bool false), (3, 38, .nilIface), (4, 39, .bool false), (5, 40, .bool false), (6, 41, .bool false), (7, 42, .slice (some ad1) b1.length c1), (8, 43, .int .i64 (b1.length : Int)), (9, 44, .bool false), (10, 45, .bool false), (11, 46, .bool false), (12, 47, .slice (some ad1) b1.length c1), (13, 48, .pointer (some ad1)), (14, 49, .int .u8 k), (15, 50, .int .i64 k), (16, 51, .pointer (some ⟨g7, 0, none⟩)), (17, 52, .int .i64 k), (18, 53, .bool false), (19, 54, .bool false), (20, 55, .bool false), (21, 56, .slice A2 b2.length c2), (22, 57, .int .i64 (b2.length : Int)), (23, 58, .slice (some ad1) b1.length c1), (24, 59, .int .i64 (b1.length : Int)), (25, 60, .bool false), (26, 61, .bool false), (27, 62, undef), (28, 63, undef), (29, 64, undef), (30, 65, undef), (31, 66, undef), (32, 67, undef), (33, 68, .bool false), (34, 69, .bool false)] ∧ (Below wd.heap.size wd w')) HT_.out HW_.out (by kernel_rfl) (by kernel_rfl) ?_ ?_ ?_
      · exact ⟨by simp only [putSel, Bool.false_eq_true, if_false], below_drew HW.out⟩
      · skip
        clear HW
        refine steps_cons ?_ ?_
        · rintro b a w' ⟨ha, Q_HW⟩ hb_ hon hoff
          refine ⟨_, rfl, fun K hK => ?_⟩
          have e9 : a.tmps[9]? = some (.nilIface) := by rw [ha]; exact (putSel_off rfl).trans rfl
          replace ha := Aside0.mk ha
          have HW := Aside0.mk Q_HW
          refine value_ (w1 := w') (v := .nilIface) (by rfl) rfl ?_ ?_
          · go_simp
            (try simp only [i64_w])
            try rfl
          refine hK.out _ _ ⟨(by rw [ha.out]; exact putSel_upk 0 hb_ rfl rfl rfl), Q_HW⟩
        refine steps_cons ?_ ?_
        · rintro b a w' ⟨ha, Q_HW⟩ hb_ hon hoff
          refine ⟨_, rfl, fun K hK => ?_⟩
          have e35 : a.tmps[35]? = some (.nilIface) := by rw [ha]; exact putSel_on (e := (0, 35, .nilIface)) 0 rfl rfl (hon 0 (by kernel_rfl)) rfl
          replace ha := Aside0.mk ha
          have HW := Aside0.mk Q_HW
          refine value_ (w1 := w') (v := .bool false) (by rfl) rfl ?_ ?_
          · go_simp
            (try simp only [i64_w])
            try rfl
          refine hK.out _ _ ⟨(by rw [ha.out]; exact putSel_upk 1 hb_ rfl rfl rfl), Q_HW⟩
        refine steps_cons ?_ ?_
        · rintro b a w' ⟨ha, Q_HW⟩ hb_ hon hoff
          refine ⟨_, rfl, fun K hK => ?_⟩
          have e36 : a.tmps[36]? = some (.bool false) := by rw [ha]; exact putSel_on (e := (1, 36, .bool false)) 1 rfl rfl (hon 1 (by kernel_rfl)) rfl
          replace ha := Aside0.mk ha
          have HW := Aside0.mk Q_HW
          refine value_ (w1 := w') (v := .bool false) (by rfl) rfl ?_ ?_
          · go_simp
            (try simp only [i64_w])
            try rfl
          refine hK.out _ _ ⟨(by rw [ha.out]; exact putSel_upk 2 hb_ rfl rfl rfl), Q_HW⟩
        refine steps_cons ?_ ?_
        · rintro b a w' ⟨ha, Q_HW⟩ hb_ hon hoff
          refine ⟨_, rfl, fun K hK => ?_⟩
          have e11 : a.tmps[11]? = some (.nilIface) := by rw [ha]; exact (putSel_off rfl).trans rfl
          have e37 : a.tmps[37]? = some (.bool false) := by rw [ha]; exact putSel_on (e := (2, 37, .bool false)) 2 rfl rfl (hon 2 (by kernel_rfl)) rfl
          replace ha := Aside0.mk ha
          have HW := Aside0.mk Q_HW
          refine value_ (w1 := w') (v := .nilIface) (wanted_on rfl rfl rfl (e37.trans (by first | rfl | (simp [*]; done)))) rfl ?_ ?_
          · go_simp
            (try simp only [i64_w])
            try rfl
          refine hK.out _ _ ⟨(by rw [ha.out]; exact putSel_upk 3 hb_ rfl rfl rfl), Q_HW⟩
        refine steps_cons ?_ ?_
        · rintro b a w' ⟨ha, Q_HW⟩ hb_ hon hoff
          refine ⟨_, rfl, fun K hK => ?_⟩
          have e38 : a.tmps[38]? = some (.nilIface) := by rw [ha]; exact putSel_on (e := (3, 38, .nilIface)) 3 rfl rfl (hon 3 (by kernel_rfl)) rfl
          have e37 : a.tmps[37]? = some (.bool false) := by rw [ha]; exact putSel_on (e := (2, 37, .bool false)) 2 rfl rfl (hon 2 (by kernel_rfl)) rfl
          replace ha := Aside0.mk ha
          have HW := Aside0.mk Q_HW
          refine value_ (w1 := w') (v := .bool false) (wanted_on rfl rfl rfl (e37.trans (by first | rfl | (simp [*]; done)))) rfl ?_ ?_
          · go_simp
            (try simp only [i64_w])
            try rfl
          refine hK.out _ _ ⟨(by rw [ha.out]; exact putSel_upk 4 hb_ rfl rfl rfl), Q_HW⟩
        refine steps_cons ?_ ?_
        · rintro b a w' ⟨ha, Q_HW⟩ hb_ hon hoff
          refine ⟨_, rfl, fun K hK => ?_⟩
          have e37 : a.tmps[37]? = some (.bool false) := by rw [ha]; exact putSel_on (e := (2, 37, .bool false)) 2 rfl rfl (hon 2 (by kernel_rfl)) rfl
          have e39 : a.tmps[39]? = some (.bool false) := by rw [ha]; exact putSel_on (e := (4, 39, .bool false)) 4 rfl rfl (hon 4 (by kernel_rfl)) rfl
          replace ha := Aside0.mk ha
          have HW := Aside0.mk Q_HW
          refine value_ (w1 := w') (v := .bool false) (by rfl) rfl ?_ ?_
          · go_simp
            (try simp only [i64_w])
            try rfl
          refine hK.out _ _ ⟨(by rw [ha.out]; exact putSel_upk 5 hb_ rfl rfl rfl), Q_HW⟩
        refine steps_cons ?_ ?_
        · rintro b a w' ⟨ha, Q_HW⟩ hb_ hon hoff
          refine ⟨_, rfl, fun K hK => ?_⟩
          have e40 : a.tmps[40]? = some (.bool false) := by rw [ha]; exact putSel_on (e := (5, 40, .bool false)) 5 rfl rfl (hon 5 (by kernel_rfl)) rfl
          replace ha := Aside0.mk ha
          have HW := Aside0.mk Q_HW
          refine value_ (w1 := w') (v := .bool false) (by rfl) rfl ?_ ?_
          · go_simp
            (try simp only [i64_w])
            try rfl
          refine hK.out _ _ ⟨(by rw [ha.out]; exact putSel_upk 6 hb_ rfl rfl rfl), Q_HW⟩
        refine steps_cons ?_ ?_
        · rintro b a w' ⟨ha, Q_HW⟩ hb_ hon hoff
          refine ⟨_, rfl, fun K hK => ?_⟩
          have e8 : a.tmps[8]? = some (.slice (some ad1) b1.length c1) := by rw [ha]; exact (putSel_off rfl).trans rfl
          have e41 : a.tmps[41]? = some (.bool false) := by rw [ha]; exact putSel_on (e := (6, 41, .bool false)) 6 rfl rfl (hon 6 (by kernel_rfl)) rfl
          replace ha := Aside0.mk ha
          have HW := Aside0.mk Q_HW
          refine value_ (w1 := w') (v := .slice (some ad1) b1.length c1) (wanted_on rfl rfl rfl (e41.trans (by first | rfl | (simp [*]; done)))) rfl ?_ ?_
          · go_simp
            (try simp only [i64_w])
            try rfl
          refine hK.out _ _ ⟨(by rw [ha.out]; exact putSel_upk 7 hb_ rfl rfl rfl), Q_HW⟩
        refine steps_cons ?_ ?_
        · rintro b a w' ⟨ha, Q_HW⟩ hb_ hon hoff
          refine ⟨_, rfl, fun K hK => ?_⟩
          have e42 : a.tmps[42]? = some (.slice (some ad1) b1.length c1) := by rw [ha]; exact putSel_on (e := (7, 42, .slice (some ad1) b1.length c1)) 7 rfl rfl (hon 7 (by kernel_rfl)) rfl
          have e41 : a.tmps[41]? = some (.bool false) := by rw [ha]; exact putSel_on (e := (6, 41, .bool false)) 6 rfl rfl (hon 6 (by kernel_rfl)) rfl
          replace ha := Aside0.mk ha
          have HW := Aside0.mk Q_HW
          refine value_ (w1 := w') (v := .int .i64 (b1.length : Int)) (wanted_on rfl rfl rfl (e41.trans (by first | rfl | (simp [*]; done)))) rfl ?_ ?_
          · go_simp
            (try simp only [i64_w])
            try rfl
          refine hK.out _ _ ⟨(by rw [ha.out]; exact putSel_upk 8 hb_ rfl rfl rfl), Q_HW⟩
        refine steps_cons ?_ ?_
        · rintro b a w' ⟨ha, Q_HW⟩ hb_ hon hoff
          refine ⟨_, rfl, fun K hK => ?_⟩
          have e43 : a.tmps[43]? = some (.int .i64 (b1.length : Int)) := by rw [ha]; exact putSel_on (e := (8, 43, .int .i64 (b1.length : Int))) 8 rfl rfl (hon 8 (by kernel_rfl)) rfl
          have e41 : a.tmps[41]? = some (.bool false) := by rw [ha]; exact putSel_on (e := (6, 41, .bool false)) 6 rfl rfl (hon 6 (by kernel_rfl)) rfl
          replace ha := Aside0.mk ha
          have HW := Aside0.mk Q_HW
          have h17 : (17 : Int) ≤ (b1.length : Int) := (by have := H17.out; omega)
          refine value_ (w1 := w') (v := .bool false) (wanted_on rfl rfl rfl (e41.trans (by first | rfl | (simp [*]; done)))) rfl ?_ ?_
          · go_simp
            (try simp only [i64_w])
            try rfl
          refine hK.out _ _ ⟨(by rw [ha.out]; exact putSel_upk 9 hb_ rfl rfl rfl), Q_HW⟩
        refine steps_cons ?_ ?_
        · rintro b a w' ⟨ha, Q_HW⟩ hb_ hon hoff
          refine ⟨_, rfl, fun K hK => ?_⟩
          have e41 : a.tmps[41]? = some (.bool false) := by rw [ha]; exact putSel_on (e := (6, 41, .bool false)) 6 rfl rfl (hon 6 (by kernel_rfl)) rfl
          have e44 : a.tmps[44]? = some (.bool false) := by rw [ha]; exact putSel_on (e := (9, 44, .bool false)) 9 rfl rfl (hon 9 (by kernel_rfl)) rfl
          replace ha := Aside0.mk ha
          have HW := Aside0.mk Q_HW
          refine value_ (w1 := w') (v := .bool false) (by rfl) rfl ?_ ?_
          · go_simp
            (try simp only [i64_w])
            try rfl
          refine hK.out _ _ ⟨(by rw [ha.out]; exact putSel_upk 10 hb_ rfl rfl rfl), Q_HW⟩
        refine steps_cons ?_ ?_
        · rintro b a w' ⟨ha, Q_HW⟩ hb_ hon hoff
          refine ⟨_, rfl, fun K hK => ?_⟩
          have e45 : a.tmps[45]? = some (.bool false) := by rw [ha]; exact putSel_on (e := (10, 45, .bool false)) 10 rfl rfl (hon 10 (by kernel_rfl)) rfl
          replace ha := Aside0.mk ha
          have HW := Aside0.mk Q_HW
          refine value_ (w1 := w') (v := .bool false) (by rfl) rfl ?_ ?_
          · go_simp
            (try simp only [i64_w])
            try rfl
          refine hK.out _ _ ⟨(by rw [ha.out]; exact putSel_upk 11 hb_ rfl rfl rfl), Q_HW⟩
        refine steps_cons ?_ ?_
        · rintro b a w' ⟨ha, Q_HW⟩ hb_ hon hoff
          refine ⟨_, rfl, fun K hK => ?_⟩
          have e8 : a.tmps[8]? = some (.slice (some ad1) b1.length c1) := by rw [ha]; exact (putSel_off rfl).trans rfl
          have e46 : a.tmps[46]? = some (.bool false) := by rw [ha]; exact putSel_on (e := (11, 46, .bool false)) 11 rfl rfl (hon 11 (by kernel_rfl)) rfl
          replace ha := Aside0.mk ha
          have HW := Aside0.mk Q_HW
          refine value_ (w1 := w') (v := .slice (some ad1) b1.length c1) (wanted_on rfl rfl rfl (e46.trans (by first | rfl | (simp [*]; done)))) rfl ?_ ?_
          · go_simp
            (try simp only [i64_w])
            try rfl
          refine hK.out _ _ ⟨(by rw [ha.out]; exact putSel_upk 12 hb_ rfl rfl rfl), Q_HW⟩
        refine steps_cons ?_ ?_
        · rintro b a w' ⟨ha, Q_HW⟩ hb_ hon hoff
          refine ⟨_, rfl, fun K hK => ?_⟩
          have e47 : a.tmps[47]? = some (.slice (some ad1) b1.length c1) := by rw [ha]; exact putSel_on (e := (12, 47, .slice (some ad1) b1.length c1)) 12 rfl rfl (hon 12 (by kernel_rfl)) rfl
          have e46 : a.tmps[46]? = some (.bool false) := by rw [ha]; exact putSel_on (e := (11, 46, .bool false)) 11 rfl rfl (hon 11 (by kernel_rfl)) rfl
          replace ha := Aside0.mk ha
          have HW := Aside0.mk Q_HW
          have h0 := H0.out
          refine value_ (w1 := w') (v := .pointer (some ad1)) (wanted_on rfl rfl rfl (e46.trans (by first | rfl | (simp [*]; done)))) rfl ?_ ?_
          · go_simp
            (try simp only [i64_w])
            try rfl
          refine hK.out _ _ ⟨(by rw [ha.out]; exact putSel_upk 13 hb_ rfl rfl rfl), Q_HW⟩
        refine steps_cons ?_ ?_
        · rintro b a w' ⟨ha, Q_HW⟩ hb_ hon hoff
          refine ⟨_, rfl, fun K hK => ?_⟩
          have e48 : a.tmps[48]? = some (.pointer (some ad1)) := by rw [ha]; exact putSel_on (e := (13, 48, .pointer (some ad1))) 13 rfl rfl (hon 13 (by kernel_rfl)) rfl
          have e46 : a.tmps[46]? = some (.bool false) := by rw [ha]; exact putSel_on (e := (11, 46, .bool false)) 11 rfl rfl (hon 11 (by kernel_rfl)) rfl
          replace ha := Aside0.mk ha
          have HW := Aside0.mk Q_HW
          have q0 := cells_at HW.out HQ0.out
          refine value_ (w1 := w') (v := .int .u8 k) (wanted_on rfl rfl rfl (e46.trans (by first | rfl | (simp [*]; done)))) rfl ?_ ?_
          · go_simp
            (try simp only [i64_w])
            try rfl
          refine hK.out _ _ ⟨(by rw [ha.out]; exact putSel_upk 14 hb_ rfl rfl rfl), Q_HW⟩
        refine steps_cons ?_ ?_
        · rintro b a w' ⟨ha, Q_HW⟩ hb_ hon hoff
          refine ⟨_, rfl, fun K hK => ?_⟩
          have e49 : a.tmps[49]? = some (.int .u8 k) := by rw [ha]; exact putSel_on (e := (14, 49, .int .u8 k)) 14 rfl rfl (hon 14 (by kernel_rfl)) rfl
          have e46 : a.tmps[46]? = some (.bool false) := by rw [ha]; exact putSel_on (e := (11, 46, .bool false)) 11 rfl rfl (hon 11 (by kernel_rfl)) rfl
          replace ha := Aside0.mk ha
          have HW := Aside0.mk Q_HW
          have hk := HKW.out
          refine value_ (w1 := w') (v := .int .i64 k) (wanted_on rfl rfl rfl (e46.trans (by first | rfl | (simp [*]; done)))) rfl ?_ ?_
          · go_simp
            (try simp only [i64_w])
            try rfl
          refine hK.out _ _ ⟨(by rw [ha.out]; exact putSel_upk 15 hb_ rfl rfl rfl), Q_HW⟩
        refine steps_cons ?_ ?_
        · rintro b a w' ⟨ha, Q_HW⟩ hb_ hon hoff
          refine ⟨_, rfl, fun K hK => ?_⟩
          have e7 : a.tmps[7]? = some (.pointer (some ⟨g7, 0, none⟩)) := by rw [ha]; exact (putSel_off rfl).trans rfl
          have e46 : a.tmps[46]? = some (.bool false) := by rw [ha]; exact putSel_on (e := (11, 46, .bool false)) 11 rfl rfl (hon 11 (by kernel_rfl)) rfl
          replace ha := Aside0.mk ha
          have HW := Aside0.mk Q_HW
          refine value_ (w1 := w') (v := .pointer (some ⟨g7, 0, none⟩)) (wanted_on rfl rfl rfl (e46.trans (by first | rfl | (simp [*]; done)))) rfl ?_ ?_
          · go_simp
            (try simp only [i64_w])
            try rfl
          refine hK.out _ _ ⟨(by rw [ha.out]; exact putSel_upk 16 hb_ rfl rfl rfl), Q_HW⟩
        refine steps_cons ?_ ?_
        · rintro b a w' ⟨ha, Q_HW⟩ hb_ hon hoff
          refine ⟨_, rfl, fun K hK => ?_⟩
          have e51 : a.tmps[51]? = some (.pointer (some ⟨g7, 0, none⟩)) := by rw [ha]; exact putSel_on (e := (16, 51, .pointer (some ⟨g7, 0, none⟩))) 16 rfl rfl (hon 16 (by kernel_rfl)) rfl
          have e46 : a.tmps[46]? = some (.bool false) := by rw [ha]; exact putSel_on (e := (11, 46, .bool false)) 11 rfl rfl (hon 11 (by kernel_rfl)) rfl
          replace ha := Aside0.mk ha
          have HW := Aside0.mk Q_HW
          have q0 := (cells_at HW.out (blk_cell HM.out 0)).trans (rfl : _ = some (Value.int .i64 k))
          refine value_ (w1 := w') (v := .int .i64 k) (wanted_on rfl rfl rfl (e46.trans (by first | rfl | (simp [*]; done)))) rfl ?_ ?_
          · go_simp
            (try simp only [i64_w])
            try rfl
          refine hK.out _ _ ⟨(by rw [ha.out]; exact putSel_upk 17 hb_ rfl rfl rfl), Q_HW⟩
        refine steps_cons ?_ ?_
        · rintro b a w' ⟨ha, Q_HW⟩ hb_ hon hoff
          refine ⟨_, rfl, fun K hK => ?_⟩
          have e50 : a.tmps[50]? = some (.int .i64 k) := by rw [ha]; exact putSel_on (e := (15, 50, .int .i64 k)) 15 rfl rfl (hon 15 (by kernel_rfl)) rfl
          have e52 : a.tmps[52]? = some (.int .i64 k) := by rw [ha]; exact putSel_on (e := (17, 52, .int .i64 k)) 17 rfl rfl (hon 17 (by kernel_rfl)) rfl
          have e46 : a.tmps[46]? = some (.bool false) := by rw [ha]; exact putSel_on (e := (11, 46, .bool false)) 11 rfl rfl (hon 11 (by kernel_rfl)) rfl
          replace ha := Aside0.mk ha
          have HW := Aside0.mk Q_HW
          refine value_ (w1 := w') (v := .bool false) (wanted_on rfl rfl rfl (e46.trans (by first | rfl | (simp [*]; done)))) rfl ?_ ?_
          · go_simp
            (try simp only [i64_w])
            try rfl
          refine hK.out _ _ ⟨(by rw [ha.out]; exact putSel_upk 18 hb_ rfl rfl rfl), Q_HW⟩
        refine steps_cons ?_ ?_
        · rintro b a w' ⟨ha, Q_HW⟩ hb_ hon hoff
          refine ⟨_, rfl, fun K hK => ?_⟩
          have e46 : a.tmps[46]? = some (.bool false) := by rw [ha]; exact putSel_on (e := (11, 46, .bool false)) 11 rfl rfl (hon 11 (by kernel_rfl)) rfl
          have e53 : a.tmps[53]? = some (.bool false) := by rw [ha]; exact putSel_on (e := (18, 53, .bool false)) 18 rfl rfl (hon 18 (by kernel_rfl)) rfl
          replace ha := Aside0.mk ha
          have HW := Aside0.mk Q_HW
          refine value_ (w1 := w') (v := .bool false) (by rfl) rfl ?_ ?_
          · go_simp
            (try simp only [i64_w])
            try rfl
          refine hK.out _ _ ⟨(by rw [ha.out]; exact putSel_upk 19 hb_ rfl rfl rfl), Q_HW⟩
        refine steps_cons ?_ ?_
        · rintro b a w' ⟨ha, Q_HW⟩ hb_ hon hoff
          refine ⟨_, rfl, fun K hK => ?_⟩
          have e54 : a.tmps[54]? = some (.bool false) := by rw [ha]; exact putSel_on (e := (19, 54, .bool false)) 19 rfl rfl (hon 19 (by kernel_rfl)) rfl
          replace ha := Aside0.mk ha
          have HW := Aside0.mk Q_HW
          refine value_ (w1 := w') (v := .bool false) (by rfl) rfl ?_ ?_
          · go_simp
            (try simp only [i64_w])
            try rfl
          refine hK.out _ _ ⟨(by rw [ha.out]; exact putSel_upk 20 hb_ rfl rfl rfl), Q_HW⟩
        refine steps_cons ?_ ?_
        · rintro b a w' ⟨ha, Q_HW⟩ hb_ hon hoff
          refine ⟨_, rfl, fun K hK => ?_⟩
          have e10 : a.tmps[10]? = some (.slice A2 b2.length c2) := by rw [ha]; exact (putSel_off rfl).trans rfl
          have e55 : a.tmps[55]? = some (.bool false) := by rw [ha]; exact putSel_on (e := (20, 55, .bool false)) 20 rfl rfl (hon 20 (by kernel_rfl)) rfl
          replace ha := Aside0.mk ha
          have HW := Aside0.mk Q_HW
          refine value_ (w1 := w') (v := .slice A2 b2.length c2) (wanted_on rfl rfl rfl (e55.trans (by first | rfl | (simp [*]; done)))) rfl ?_ ?_
          · go_simp
            (try simp only [i64_w])
            try rfl
          refine hK.out _ _ ⟨(by rw [ha.out]; exact putSel_upk 21 hb_ rfl rfl rfl), Q_HW⟩
        refine steps_cons ?_ ?_
        · rintro b a w' ⟨ha, Q_HW⟩ hb_ hon hoff
          refine ⟨_, rfl, fun K hK => ?_⟩
          have e56 : a.tmps[56]? = some (.slice A2 b2.length c2) := by rw [ha]; exact putSel_on (e := (21, 56, .slice A2 b2.length c2)) 21 rfl rfl (hon 21 (by kernel_rfl)) rfl
          have e55 : a.tmps[55]? = some (.bool false) := by rw [ha]; exact putSel_on (e := (20, 55, .bool false)) 20 rfl rfl (hon 20 (by kernel_rfl)) rfl
          replace ha := Aside0.mk ha
          have HW := Aside0.mk Q_HW
          refine value_ (w1 := w') (v := .int .i64 (b2.length : Int)) (wanted_on rfl rfl rfl (e55.trans (by first | rfl | (simp [*]; done)))) rfl ?_ ?_
          · go_simp
            (try simp only [i64_w])
            try rfl
          refine hK.out _ _ ⟨(by rw [ha.out]; exact putSel_upk 22 hb_ rfl rfl rfl), Q_HW⟩
        refine steps_cons ?_ ?_
        · rintro b a w' ⟨ha, Q_HW⟩ hb_ hon hoff
          refine ⟨_, rfl, fun K hK => ?_⟩
          have e8 : a.tmps[8]? = some (.slice (some ad1) b1.length c1) := by rw [ha]; exact (putSel_off rfl).trans rfl
          have e55 : a.tmps[55]? = some (.bool false) := by rw [ha]; exact putSel_on (e := (20, 55, .bool false)) 20 rfl rfl (hon 20 (by kernel_rfl)) rfl
          replace ha := Aside0.mk ha
          have HW := Aside0.mk Q_HW
          refine value_ (w1 := w') (v := .slice (some ad1) b1.length c1) (wanted_on rfl rfl rfl (e55.trans (by first | rfl | (simp [*]; done)))) rfl ?_ ?_
          · go_simp
            (try simp only [i64_w])
            try rfl
          refine hK.out _ _ ⟨(by rw [ha.out]; exact putSel_upk 23 hb_ rfl rfl rfl), Q_HW⟩
        refine steps_cons ?_ ?_
        · rintro b a w' ⟨ha, Q_HW⟩ hb_ hon hoff
          refine ⟨_, rfl, fun K hK => ?_⟩
          have e58 : a.tmps[58]? = some (.slice (some ad1) b1.length c1) := by rw [ha]; exact putSel_on (e := (23, 58, .slice (some ad1) b1.length c1)) 23 rfl rfl (hon 23 (by kernel_rfl)) rfl
          have e55 : a.tmps[55]? = some (.bool false) := by rw [ha]; exact putSel_on (e := (20, 55, .bool false)) 20 rfl rfl (hon 20 (by kernel_rfl)) rfl
          replace ha := Aside0.mk ha
          have HW := Aside0.mk Q_HW
          refine value_ (w1 := w') (v := .int .i64 (b1.length : Int)) (wanted_on rfl rfl rfl (e55.trans (by first | rfl | (simp [*]; done)))) rfl ?_ ?_
          · go_simp
            (try simp only [i64_w])
            try rfl
          refine hK.out _ _ ⟨(by rw [ha.out]; exact putSel_upk 24 hb_ rfl rfl rfl), Q_HW⟩
        refine steps_cons ?_ ?_
        · rintro b a w' ⟨ha, Q_HW⟩ hb_ hon hoff
          refine ⟨_, rfl, fun K hK => ?_⟩
          have e57 : a.tmps[57]? = some (.int .i64 (b2.length : Int)) := by rw [ha]; exact putSel_on (e := (22, 57, .int .i64 (b2.length : Int))) 22 rfl rfl (hon 22 (by kernel_rfl)) rfl
          have e59 : a.tmps[59]? = some (.int .i64 (b1.length : Int)) := by rw [ha]; exact putSel_on (e := (24, 59, .int .i64 (b1.length : Int))) 24 rfl rfl (hon 24 (by kernel_rfl)) rfl
          have e55 : a.tmps[55]? = some (.bool false) := by rw [ha]; exact putSel_on (e := (20, 55, .bool false)) 20 rfl rfl (hon 20 (by kernel_rfl)) rfl
          replace ha := Aside0.mk ha
          have HW := Aside0.mk Q_HW
          have hlg := HLG.out
          refine value_ (w1 := w') (v := .bool false) (wanted_on rfl rfl rfl (e55.trans (by first | rfl | (simp [*]; done)))) rfl ?_ ?_
          · go_simp
            (try simp only [i64_w])
            try rfl
          refine hK.out _ _ ⟨(by rw [ha.out]; exact putSel_upk 25 hb_ rfl rfl rfl), Q_HW⟩
        refine steps_cons ?_ ?_
        · rintro b a w' ⟨ha, Q_HW⟩ hb_ hon hoff
          refine ⟨_, rfl, fun K hK => ?_⟩
          have e60 : a.tmps[60]? = some (.bool false) := by rw [ha]; exact putSel_on (e := (25, 60, .bool false)) 25 rfl rfl (hon 25 (by kernel_rfl)) rfl
          have e55 : a.tmps[55]? = some (.bool false) := by rw [ha]; exact putSel_on (e := (20, 55, .bool false)) 20 rfl rfl (hon 20 (by kernel_rfl)) rfl
          replace ha := Aside0.mk ha
          have HW := Aside0.mk Q_HW
          refine value_ (w1 := w') (v := .bool false) (wanted_on rfl rfl rfl (e55.trans (by first | rfl | (simp [*]; done)))) rfl ?_ ?_
          · go_simp
            (try simp only [i64_w])
            try rfl
          refine hK.out _ _ ⟨(by rw [ha.out]; exact putSel_upk 26 hb_ rfl rfl rfl), Q_HW⟩
        refine steps_cons ?_ ?_
        · rintro b a w' ⟨ha, Q_HW⟩ hb_ hon hoff
          refine ⟨_, rfl, fun K hK => ?_⟩
          have e61 : a.tmps[61]? = some (.bool false) := by rw [ha]; exact putSel_on (e := (26, 61, .bool false)) 26 rfl rfl (hon 26 (by kernel_rfl)) rfl
          replace ha := Aside0.mk ha
          have HW := Aside0.mk Q_HW
          refine off_ (wanted_off rfl rfl rfl (e61.trans (by first | rfl | (simp [*]; done)))) ?_
          refine hK.out _ _ ⟨(by rw [ha.out]; exact putSel_upk 27 hb_ rfl rfl rfl), Q_HW⟩
        refine steps_cons ?_ ?_
        · rintro b a w' ⟨ha, Q_HW⟩ hb_ hon hoff
          refine ⟨_, rfl, fun K hK => ?_⟩
          have e61 : a.tmps[61]? = some (.bool false) := by rw [ha]; exact putSel_on (e := (26, 61, .bool false)) 26 rfl rfl (hon 26 (by kernel_rfl)) rfl
          replace ha := Aside0.mk ha
          have HW := Aside0.mk Q_HW
          refine off_ (wanted_off rfl rfl rfl (e61.trans (by first | rfl | (simp [*]; done)))) ?_
          refine hK.out _ _ ⟨(by rw [ha.out]; exact putSel_upk 28 hb_ rfl rfl rfl), Q_HW⟩
        refine steps_cons ?_ ?_
        · rintro b a w' ⟨ha, Q_HW⟩ hb_ hon hoff
          refine ⟨_, rfl, fun K hK => ?_⟩
          have e61 : a.tmps[61]? = some (.bool false) := by rw [ha]; exact putSel_on (e := (26, 61, .bool false)) 26 rfl rfl (hon 26 (by kernel_rfl)) rfl
          replace ha := Aside0.mk ha
          have HW := Aside0.mk Q_HW
          refine off_ (wanted_off rfl rfl rfl (e61.trans (by first | rfl | (simp [*]; done)))) ?_
          refine hK.out _ _ ⟨(by rw [ha.out]; exact putSel_upk 29 hb_ rfl rfl rfl), Q_HW⟩
        refine steps_cons ?_ ?_
        · rintro b a w' ⟨ha, Q_HW⟩ hb_ hon hoff
          refine ⟨_, rfl, fun K hK => ?_⟩
          have e61 : a.tmps[61]? = some (.bool false) := by rw [ha]; exact putSel_on (e := (26, 61, .bool false)) 26 rfl rfl (hon 26 (by kernel_rfl)) rfl
          replace ha := Aside0.mk ha
          have HW := Aside0.mk Q_HW
          refine off_ (wanted_off rfl rfl rfl (e61.trans (by first | rfl | (simp [*]; done)))) ?_
          refine hK.out _ _ ⟨(by rw [ha.out]; exact putSel_upk 30 hb_ rfl rfl rfl), Q_HW⟩
        refine steps_cons ?_ ?_
        · rintro b a w' ⟨ha, Q_HW⟩ hb_ hon hoff
          refine ⟨_, rfl, fun K hK => ?_⟩
          have e61 : a.tmps[61]? = some (.bool false) := by rw [ha]; exact putSel_on (e := (26, 61, .bool false)) 26 rfl rfl (hon 26 (by kernel_rfl)) rfl
          replace ha := Aside0.mk ha
          have HW := Aside0.mk Q_HW
          refine off_ (wanted_off rfl rfl rfl (e61.trans (by first | rfl | (simp [*]; done)))) ?_
          refine hK.out _ _ ⟨(by rw [ha.out]; exact putSel_upk 31 hb_ rfl rfl rfl), Q_HW⟩
        refine steps_cons ?_ ?_
        · rintro b a w' ⟨ha, Q_HW⟩ hb_ hon hoff
          refine ⟨_, rfl, fun K hK => ?_⟩
          have e61 : a.tmps[61]? = some (.bool false) := by rw [ha]; exact putSel_on (e := (26, 61, .bool false)) 26 rfl rfl (hon 26 (by kernel_rfl)) rfl
          replace ha := Aside0.mk ha
          have HW := Aside0.mk Q_HW
          refine off_ (wanted_off rfl rfl rfl (e61.trans (by first | rfl | (simp [*]; done)))) ?_
          refine hK.out _ _ ⟨(by rw [ha.out]; exact putSel_upk 32 hb_ rfl rfl rfl), Q_HW⟩
        refine steps_cons ?_ ?_
        · rintro b a w' ⟨ha, Q_HW⟩ hb_ hon hoff
          refine ⟨_, rfl, fun K hK => ?_⟩
          have e61 : a.tmps[61]? = some (.bool false) := by rw [ha]; exact putSel_on (e := (26, 61, .bool false)) 26 rfl rfl (hon 26 (by kernel_rfl)) rfl
          have e67 : a.tmps[67]? = some (undef) := by rw [ha]; exact putSel_on (e := (32, 67, undef)) 32 rfl rfl (hon 32 (by kernel_rfl)) rfl
          have e55 : a.tmps[55]? = some (.bool false) := by rw [ha]; exact putSel_on (e := (20, 55, .bool false)) 20 rfl rfl (hon 20 (by kernel_rfl)) rfl
          replace ha := Aside0.mk ha
          have HW := Aside0.mk Q_HW
          refine value_ (w1 := w') (v := .bool false) (wanted_on rfl rfl rfl (e55.trans (by first | rfl | (simp [*]; done)))) rfl ?_ ?_
          · go_simp
            (try simp only [i64_w])
            try rfl
          refine hK.out _ _ ⟨(by rw [ha.out]; exact putSel_upk 33 hb_ rfl rfl rfl), Q_HW⟩
        refine steps_cons ?_ ?_
        · rintro b a w' ⟨ha, Q_HW⟩ hb_ hon hoff
          refine ⟨_, rfl, fun K hK => ?_⟩
          have e55 : a.tmps[55]? = some (.bool false) := by rw [ha]; exact putSel_on (e := (20, 55, .bool false)) 20 rfl rfl (hon 20 (by kernel_rfl)) rfl
          have e68 : a.tmps[68]? = some (.bool false) := by rw [ha]; exact putSel_on (e := (33, 68, .bool false)) 33 rfl rfl (hon 33 (by kernel_rfl)) rfl
          replace ha := Aside0.mk ha
          have HW := Aside0.mk Q_HW
          refine value_ (w1 := w') (v := .bool false) (by rfl) rfl ?_ ?_
          · go_simp
            (try simp only [i64_w])
            try rfl
          refine hK.out _ _ ⟨(by rw [ha.out]; exact putSel_upk 34 hb_ rfl rfl rfl), Q_HW⟩
        exact steps_nil
      · rintro b a w' hall ⟨ha, Q_HW⟩
        clear HW
        have hb0_ := hall 0 (by kernel_rfl)
        have hb1_ := hall 1 (by kernel_rfl)
        have hb2_ := hall 2 (by kernel_rfl)
        have hb3_ := hall 3 (by kernel_rfl)
        have hb4_ := hall 4 (by kernel_rfl)
        have hb5_ := hall 5 (by kernel_rfl)
        have hb6_ := hall 6 (by kernel_rfl)
        have hb7_ := hall 7 (by kernel_rfl)
        have hb8_ := hall 8 (by kernel_rfl)
        have hb9_ := hall 9 (by kernel_rfl)
        have hb10_ := hall 10 (by kernel_rfl)
        have hb11_ := hall 11 (by kernel_rfl)
        have hb12_ := hall 12 (by kernel_rfl)
        have hb13_ := hall 13 (by kernel_rfl)
        have hb14_ := hall 14 (by kernel_rfl)
        have hb15_ := hall 15 (by kernel_rfl)
        have hb16_ := hall 16 (by kernel_rfl)
        have hb17_ := hall 17 (by kernel_rfl)
        have hb18_ := hall 18 (by kernel_rfl)
        have hb19_ := hall 19 (by kernel_rfl)
        have hb20_ := hall 20 (by kernel_rfl)
        have hb21_ := hall 21 (by kernel_rfl)
        have hb22_ := hall 22 (by kernel_rfl)
        have hb23_ := hall 23 (by kernel_rfl)
        have hb24_ := hall 24 (by kernel_rfl)
        have hb25_ := hall 25 (by kernel_rfl)
        have hb26_ := hall 26 (by kernel_rfl)
        have hb27_ := hall 27 (by kernel_rfl)
        have hb28_ := hall 28 (by kernel_rfl)
        have hb29_ := hall 29 (by kernel_rfl)
        have hb30_ := hall 30 (by kernel_rfl)
        have hb31_ := hall 31 (by kernel_rfl)
        have hb32_ := hall 32 (by kernel_rfl)
        have hb33_ := hall 33 (by kernel_rfl)
        have hb34_ := hall 34 (by kernel_rfl)
        subst ha
        simp only [putSel, hb0_, hb1_, hb2_, hb3_, hb4_, hb5_, hb6_, hb7_, hb8_, hb9_, hb10_, hb11_, hb12_, hb13_, hb14_, hb15_, hb16_, hb17_, hb18_, hb19_, hb20_, hb21_, hb22_, hb23_, hb24_, hb25_, hb26_, hb27_, hb28_, hb29_, hb30_, hb31_, hb32_, hb33_, hb34_, if_true, Act.put, List.setIfInBounds_toArray, List.set_cons_zero, List.set_cons_succ]
        have HW := Aside0.mk Q_HW
        clear Q_HW
        clear hall hb0_ hb1_ hb2_ hb3_ hb4_ hb5_ hb6_ hb7_ hb8_ hb9_ hb10_ hb11_ hb12_ hb13_ hb14_ hb15_ hb16_ hb17_ hb18_ hb19_ hb20_ hb21_ hb22_ hb23_ hb24_ hb25_ hb26_ hb27_ hb28_ hb29_ hb30_ hb31_ hb32_ hb33_ hb34_
        go_wp2
        go_meet
        case rel => exact ⟨rfl, HW⟩
  case rest =>
    obtain ⟨rfl, HW1⟩ := hcut
    have HB := Aside0.mk (below_step HW0.out HW1.out)
    clear HW HW0 HW1 HM HC1 HC2 HQ0 H0 HKW H17 HLB HHD HE1 HE2 HWF1 HWF2 HR1 HR2 HS hc1 hc2
    obtain ⟨r0, er, r00, r01⟩ : ∃ r, within n 0 31 = r ∧ 0 ≤ r ∧ r ≤ 31 := ⟨_, rfl, (within_bd n 0 31 (by omega)).1, (within_bd n 0 31 (by omega)).2⟩
    have HER := Lib.hid er
    have HR0 : Hid (0 ≤ r0 ∧ r0 ≤ 31) := Lib.hid ⟨r00, r01⟩
    clear er r00 r01
    have HG12 := Aside0.mk (blk_alloc (blk_new wc (.cells #[.int .i64 3, .int .i64 31, .int .i64 9223372036854775807, .int .i64 r0, .int .i64 0, .slice none 0 0, .slice none 0 0] 50)) (.cells #[.int .i64 5, .int .i64 31, .int .i64 9223372036854775807, .int .i64 0, .int .i64 0, .slice none 0 0, .slice none 0 0] 50))
    have hg13 := blk_new (wc.alloc (.cells #[.int .i64 3, .int .i64 31, .int .i64 9223372036854775807, .int .i64 r0, .int .i64 0, .slice none 0 0, .slice none 0 0] 50)) (.cells #[.int .i64 5, .int .i64 31, .int .i64 9223372036854775807, .int .i64 0, .int .i64 0, .slice none 0 0, .slice none 0 0] 50)
    rw [show (wc.alloc (.cells #[.int .i64 3, .int .i64 31, .int .i64 9223372036854775807, .int .i64 r0, .int .i64 0, .slice none 0 0, .slice none 0 0] 50)).heap.size = wc.heap.size + 1 by simp] at hg13
    have HG13 := Aside0.mk hg13
    clear hg13
    have HWl := Aside0.mk (below_alloc (below_alloc (Below.refl wc.heap.size wc) (.cells #[.int .i64 3, .int .i64 31, .int .i64 9223372036854775807, .int .i64 r0, .int .i64 0, .slice none 0 0, .slice none 0 0] 50)) (.cells #[.int .i64 5, .int .i64 31, .int .i64 9223372036854775807, .int .i64 0, .int .i64 0, .slice none 0 0, .slice none 0 0] 50))
    go_upto_block 0 with (go_at_call 24; refine (within_calls n 0 31 _ (by omega) (by omega) (by omega)).mono ?_; rintro e w5 ⟨he, rfl⟩; rw [HER.out] at he; subst he)
    generalize ((wc.alloc (.cells #[.int .i64 3, .int .i64 31, .int .i64 9223372036854775807, .int .i64 r0, .int .i64 0, .slice none 0 0, .slice none 0 0] 50)).alloc (.cells #[.int .i64 5, .int .i64 31, .int .i64 9223372036854775807, .int .i64 0, .int .i64 0, .slice none 0 0, .slice none 0 0] 50)) = wL at *
    go_cut [15] (fun _ wx => ∃ (aP : Option Addr) (cP : Nat) (aA : Option Addr) (cA : Nat), Aside0 (wx.heap[wc.heap.size]? = some (.cells #[.int .i64 3, .int .i64 31, .int .i64 9223372036854775807, .int .i64 r0, .int .i64 0, .slice aP (bigP 5).length cP, .slice none 0 0] 50 (0, 0))) ∧ Aside0 (wx.heap[wc.heap.size + 1]? = some (.cells #[.int .i64 5, .int .i64 31, .int .i64 9223372036854775807, .int .i64 0, .int .i64 0, .slice none 0 0, .slice aA (pubA 5).length cA] 50 (0, 0))) ∧ Aside0 (Kd.R kCo 44 wx wc.heap.size (fun _ => True) (.slice aP (bigP 5).length cP) (bigP 5)) ∧ Aside0 (Kd.R kAt 59 wx wc.heap.size (fun _ => True) (.slice aA (pubA 5).length cA) (pubA 5)) ∧ Aside0 (Below wc.heap.size wc wx))
    case first =>
      go_wp2_with fail
      go_loopw [78] (fun i wr => ∃ (kk : Nat) (pl : List Co) (al : List At) (aP : Option Addr) (cP : Nat) (aA : Option Addr) (cA : Nat), kk ≤ 5 ∧ i = .int .i64 (kk : Int) ∧ Hid (pl = bigP kk ∧ al = pubA kk) ∧ Aside0 (wr.heap[wc.heap.size]? = some (.cells #[.int .i64 3, .int .i64 31, .int .i64 9223372036854775807, .int .i64 r0, .int .i64 0, .slice aP pl.length cP, .slice none 0 0] 50 (0, 0))) ∧ Aside0 (wr.heap[wc.heap.size + 1]? = some (.cells #[.int .i64 5, .int .i64 31, .int .i64 9223372036854775807, .int .i64 0, .int .i64 0, .slice none 0 0, .slice aA al.length cA] 50 (0, 0))) ∧ Aside0 (Kd.R kCo 44 wr wc.heap.size (fun _ => True) (.slice aP pl.length cP) pl) ∧ Aside0 (Kd.R kAt 59 wr wc.heap.size (fun _ => True) (.slice aA al.length cA) al) ∧ Aside0 (Below wc.heap.size wc wr)) (fun i _ => 5 - (intOf i).toNat)
      case atStart => exact ⟨0, [], [], none, 0, none, 0, by omega, rfl, Lib.hid ⟨rfl, rfl⟩, HG12, HG13, ⟨Kd.R_nil _ _ _ _ _⟩, ⟨Kd.R_nil _ _ _ _ _⟩, HWl⟩
      case round =>
        obtain ⟨kk, pl, al, aP, cP, aA, cA, hk5, rfl, HPL, HGa, HGb, HPp, HAa, HWr⟩ := hrel
        by_cases hk : kk = 5
        · subst hk
          obtain ⟨rfl, rfl⟩ := HPL.out
          go_wp2
          go_meet
          case rel => exact ⟨aP, cP, aA, cA, HGa, HGb, HPp, HAa, HWr⟩
        · have hlt : kk < 5 := by omega
          have hlb : decide ((kk : Int) < 5) = true := decide_eq_true (by omega)
          clear hk
          have hw1 : IntKind.i64.wrap (97 + (kk : Int)) = 97 + (kk : Int) := Go.IntWalk.i64_in _ (by omega)
          have hw2 : (97 + (kk : Int)) % 256 = 97 + (kk : Int) := by omega
          have hcl : Kd.C (Kd.int .u8) (wr.alloc (.cells #[.int .u8 (97 + (kk : Int))] 5)) (some ⟨wr.heap.size, 0, none⟩) ([97 + (kk : Int)] : List Int).length [97 + (kk : Int)] := C_lit .u8 [97 + (kk : Int)] wr 5 (by simp)
          have hcv := Kd.C_string (P := Tryd.prog) (src := 22) (dst := 9) (c := 1) Tryd.underlying22 Tryd.underlying5 Tryd.underlying9 hcl
          rw [List.length_singleton] at hcv
          have HGa1 := Aside0.mk (blk_alloc HGa.out (.cells #[.int .u8 (97 + (kk : Int))] 5))
          have HGb1 := Aside0.mk (blk_alloc HGb.out (.cells #[.int .u8 (97 + (kk : Int))] 5))
          have HPq := Aside0.mk (Kd.R_alloc HPp.out (.cells #[.int .u8 (97 + (kk : Int))] 5))
          have HAq := Aside0.mk (Kd.R_alloc HAa.out (.cells #[.int .u8 (97 + (kk : Int))] 5))
          have HWq := Aside0.mk (below_alloc HWr.out (.cells #[.int .u8 (97 + (kk : Int))] 5))
          go_upto_region 12 with fail
          clear hcv hcl hw1 hw2 HGa HGb HPp HAa HWr
          obtain ⟨nm, hnm⟩ : ∃ s, (⟨#[97, 97, 97, 97, 97, 97, 97, 97, 97, 97, 97]⟩ : ByteArray) ++ strOfNums [97 + (kk : Int)] = s := ⟨_, rfl⟩
          have HNM : Hid (nmS kk = nm) := Lib.hid hnm
          rw [hnm]
          clear hnm
          generalize wr.alloc (.cells #[.int .u8 (97 + (kk : Int))] 5) = wq at *
          have hpl : pl.length ≤ 5 := by rw [HPL.out.1]; simp [bigP]; omega
          have hal : al.length ≤ 5 := by rw [HPL.out.2]; simp [pubA]; omega
          have q5 := (blk_cell HGa1.out 5).trans (rfl : _ = some (Value.slice aP pl.length cP))
          have hla := blk_lt HGa1.out
          go_upto_region 13 with ((with_reducible refine gate_builtin (b := .append) (xs := #[.tmp 88, .tmp 91]) rfl ?_); at_builtin; refine Kd.R_append (kCo) (w0 := wc) (wc.heap.size) rfl (.tmp 88) (.tmp 91) 27 44 (.agg #[(.string ⟨#[]⟩), (.int .i64 0), (.int .i64 0), (.int .i64 0), (.string ⟨#[]⟩)]) 56 rfl Tryd.underlying27 infoCo rfl (by decide) (by omega) (.slice aP pl.length cP) (pl) ((nm, 1, -9223372036854775808, 9223372036854775807, ⟨#[]⟩)) [.string nm, .int .i64 1, .int .i64 (-9223372036854775808), .int .i64 9223372036854775807, .string ⟨#[]⟩] (fun _ => True) (fun _ => False) rfl ?aX ?aP (fun _ hk => hk.elim) ?aF ?aO ?aB ?aS ?aL ?_; (case aX => first | rfl | (simp [Act.eval]; done)); (case aP => exact rfl); (case aB => exact (by repeat (with_reducible first | exact HWq.out | apply below_alloc | apply pw_below_drewN | apply below_drew1))); (case aF => exact (fun _ _ => trivial)); (case aO => exact (by (with_reducible repeat (first | apply Kd.R_alloc | apply Kd.R_drewN | apply Kd.R_drew)); exact HPq.out)); (case aS => exact (below_size (by repeat (with_reducible first | exact HWq.out | apply below_alloc | apply pw_below_drewN | apply below_drew1)))); (case aL => omega); intro v1 w1 ho hb hg hat; obtain ⟨A1, k1, rfl⟩ := Kd.R_slice ho; have HGa2 := Aside0.mk (blk_grown HGa1.out hg (R_ne HPq.out HGa1.out (by decide))); have HGb2 := Aside0.mk (blk_grown HGb1.out hg (R_ne HPq.out HGb1.out (by decide))); have HA2 := Aside0.mk (Kd.R_over HAq.out HPq.out at_coW hg); have HP2 := Aside0.mk ho; have HW2 := Aside0.mk hb; have z5 := (blk_cell HGa2.out 5).trans (rfl : _ = some (Value.slice aP pl.length cP)); have f5 := blk_frozen HGa2.out 5; have hlb2 := blk_lt HGa2.out; clear ho hb hg hat q5 hla)
          have HGa3 := Aside0.mk (blk_put HGa2.out 5 (.slice A1 (pl.length + 1) k1) rfl)
          have HGb3 := Aside0.mk (blk_far (p := ⟨wc.heap.size, 5, none⟩) HGb2.out (by show wc.heap.size + 1 ≠ wc.heap.size; omega) (.slice A1 (pl.length + 1) k1))
          have HA3 := Aside0.mk (R_block HA2.out rfl HGa2.out (by decide) ((KeepBut.refl _ wc.heap.size none).set_ 5 (.slice A1 (pl.length + 1) k1)))
          have HP3 := Aside0.mk (R_block HP2.out rfl HGa2.out (by decide) ((KeepBut.refl _ wc.heap.size none).set_ 5 (.slice A1 (pl.length + 1) k1)))
          have HW3 := Aside0.mk (below_set HW2.out (Nat.le_refl wc.heap.size) (j := 5) (v := .slice A1 (pl.length + 1) k1))
          clear z5 f5 hlb2 HGa1 HGb1 HPq HAq HWq HGa2 HGb2 HA2 HP2 HW2
          generalize w1.setCell ⟨wc.heap.size, 5, none⟩ (.slice A1 (pl.length + 1) k1) = wt at *
          have q6 := (blk_cell HGb3.out 6).trans (rfl : _ = some (Value.slice aA al.length cA))
          have hlb3 := blk_lt HGb3.out
          have HX1 : Hid (coS kk = (nm, 1, -9223372036854775808, 9223372036854775807, ⟨#[]⟩)) := Lib.hid (by unfold coS; rw [HNM.out])
          have HX2 : Hid (atS kk = (nm, true, 0, ⟨#[97, 98, 99, 100, 101, 102, 103, 104, 105, 106, 107, 108]⟩)) := Lib.hid (by unfold atS; rw [HNM.out])
          go_wp2_with ((with_reducible refine gate_builtin (b := .append) (xs := #[.tmp 95, .tmp 99]) rfl ?_); at_builtin; refine Kd.R_append (kAt) (w0 := wc) (wc.heap.size) rfl (.tmp 95) (.tmp 99) 28 59 (.agg #[(.string ⟨#[]⟩), (.bool false), (.int .i64 0), (.string ⟨#[]⟩)]) 48 rfl Tryd.underlying28 infoAt rfl (by decide) (by omega) (.slice aA al.length cA) (al) ((nm, true, 0, ⟨#[97, 98, 99, 100, 101, 102, 103, 104, 105, 106, 107, 108]⟩)) [.string nm, .bool true, .int .i64 0, .string ⟨#[97, 98, 99, 100, 101, 102, 103, 104, 105, 106, 107, 108]⟩] (fun _ => True) (fun _ => False) rfl ?aX ?aP (fun _ hk => hk.elim) ?aF ?aO ?aB ?aS ?aL ?_; (case aX => first | rfl | (simp [Act.eval]; done)); (case aP => exact rfl); (case aB => exact (by repeat (with_reducible first | exact HW3.out | apply below_alloc | apply pw_below_drewN | apply below_drew1))); (case aF => exact (fun _ _ => trivial)); (case aO => exact (by (with_reducible repeat (first | apply Kd.R_alloc | apply Kd.R_drewN | apply Kd.R_drew)); exact HA3.out)); (case aS => exact (below_size (by repeat (with_reducible first | exact HW3.out | apply below_alloc | apply pw_below_drewN | apply below_drew1)))); (case aL => omega); intro v1 w1 ho hb hg hat; obtain ⟨A2', k2, rfl⟩ := Kd.R_slice ho; have HGb4 := Aside0.mk (blk_grown HGb3.out hg (R_ne HA3.out HGb3.out (by decide))); have HGa4 := Aside0.mk (blk_grown HGa3.out hg (R_ne HA3.out HGa3.out (by decide))); have HP4 := Aside0.mk (Kd.R_over HP3.out HA3.out co_atW hg); have HA4 := Aside0.mk ho; have HW4 := Aside0.mk hb; have z6 := (blk_cell HGb4.out 6).trans (rfl : _ = some (Value.slice aA al.length cA)); have f6 := blk_frozen HGb4.out 6; have hlb4 := blk_lt HGb4.out; clear ho hb hg hat q6 hlb3)
          go_roundw
          case rel => exact ⟨kk + 1, pl ++ [(nm, 1, -9223372036854775808, 9223372036854775807, ⟨#[]⟩)], al ++ [(nm, true, 0, ⟨#[97, 98, 99, 100, 101, 102, 103, 104, 105, 106, 107, 108]⟩)], A1, k1, A2', k2, by omega, by go_num, Lib.hid ⟨by rw [bigP, List.range_succ, List.map_append, ← bigP, ← HPL.out.1, List.map_singleton, HX1.out], by rw [pubA, List.range_succ, List.map_append, ← pubA, ← HPL.out.2, List.map_singleton, HX2.out]⟩,
            ⟨by rw [show (pl ++ [((nm, 1, -9223372036854775808, 9223372036854775807, ⟨#[]⟩) : Co)]).length = pl.length + 1 by simp]; exact blk_far (p := ⟨wc.heap.size + 1, 6, none⟩) HGa4.out (by show wc.heap.size ≠ wc.heap.size + 1; omega) _⟩,
            ⟨by rw [show (al ++ [((nm, true, 0, ⟨#[97, 98, 99, 100, 101, 102, 103, 104, 105, 106, 107, 108]⟩) : At)]).length = al.length + 1 by simp]; exact blk_put HGb4.out 6 _ rfl⟩,
            ⟨R_block HP4.out rfl HGb4.out (by decide) ((KeepBut.refl _ (wc.heap.size + 1) none).set_ 6 _)⟩, ⟨R_block HA4.out rfl HGb4.out (by decide) ((KeepBut.refl _ (wc.heap.size + 1) none).set_ 6 _)⟩, ⟨below_set HW4.out (Nat.le_succ _)⟩⟩
          case measure => simp [intOf]; omega
    case rest =>
      obtain ⟨aP, cP, aA, cA, HGa, HGb, HPp, HAa, HWc⟩ := hcut
      clear HG12 HG13 HWl
      have hR0 := HR0.out
      have HRB := Lib.hid (right_big r0 hR0.1 hR0.2)
      have HRP := Lib.hid right_pub
      have HWB := Lib.hid (wf_big r0)
      have HSB : Hid (SmM ⟨3, 31, 9223372036854775807, r0, 0, bigP 5, []⟩) := Lib.hid ⟨sm_bigP, fun y hy => (by cases hy)⟩
      have HSP : Hid (SmM ⟨5, 31, 9223372036854775807, 0, 0, [], pubA 5⟩) := Lib.hid ⟨fun y hy => (by cases hy), sm_pubA⟩
      have HLB := Lib.hid (len_big r0)
      have HLP := Lib.hid len_pub
      clear hR0 HR0
      generalize bigP 5 = lp at *
      generalize pubA 5 = lq at *
      have HSS := Lib.hid (show sameM ⟨3, 31, 9223372036854775807, r0, 0, lp, []⟩ ⟨3, 31, 9223372036854775807, r0, 0, lp, []⟩ = true by simp [sameM])
      have HBK := Lib.hid (decM_back _ HRB.out HWB.out)
      obtain ⟨b3, hb3⟩ : ∃ b, msgB ⟨3, 31, 9223372036854775807, r0, 0, lp, []⟩ = b := ⟨_, rfl⟩
      obtain ⟨b4, hb4⟩ : ∃ b, msgB ⟨5, 31, 9223372036854775807, 0, 0, [], lq⟩ = b := ⟨_, rfl⟩
      have HBY : Hid (Byt b3) := Lib.hid (hb3 ▸ byt_msgB _)
      rw [hb3] at HLB HBK
      rw [hb4] at HLP
      have HE3 := Lib.hid hb3
      have HE4 := Lib.hid hb4
      clear hb3 hb4
      have hl3 : (b3.length : Int) ≤ 600 := by have := HLB.out; omega
      have hl4 : (b4.length : Int) ≤ 600 := by have := HLP.out; omega
      have hl5 : b3.length ≤ 600 := HLB.out
      have hd3 : decide ((b3.length : Int) ≤ 600) = true := decide_eq_true hl3
      have hd4 : decide ((b4.length : Int) ≤ 600) = true := decide_eq_true hl4
      have HLm := Aside0.mk (⟨(Kd.R_reads' HPp.out).2.2, nilAt _⟩ : LiesM _ ⟨3, 31, 9223372036854775807, r0, 0, lp, []⟩ aP none)
      have HLn := Aside0.mk (⟨nilCo _, (Kd.R_reads' HAa.out).2.2⟩ : LiesM _ ⟨5, 31, 9223372036854775807, 0, 0, [], lq⟩ none aA)
      have HW := Aside0.mk (below_step HB.out HWc.out)
      clear HPp HAa HWc HB
      have q0 := (blk_cell HGa.out 0).trans (rfl : _ = some (Value.int .i64 3))
      have q1 := (blk_cell HGa.out 1).trans (rfl : _ = some (Value.int .i64 31))
      have q2 := (blk_cell HGa.out 2).trans (rfl : _ = some (Value.int .i64 9223372036854775807))
      have q3 := (blk_cell HGa.out 3).trans (rfl : _ = some (Value.int .i64 r0))
      have q4 := (blk_cell HGa.out 4).trans (rfl : _ = some (Value.int .i64 0))
      have q5 := (blk_cell HGa.out 5).trans (rfl : _ = some (Value.slice aP lp.length cP))
      have q6 := (blk_cell HGa.out 6).trans (rfl : _ = some (Value.slice none 0 0))
      have hla := blk_lt HGa.out
      go_upto_region 16 with (go_at_call 21; refine (enc_right ⟨3, 31, 9223372036854775807, r0, 0, lp, []⟩ aP cP none 0 _ HLm.out HSB.out HRB.out).mono ?_; rintro e w5 ⟨v, rfl, hR, hB⟩; rw [HE3.out] at hR; obtain ⟨A3, c3, rfl, hc3, hC3⟩ := Kd.R_reads hR; have HC3 := Aside0.mk hC3; replace HGa := Aside0.mk (blk_below HGa.out hB); replace HGb := Aside0.mk (blk_below HGb.out hB); replace HLm := Aside0.mk (LiesM.below HLm.out hB); replace HLn := Aside0.mk (LiesM.below HLn.out hB); replace HW := Aside0.mk (below_step HW.out hB); clear hR hB hC3)
      clear q0 q1 q2 q3 q4 q5 q6 hla
      have q0 := (blk_cell HGb.out 0).trans (rfl : _ = some (Value.int .i64 5))
      have q1 := (blk_cell HGb.out 1).trans (rfl : _ = some (Value.int .i64 31))
      have q2 := (blk_cell HGb.out 2).trans (rfl : _ = some (Value.int .i64 9223372036854775807))
      have q3 := (blk_cell HGb.out 3).trans (rfl : _ = some (Value.int .i64 0))
      have q4 := (blk_cell HGb.out 4).trans (rfl : _ = some (Value.int .i64 0))
      have q5 := (blk_cell HGb.out 5).trans (rfl : _ = some (Value.slice none 0 0))
      have q6 := (blk_cell HGb.out 6).trans (rfl : _ = some (Value.slice aA lq.length cA))
      have hlb := blk_lt HGb.out
      go_upto_region 17 with (go_at_call 21; refine (enc_right ⟨5, 31, 9223372036854775807, 0, 0, [], lq⟩ none 0 aA cA _ HLn.out HSP.out HRP.out).mono ?_; rintro e w6 ⟨v, rfl, hR, hB⟩; rw [HE4.out] at hR; obtain ⟨A4, c4, rfl, hc4, hC4⟩ := Kd.R_reads hR; replace HC3 := Aside0.mk (Kd.C_below HC3.out hB); replace HGa := Aside0.mk (blk_below HGa.out hB); replace HLm := Aside0.mk (LiesM.below HLm.out hB); replace HW := Aside0.mk (below_step HW.out hB); clear hR hB hC4)
      clear q0 q1 q2 q3 q4 q5 q6 hlb HGb HLn
      have HD : Hid (∀ W, Kd.C (Kd.int .u8) W A3 b3.length b3 → Calls Tryd.prog 36 #[.slice A3 b3.length c3] W fun e w' => ∃ B5 n5 B6 n6, e = .returned (.tuple #[.agg #[.int .i64 3, .int .i64 31, .int .i64 9223372036854775807, .int .i64 r0, .int .i64 0, .slice B5 lp.length n5, .slice B6 ([] : List At).length n6], .nilIface]) ∧ LiesM w' ⟨3, 31, 9223372036854775807, r0, 0, lp, []⟩ B5 B6 ∧ Below W.heap.size W w') := Lib.hid (fun W h => by
        refine (decM_calls A3 c3 b3 W h HBY.out (by omega)).mono ?_
        rintro e w' ⟨h1, _, hB⟩
        obtain ⟨B5, n5, B6, n6, rfl, hL, _⟩ := h1 _ HBK.out
        exact ⟨B5, n5, B6, n6, rfl, hL, hB⟩)
      go_upto_region 18 with (go_at_call 36; refine (HD.out _ HC3.out).mono ?_; rintro e w7 ⟨B5, n5, B6, n6, rfl, hL, hB⟩; have HLy := Aside0.mk (LiesM.below hL (below_alloc (Below.refl w7.heap.size w7) (.cells #[.int .i64 3, .int .i64 31, .int .i64 9223372036854775807, .int .i64 r0, .int .i64 0, .slice B5 lp.length n5, .slice B6 ([] : List At).length n6] 50))); have HGy := Aside0.mk (blk_new w7 (.cells #[.int .i64 3, .int .i64 31, .int .i64 9223372036854775807, .int .i64 r0, .int .i64 0, .slice B5 lp.length n5, .slice B6 ([] : List At).length n6] 50)); replace HGa := Aside0.mk (blk_alloc (blk_below HGa.out hB) (.cells #[.int .i64 3, .int .i64 31, .int .i64 9223372036854775807, .int .i64 r0, .int .i64 0, .slice B5 lp.length n5, .slice B6 ([] : List At).length n6] 50)); replace HLm := Aside0.mk (LiesM.below HLm.out (below_alloc hB (.cells #[.int .i64 3, .int .i64 31, .int .i64 9223372036854775807, .int .i64 r0, .int .i64 0, .slice B5 lp.length n5, .slice B6 ([] : List At).length n6] 50))); replace HW := Aside0.mk (below_alloc (below_step HW.out hB) (.cells #[.int .i64 3, .int .i64 31, .int .i64 9223372036854775807, .int .i64 r0, .int .i64 0, .slice B5 lp.length n5, .slice B6 ([] : List At).length n6] 50)); clear hL hB)
      clear HD HC3
      generalize w7.alloc (.cells #[.int .i64 3, .int .i64 31, .int .i64 9223372036854775807, .int .i64 r0, .int .i64 0, .slice B5 lp.length n5, .slice B6 ([] : List At).length n6] 50) = wk at *
      generalize w7.heap.size = gq at *
      have q0 := (blk_cell HGa.out 0).trans (rfl : _ = some (Value.int .i64 3))
      have q1 := (blk_cell HGa.out 1).trans (rfl : _ = some (Value.int .i64 31))
      have q2 := (blk_cell HGa.out 2).trans (rfl : _ = some (Value.int .i64 9223372036854775807))
      have q3 := (blk_cell HGa.out 3).trans (rfl : _ = some (Value.int .i64 r0))
      have q4 := (blk_cell HGa.out 4).trans (rfl : _ = some (Value.int .i64 0))
      have q5 := (blk_cell HGa.out 5).trans (rfl : _ = some (Value.slice aP lp.length cP))
      have q6 := (blk_cell HGa.out 6).trans (rfl : _ = some (Value.slice none 0 0))
      have hla := blk_lt HGa.out
      have y0 := (blk_cell HGy.out 0).trans (rfl : _ = some (Value.int .i64 3))
      have y1 := (blk_cell HGy.out 1).trans (rfl : _ = some (Value.int .i64 31))
      have y2 := (blk_cell HGy.out 2).trans (rfl : _ = some (Value.int .i64 9223372036854775807))
      have y3 := (blk_cell HGy.out 3).trans (rfl : _ = some (Value.int .i64 r0))
      have y4 := (blk_cell HGy.out 4).trans (rfl : _ = some (Value.int .i64 0))
      have y5 := (blk_cell HGy.out 5).trans (rfl : _ = some (Value.slice B5 lp.length n5))
      have y6 := (blk_cell HGy.out 6).trans (rfl : _ = some (Value.slice B6 ([] : List At).length n6))
      have hly := blk_lt HGy.out
      go_wp2_with (first
        | (replace HZ9 := HZ9; go_at_call 5; refine (wireRuns_calls _ (HG.out.below HW.out)).mono ?_; rintro e w9 ⟨rfl, hB⟩; have HWf := Aside0.mk (below_step HW.out hB); clear hB)
        | (go_at_call 37; refine (msgs_calls ⟨3, 31, 9223372036854775807, r0, 0, lp, []⟩ B5 n5 B6 n6 ⟨3, 31, 9223372036854775807, r0, 0, lp, []⟩ aP cP none 0 _ HLy.out HLm.out).mono ?_; rintro e w8 ⟨he, hB⟩; rw [HSS.out] at he; subst he; have HZ9 := Aside0.mk True.intro; replace HW := Aside0.mk (below_step HW.out hB); clear hB))
      go_ret
      exact ⟨rfl, HWf.out⟩
end Go.Proofs.YtbplemhjhpfkgaaDoor.Wr
